/-
  CrData, CrLast, CrWhere, CrAsk, CrBegin, in one text.
-/
import Derived.Test.YtapgjjfndbfnpaaDoorCliPlain
import Derived.Test.YtapgjjfndbfnpaaDoorCliApp
import Derived.Deep.MidRow
import Derived.Deep.WholeRow
import Derived.Test.YtapgjjfndbfnpaaDoorRegInv
import Derived.Deep.RegionHeld3
import Derived.BigRegion
import Derived.Test.YtapgjjfndbfnpaaDoorCvRef
import Derived.Deep.CutRange
namespace Go.Proofs.YtapgjjfndbfnpaaDoor.Rf
open Go.RowKit
set_option linter.unusedVariables false

/-- The client at block c, its ops in a block of its own from lo on; X: other blocks that somebody changes. -/
structure ClM (X : Nat → Prop) (lo : Nat) (w : World) (c : Nat) (R : ClR) : Prop where
  hlo : lo ≤ c
  blk : w.heap[c]? = some (.cells R.cells 70)
  own : w.ownsRow lo 79 17 R.ov R.rs.length (ocells R.rs)
  ops : R.rs.map (·.o) = R.s.ops
  ne : R.ov.ownBlock ≠ some c
  bev : ∀ r ∈ R.rs, EvA (fun k => R.mut c k ∨ X k) w r.bev r.o.b.events
  evv : ∀ r ∈ R.rs, EvA (fun k => R.mut c k ∨ X k) w r.evv r.o.events
  ep : Vw.I64 R.s.v.epoch
  sm : Vw.SmallV R.s.v
  wh : Vw.I64 R.s.which
  cv : InA (fun k => R.mut c k ∨ X k) w R.cv R.s.v.chain
  sv : InA (fun k => R.mut c k ∨ X k) w R.sv R.s.v.since
  bv : InA (fun k => R.mut c k ∨ X k) w R.bv R.s.v.boot
  xlt : ∀ k, X k → k < w.heap.size
  xne : ∀ k, X k → ¬ R.mut c k
variable {X : Nat → Prop} {lo c : Nat} {w w' : World} {R R' : ClR}
theorem ClM.clt (h : ClM X lo w c R) : c < w.heap.size := (Array.getElem?_eq_some_iff.1 h.blk).1
theorem ClM.ownlo (h : ClM X lo w c R) {k : Nat} (hk : R.ov.ownBlock = some k) : lo ≤ k ∧ k < w.heap.size := by
  rcases h.own.2 with ⟨e, _⟩ | ⟨g, cap, cur, e, hb, hg, _⟩
  · rw [e] at hk; exact absurd hk (by simp [Value.ownBlock])
  · rw [e] at hk
    have e2 : g = k := Option.some.inj hk
    subst e2
    exact ⟨hb, (Array.getElem?_eq_some_iff.1 hg).1⟩
theorem ClM.mutlo (h : ClM X lo w c R) (k : Nat) (hk : R.mut c k) : lo ≤ k ∧ k < w.heap.size := by
  rcases hk with rfl | hk
  · exact ⟨h.hlo, h.clt⟩
  · exact h.ownlo hk
theorem ClM.len (h : ClM X lo w c R) : R.rs.length = R.s.ops.length := by rw [← h.ops, List.length_map]
theorem step_under (h : Step c R R' w w') (hm : ClM X lo w c R) : Below lo w w' := h.kept.below (by have := hm.clt; have := hm.hlo; omega) (fun k hk => (hm.mutlo k hk).1)
/-- Where nothing of it is changed. -/
theorem ClM.kept {T : Nat → Prop} (h : ClM X lo w c R) (hk : Kept T w w') (hT : ∀ k, T k → X k) : ClM X lo w' c R := by
  have hT' : ∀ k, k < w.heap.size → T k → R.mut c k ∨ X k := fun k _ ht => .inr (hT k ht)
  have hU : ∀ k, k < w.heap.size → R.mut c k ∨ X k → R.mut c k ∨ X k := fun _ _ h => h
  refine ⟨h.hlo, (hk.block c h.clt (fun ht => h.xne c (hT c ht) (.inl rfl))).trans h.blk, ?_, h.ops, h.ne, fun r hr => (h.bev r hr).keep hk hT' hU, fun r hr => (h.evv r hr).keep hk hT' hU, h.ep, h.sm, h.wh, h.cv.keep hk hT' hU, h.sv.keep hk hT' hU, h.bv.keep hk hT' hU,
    fun k hx => Nat.lt_of_lt_of_le (h.xlt k hx) hk.size, h.xne⟩
  refine ⟨h.own.1, ?_⟩
  rcases h.own.2 with e | ⟨g, cap, cur, e, hb, hg, r⟩
  · exact .inl e
  · refine .inr ⟨g, cap, cur, e, hb, (hk.block g (Array.getElem?_eq_some_iff.1 hg).1 (fun ht => h.xne g (hT g ht) (.inr (by rw [e]; rfl)))).trans hg, r⟩
theorem ClM.keep (h : ClM X lo w c R) (hb : Below w.heap.size w w') : ClM X lo w' c R := h.kept (T := fun _ => False) (kept_below hb) (fun _ h => h.elim)
theorem ClM.drew (h : ClM X lo w c R) : ClM X lo w.drew c R := h.keep (Below.refl _ _).drew
/-- Where its ops lie, if there are any. -/
theorem ClM.row (h : ClM X lo w c R) (hn : 0 < R.rs.length) : ∃ g cap cur, R.ov = .slice (some ⟨g, 0, none⟩) R.rs.length cap ∧ lo ≤ g ∧ g ≠ c ∧ w.heap[g]? = some (.cells cur 79) ∧ R.rs.length ≤ cap ∧ cap ≤ maxLen ∧ cur.size = cap * 17 ∧ cur.toList.take (R.rs.length * 17) = ocells R.rs := by
  rcases h.own.2 with ⟨_, e⟩ | ⟨g, cap, cur, e, hb, hg, r1, r2, r3, r4⟩
  · omega
  · exact ⟨g, cap, cur, e, hb, fun e2 => h.ne (by rw [e, e2]; rfl), hg, r1, r2, r3, r4⟩
theorem ClM.form (h : ClM X lo w c R) : ∃ a cap, R.ov = .slice a R.rs.length cap := by
  rcases h.own.2 with ⟨e, h0⟩ | ⟨g, cap, cur, e, _⟩
  · exact ⟨none, 0, by rw [e, h0]⟩
  · exact ⟨_, cap, e⟩
theorem ClM.plain (h : ClM X lo w c R) : ∀ r ∈ R.rs, r.Plain := fun r hr => ⟨(h.bev r hr).plain, (h.evv r hr).plain⟩
theorem ClM.bevK {R' : ClR} (h : ClM X lo w c R) (st : Step c R R' w w') : ∀ r ∈ R.rs, EvA (fun k => R'.mut c k ∨ X k) w' r.bev r.o.b.events := fun r hr =>
  (h.bev r hr).keep st.kept (fun _ _ ht => .inl ht) (fun k hk hu => hu.imp (st.grow k hk) id)
theorem ClM.evvK {R' : ClR} (h : ClM X lo w c R) (st : Step c R R' w w') : ∀ r ∈ R.rs, EvA (fun k => R'.mut c k ∨ X k) w' r.evv r.o.events := fun r hr =>
  (h.evv r hr).keep st.kept (fun _ _ ht => .inl ht) (fun k hk hu => hu.imp (st.grow k hk) id)
theorem ClM.xltK {R' : ClR} (h : ClM X lo w c R) (st : Step c R R' w w') : ∀ k, X k → k < w'.heap.size := fun k hx => Nat.lt_of_lt_of_le (h.xlt k hx) st.kept.size
theorem ClM.xneK {R' : ClR} (h : ClM X lo w c R) (st : Step c R R' w w') : ∀ k, X k → ¬ R'.mut c k := fun k hx hm => h.xne k hx (st.grow k (h.xlt k hx) hm)
/-- A store into one of its own cells. -/
theorem ClM.putStep (c : Nat) (R : ClR) (w : World) (o : Nat) (x : Value) (s' : ClW) : Step c R { R with s := s' } w (w.setCell ⟨c, o, none⟩ x) :=
  ⟨(Kept.refl _ w).store ⟨c, o, none⟩ (.inl (.inl rfl)) x, fun _ _ h => h⟩
theorem ClM.put (h : ClM X lo w c R) (o : Nat) (x : Value) (s' : ClW) (ho : s'.ops = R.s.ops) (hv : s'.v = R.s.v) (hwh : Vw.I64 s'.which) (hc : ({ R with s := s' } : ClR).cells = R.cells.setIfInBounds o x) :
    ClM X lo (w.setCell ⟨c, o, none⟩ x) c { R with s := s' } := by
  have st := ClM.putStep c R w o x s'
  refine ⟨h.hlo, by rw [hc]; exact block_set2 h.blk o x, Vw.own_set_ne h.own c o h.ne x, by rw [ho]; exact h.ops, h.ne, h.bevK st, h.evvK st, by rw [hv]; exact h.ep, by rw [hv]; exact h.sm, hwh, by rw [hv]; exact ina_k h.cv st, by rw [hv]; exact ina_k h.sv st, by rw [hv]; exact ina_k h.bv st, h.xltK st, h.xneK st⟩
/-- Its view. -/
theorem ClM.view (h : ClM X lo w c R) : Vw.IsView w.heap.size w (.agg #[.int .i64 R.s.v.epoch, R.cv, R.sv, R.bv]) R.s.v := ⟨h.ep, _, _, _, rfl, h.cv.1, h.sv.1, h.bv.1⟩
theorem newR_is (X : Nat → Prop) (lo : Nat) (w : World) (session wait : Int) (hlo : lo ≤ w.heap.size) (hX : ∀ k, X k → k < w.heap.size) :
    ClM X lo (w.alloc (.cells (newR session wait).cells 70)) w.heap.size (newR session wait) where
  hlo := hlo
  blk := heap_alloc_new _ _
  own := ⟨rfl, .inl ⟨rfl, rfl⟩⟩
  ops := rfl
  ne := by simp [newR, Value.ownBlock]
  bev := fun r hr => absurd hr (by simp [newR])
  evv := fun r hr => absurd hr (by simp [newR])
  ep := by simp [newR, Vw.zeroV, Vw.I64]
  sm := by simp [newR, Vw.zeroV, Vw.SmallV]
  wh := by simp [newR, Vw.I64]
  cv := ina_nil _ _
  sv := ina_nil _ _
  bv := ina_nil _ _
  xlt := fun k hk => by rw [World.size_alloc]; have := hX k hk; omega
  xne := fun k hk hm => by
    rcases hm with e | e
    · have := hX k hk; omega
    · exact absurd e (by simp [newR, Value.ownBlock])
set_option maxHeartbeats 400000 in
theorem new_ok (session wait : Int) (h : newOk session wait = true) (w : World) :
    Calls Tryd.prog 19 #[.int .i64 session, .int .i64 wait] w fun e w' => e = .returned (.tuple #[.pointer (some ⟨w.heap.size, 0, none⟩), .int .i64 0]) ∧ w' = w.alloc (.cells (newR session wait).cells 70) := by
  simp only [newOk, Bool.and_eq_true, decide_eq_true_eq] at h
  obtain ⟨⟨⟨h1, h2⟩, h3⟩, h4⟩ := h
  go_enter Tryd.func19, Tryd.ntmps19
  go_wp2_with fail
  go_ret2
  exact ⟨rfl, rfl⟩
set_option maxHeartbeats 400000 in
theorem new_no (session wait : Int) (h : newOk session wait = false) (w : World) :
    Calls Tryd.prog 19 #[.int .i64 session, .int .i64 wait] w fun e w' => e = .returned (.tuple #[.pointer none, .int .i64 1]) ∧ w' = w := by
  have h : session < 1 ∨ 137438953472 < session ∨ wait < 1 ∨ 1073741824 < wait := by
    simp only [newOk, Bool.and_eq_false_iff, decide_eq_false_iff_not] at h
    omega
  by_cases h1 : session < 1
  · go_enter Tryd.func19, Tryd.ntmps19
    go_wp2_with fail
    go_ret2
    exact ⟨rfl, rfl⟩
  · by_cases h2 : 137438953472 < session
    · go_enter Tryd.func19, Tryd.ntmps19
      go_wp2_with fail
      go_ret2
      exact ⟨rfl, rfl⟩
    · by_cases h3 : wait < 1
      · go_enter Tryd.func19, Tryd.ntmps19
        go_wp2_with fail
        go_ret2
        exact ⟨rfl, rfl⟩
      · have h4 : 1073741824 < wait := by omega
        go_enter Tryd.func19, Tryd.ntmps19
        go_wp2_with fail
        go_ret2
        exact ⟨rfl, rfl⟩
/-- Its cells. -/
theorem ClM.c0 (h : ClM X lo w c R) : w.cell? ⟨c, 0, none⟩ = some (.int .i64 R.s.session) := by rw [Lib.cell_of_heap h.blk]; rfl
theorem ClM.c1 (h : ClM X lo w c R) : w.cell? ⟨c, 1, none⟩ = some (.int .i64 R.s.wait) := by rw [Lib.cell_of_heap h.blk]; rfl
theorem ClM.c2 (h : ClM X lo w c R) : w.cell? ⟨c, 2, none⟩ = some R.ov := by rw [Lib.cell_of_heap h.blk]; rfl
theorem ClM.c3 (h : ClM X lo w c R) : w.cell? ⟨c, 3, none⟩ = some (.bool R.s.pending) := by rw [Lib.cell_of_heap h.blk]; rfl
theorem ClM.c4 (h : ClM X lo w c R) : w.cell? ⟨c, 4, none⟩ = some (.int .i64 R.s.which) := by rw [Lib.cell_of_heap h.blk]; rfl
theorem ClM.c5 (h : ClM X lo w c R) : w.cell? ⟨c, 5, none⟩ = some (.int .i64 R.s.asked) := by rw [Lib.cell_of_heap h.blk]; rfl
theorem ClM.c6 (h : ClM X lo w c R) : w.cell? ⟨c, 6, none⟩ = some (.int .i64 R.s.v.epoch) := by rw [Lib.cell_of_heap h.blk]; rfl
theorem ClM.c7 (h : ClM X lo w c R) : w.cell? ⟨c, 7, none⟩ = some R.cv := by rw [Lib.cell_of_heap h.blk]; rfl
theorem ClM.c8 (h : ClM X lo w c R) : w.cell? ⟨c, 8, none⟩ = some R.sv := by rw [Lib.cell_of_heap h.blk]; rfl
theorem ClM.c9 (h : ClM X lo w c R) : w.cell? ⟨c, 9, none⟩ = some R.bv := by rw [Lib.cell_of_heap h.blk]; rfl
theorem ClM.fr (h : ClM X lo w c R) (o : Nat) : w.frozen? ⟨c, o, none⟩ = false := Lib.frozen_of_heap h.blk o
/-- The last op, where it lies. -/
theorem ClM.last {X : Nat → Prop} {lo c : Nat} {w : World} {R : ClR} (h : ClM X lo w c R) {l : List OpR} {r : OpR} (hr : R.rs = l ++ [r]) :
    ∃ g cap, R.ov = .slice (some ⟨g, 0, none⟩) (l.length + 1) cap ∧ lo ≤ g ∧ g ≠ c ∧ g < w.heap.size ∧ (∀ j, j < 17 → w.cell? ⟨g, l.length * 17 + j, none⟩ = r.cells[j]?) ∧ (∀ o, w.frozen? ⟨g, o, none⟩ = false) := by
  obtain ⟨g, cap, cur, hv, h1, h2, h3, h4, h5, h6, h7⟩ := h.row (by rw [hr]; simp)
  refine ⟨g, cap, by rw [hv, hr]; simp, h1, h2, (Array.getElem?_eq_some_iff.1 h3).1, fun j hj => ?_, fun o => Lib.frozen_of_heap h3 o⟩
  rw [row_cell h3 h7 l.length j (by rw [hr]; simp) hj rfl]
  simp [hr]
theorem ClM.lastS (h : ClM X lo w c R) {l : List OpR} {r : OpR} (hr : R.rs = l ++ [r]) : lastS R.s = r.o := by
  rw [Proofs.YtapgjjfndbfnpaaDoor.lastS, ← h.ops, hr]
  simp
theorem ClM.split (h : ClM X lo w c R) (hn : R.s.ops ≠ []) : ∃ l r, R.rs = l ++ [r] := by
  have : R.rs ≠ [] := by intro e; apply hn; rw [← h.ops, e]; rfl
  exact ⟨R.rs.dropLast, R.rs.getLast this, (List.dropLast_concat_getLast this).symm⟩
end Go.Proofs.YtapgjjfndbfnpaaDoor.Rf
namespace Go.Proofs.YtapgjjfndbfnpaaDoor.Rf
open Go.RowKit
set_option linter.unusedSimpArgs false
set_option linter.unusedVariables false

theorem opsize : (Tryd.prog.info? 79).map (·.size) = some 17 := by kernel_rfl
theorem there_new {w : World} {g : Nat} {cs : Array Value} {t : TypeId} (h : w.heap[g]? = some (.cells cs t)) : w.there g 0 cs.size := fun j hj => by
  refine ⟨?_, Lib.frozen_of_heap h _⟩
  rw [Lib.cell_of_heap h]
  simp [hj]
theorem set_whole {w : World} {g : Nat} {cs : Array Value} {vs : List Value} {t : TypeId} {fz : Nat × Nat} (h : w.heap[g]? = some (.cells cs t fz)) (hl : vs.length = cs.size) : (w.setCells g 0 vs).heap[g]? = some (.cells vs.toArray t fz) := by
  obtain ⟨cur, h1, h2⟩ := Vw.setCells_block g t fz vs 0 w cs h (by omega)
  have e : cur = vs.toArray := by
    apply Array.toList_inj.1
    rw [h2]
    simp [hl]
  rw [h1, e]
theorem below_setCells {B : Nat} {a w : World} (h : Below B a w) (g : Nat) (hg : B ≤ g) : ∀ (vs : List Value) (o : Nat) (w : World), Below B a w → Below B a (w.setCells g o vs)
  | [], _, _, h => h
  | v :: vs, o, w, h => below_setCells h g hg vs (o + 1) _ (h.setCell (p := ⟨g, o, none⟩) hg v)
theorem ret_op {P : Program} {fn : Func} {p : Tmp} {ty : TypeId} (h : fn.results = #[.cell p ty]) (tmps : Array Value) (W : World) (g : Nat) (cs : Array Value) (t : TypeId) (fr : Nat × Nat) (d : TypeDesc)
    (hp : tmps.getD p undef = .pointer (some ⟨g, 0, none⟩)) (hg : W.heap[g]? = some (.cells cs t fr))
    (hu : P.underlying ty = some d) (hd : (match d with | .struct _ | .array _ _ => true | _ => false) = true) (hi : (P.info? ty).map (·.size) = some cs.size) :
    (results fn tmps).run P W = .ok (.agg cs) W :=
  results_cell_row (P := P) h tmps W g t cs fr d hp hg hu hd hi

set_option maxRecDepth 100000 in
set_option maxHeartbeats 1600000 in
theorem last_any (X : Nat → Prop) (lo c : Nat) (R : ClR) (w : World) (h : ClM X lo w c R) (l : List OpR) (r : OpR) (hr : R.rs = l ++ [r]) (hm : l.length ≤ 1000000) (cs : List Value) (hcs0 : r.cells = cs) :
    Calls Tryd.prog 46 #[.pointer (some ⟨c, 0, none⟩)] w fun e w' => e = .returned (.agg cs.toArray) ∧ Below w.heap.size w w' := by
  obtain ⟨g, cap, hov, hgl, hgc, hgs, hcell, -⟩ := h.last hr
  have c2 := h.c2
  rw [hov] at c2
  have hlen : cs.length = 17 := by rw [← hcs0]; rfl
  have hpl := h.plain r (by rw [hr]; simp)
  have HPL := Lib.hid (show cs.toArray.all (·.oneCell') = true from all_oneCell_toArray (fun v hv => by rw [← hcs0, ← ocells_one] at hv; exact ocells_plain (fun x hx => by obtain rfl := List.mem_singleton.1 hx; exact hpl) hv))
  have HLEN := Lib.hid hlen
  have hrg : w.rangeAt g (l.length * 17) cs := fun j v hj => by
    have h17 : j < 17 := by have := (List.getElem?_eq_some_iff.1 hj).1; omega
    rw [hcell j h17, hcs0]
    exact hj
  have MKS := Lib.hid (fun (X' : World) (hb2 : Below w.heap.size w X') => (show (fun X' : World => X'.cell? ⟨c, 2, none⟩ = some (.slice (some ⟨g, 0, none⟩) (l.length + 1) cap) ∧ X'.rangeAt g (l.length * 17) cs ∧ Below w.heap.size w X') X' from by
    exact ⟨(hb2.cell (p := ⟨c, 2, none⟩) h.clt).trans c2, fun j v hj => (hb2.cell (p := ⟨g, l.length * 17 + j, none⟩) hgs).trans (hrg j v hj), hb2⟩))
  have HBA := Lib.hid ((Below.refl w.heap.size w).alloc (Nat.le_refl _) (.cells #[.int .i64 0, .int .i64 0, .int .i64 0, .int .i64 0, .string ⟨#[]⟩, .int .i64 0, .int .i64 0, .int .i64 0, .slice none 0 0, .int .i64 0, .int .i64 0, .int .i64 0, .int .i64 0, .string ⟨#[]⟩, .int .i64 0, .int .i64 0, .slice none 0 0] 79)).drew
  have HGA := Lib.hid (show (w.alloc (.cells #[.int .i64 0, .int .i64 0, .int .i64 0, .int .i64 0, .string ⟨#[]⟩, .int .i64 0, .int .i64 0, .int .i64 0, .slice none 0 0, .int .i64 0, .int .i64 0, .int .i64 0, .int .i64 0, .string ⟨#[]⟩, .int .i64 0, .int .i64 0, .slice none 0 0] 79)).drew.heap[w.heap.size]? = some (.cells #[.int .i64 0, .int .i64 0, .int .i64 0, .int .i64 0, .string ⟨#[]⟩, .int .i64 0, .int .i64 0, .int .i64 0, .slice none 0 0, .int .i64 0, .int .i64 0, .int .i64 0, .int .i64 0, .string ⟨#[]⟩, .int .i64 0, .int .i64 0, .slice none 0 0] 79) from heap_alloc_new _ _)
  have i1 : (0 : Int) ≤ (l.length : Int) := by omega
  have i2 : (l.length : Int) ≤ 1000000 := by omega
  have ew : IntKind.i64.wrap (l.length : Int) = (l.length : Int) := by rw [IntKind.wrap_i64]; omega
  have i3 : (l.length : Int) < (l.length : Int) + 1 := by omega
  clear h hr hov hcell c2 hlen hpl hrg hcs0
  go_enter Tryd.func46, Tryd.ntmps46
  go_wp2_with fail
  refine region_begin (S := (fun X' : World => X'.cell? ⟨c, 2, none⟩ = some (.slice (some ⟨g, 0, none⟩) (l.length + 1) cap) ∧ X'.rangeAt g (l.length * 17) cs ∧ Below w.heap.size w X')) 13 rfl (by kernel_rfl) (MKS.out _ HBA.out) (fun hH0 => ?_)
  refine wpAnyH_take (i := 0) (oi := ?oa0) (v := ?va0) ?hia0 (by kernel_rfl) (by kernel_rfl) (by kernel_rfl) ?hQa0 ?hya0 hH0 ?_
  case hia0 => simp only [List.getElem?_toArray, List.getElem?_cons_zero]; rfl
  case hQa0 => exact fun _ _ _ h => h
  case hya0 => refine Or.inl ⟨by rfl, ?_⟩; intro W hSw; (try dsimp only at hSw); go_simp; try with_reducible rfl
  simp only [Act.put, List.setIfInBounds_toArray, List.set_cons_zero, List.set_cons_succ]
  refine wpAnyH_take (i := 1) (oi := ?oa1) (v := ?va1) ?hia1 (by kernel_rfl) (by kernel_rfl) (by kernel_rfl) ?hQa1 ?hya1 hH0 ?_
  case hia1 => simp only [List.getElem?_toArray, List.getElem?_cons_zero, List.getElem?_cons_succ]; rfl
  case hQa1 => exact fun _ _ _ h => h
  case hya1 => refine Or.inl ⟨by rfl, ?_⟩; intro W hSw; (try dsimp only at hSw); go_simp; try with_reducible rfl
  simp only [Act.put, List.setIfInBounds_toArray, List.set_cons_zero, List.set_cons_succ]
  refine wpAnyH_take (i := 2) (oi := ?oa2) (v := ?va2) ?hia2 (by kernel_rfl) (by kernel_rfl) (by kernel_rfl) ?hQa2 ?hya2 hH0 ?_
  case hia2 => simp only [List.getElem?_toArray, List.getElem?_cons_zero, List.getElem?_cons_succ]; rfl
  case hQa2 => exact fun _ _ _ h => h
  case hya2 => refine Or.inl ⟨by rfl, ?_⟩; intro W hSw; (try dsimp only at hSw); go_simp; try with_reducible rfl
  simp only [Act.put, List.setIfInBounds_toArray, List.set_cons_zero, List.set_cons_succ]
  refine wpAnyH_take (i := 3) (oi := ?oa3) (v := ?va3) ?hia3 (by kernel_rfl) (by kernel_rfl) (by kernel_rfl) ?hQa3 ?hya3 hH0 ?_
  case hia3 => simp only [List.getElem?_toArray, List.getElem?_cons_zero, List.getElem?_cons_succ]; rfl
  case hQa3 => exact fun _ _ _ h => h
  case hya3 => refine Or.inl ⟨by rfl, ?_⟩; intro W hSw; (try dsimp only at hSw); go_simp; try with_reducible rfl
  simp only [Act.put, List.setIfInBounds_toArray, List.set_cons_zero, List.set_cons_succ]
  refine wpAnyH_take (i := 4) (oi := ?oa4) (v := ?va4) ?hia4 (by kernel_rfl) (by kernel_rfl) (by kernel_rfl) ?hQa4 ?hya4 hH0 ?_
  case hia4 => simp only [List.getElem?_toArray, List.getElem?_cons_zero, List.getElem?_cons_succ]; rfl
  case hQa4 => exact fun _ _ _ h => h
  case hya4 => refine Or.inl ⟨by rfl, ?_⟩; intro W hSw; (try dsimp only at hSw); go_simp; try with_reducible rfl
  simp only [Act.put, List.setIfInBounds_toArray, List.set_cons_zero, List.set_cons_succ]
  refine wpAnyH_take (i := 5) (oi := ?oa5) (v := ?va5) ?hia5 (by kernel_rfl) (by kernel_rfl) (by kernel_rfl) ?hQa5 ?hya5 hH0 ?_
  case hia5 => simp only [List.getElem?_toArray, List.getElem?_cons_zero, List.getElem?_cons_succ]; rfl
  case hQa5 => exact fun _ _ _ h => h
  case hya5 => refine Or.inl ⟨by rfl, ?_⟩; intro W hSw; (try dsimp only at hSw); go_simp; try with_reducible rfl
  simp only [Act.put, List.setIfInBounds_toArray, List.set_cons_zero, List.set_cons_succ]
  refine wpAnyH_take (i := 6) (oi := ?oa6) (v := ?va6) ?hia6 (by kernel_rfl) (by kernel_rfl) (by kernel_rfl) ?hQa6 ?hya6 hH0 ?_
  case hia6 => simp only [List.getElem?_toArray, List.getElem?_cons_zero, List.getElem?_cons_succ]; rfl
  case hQa6 => exact fun _ _ _ h => h
  case hya6 => refine Or.inl ⟨by rfl, ?_⟩; intro W hSw; (try dsimp only at hSw); go_simp; try with_reducible rfl
  simp only [Act.put, List.setIfInBounds_toArray, List.set_cons_zero, List.set_cons_succ]
  refine wpAnyH_take (i := 7) (oi := ?oa7) (v := ?va7) ?hia7 (by kernel_rfl) (by kernel_rfl) (by kernel_rfl) ?hQa7 ?hya7 hH0 ?_
  case hia7 => simp only [List.getElem?_toArray, List.getElem?_cons_zero, List.getElem?_cons_succ]; rfl
  case hQa7 => exact fun _ _ _ h => h
  case hya7 => refine Or.inl ⟨by rfl, ?_⟩; intro W hSw; (try dsimp only at hSw); go_simp; try with_reducible rfl
  simp only [Act.put, List.setIfInBounds_toArray, List.set_cons_zero, List.set_cons_succ]
  refine wpAnyH_take (i := 8) (oi := ?oa8) (v := ?va8) ?hia8 (by kernel_rfl) (by kernel_rfl) (by kernel_rfl) ?hQa8 ?hya8 hH0 ?_
  case hia8 => simp only [List.getElem?_toArray, List.getElem?_cons_zero, List.getElem?_cons_succ]; rfl
  case hQa8 => exact fun _ _ _ h => h
  case hya8 => refine Or.inl ⟨by rfl, ?_⟩; intro W hSw; (try dsimp only at hSw); go_simp; try with_reducible rfl
  simp only [Act.put, List.setIfInBounds_toArray, List.set_cons_zero, List.set_cons_succ]
  refine wpAnyH_take (i := 9) (oi := ?oa9) (v := ?va9) ?hia9 (by kernel_rfl) (by kernel_rfl) (by kernel_rfl) ?hQa9 ?hya9 hH0 ?_
  case hia9 => simp only [List.getElem?_toArray, List.getElem?_cons_zero, List.getElem?_cons_succ]; rfl
  case hQa9 => exact fun _ _ _ h => h
  case hya9 => refine Or.inl ⟨by rfl, ?_⟩; intro W hSw; (try dsimp only at hSw); go_simp; try with_reducible rfl
  simp only [Act.put, List.setIfInBounds_toArray, List.set_cons_zero, List.set_cons_succ]
  refine wpAnyH_take (i := 10) (oi := ?oa10) (v := ?va10) ?hia10 (by kernel_rfl) (by kernel_rfl) (by kernel_rfl) ?hQa10 ?hya10 hH0 ?_
  case hia10 => simp only [List.getElem?_toArray, List.getElem?_cons_zero, List.getElem?_cons_succ]; rfl
  case hQa10 => exact fun _ _ _ h => h
  case hya10 => refine Or.inl ⟨by rfl, ?_⟩; intro W hSw; (try dsimp only at hSw); go_simp; try with_reducible rfl
  simp only [Act.put, List.setIfInBounds_toArray, List.set_cons_zero, List.set_cons_succ]
  refine wpAnyH_take (i := 11) (oi := ?oa11) (v := .agg cs.toArray) ?hia11 (by kernel_rfl) (by kernel_rfl) (by kernel_rfl) ?hQa11 ?hya11 hH0 ?_
  case hia11 => simp only [List.getElem?_toArray, List.getElem?_cons_zero, List.getElem?_cons_succ]; rfl
  case hQa11 => exact fun _ _ _ h => h
  case hya11 => exact yieldsIf_load_mid (by rfl) 79 _ rfl g (l.length * 17) (by rfl) cs _ (fun W hS => hS.2.1) Tryd.underlying79 rfl (by rw [HLEN.out]; exact opsize)
  simp only [Act.put, List.setIfInBounds_toArray, List.set_cons_zero, List.set_cons_succ]
  clear hH0
  refine wpAnyH_ready (rs := [12]) (by kernel_rfl) (by simp) ?_
  refine AllReadyH.cons (o := ?oa12) ?hoa12 (fun K' hK => ?_) AllReadyH.nil
  case hoa12 => simp only [List.getElem?_toArray, List.getElem?_cons_zero, List.getElem?_cons_succ]; rfl
  refine wp_store_mid 79 _ _ rfl w.heap.size 0 cs.toArray (by rfl) (by rfl) (by have h3 := there_new HGA.out; rw [show cs.toArray.size = 17 from HLEN.out]; exact h3) (by rw [show cs.toArray.size = 17 from HLEN.out]; exact opsize) HPL.out ?_
  refine hK.out _ _ (MKS.out _ (below_setCells HBA.out _ (Nat.le_refl _) _ _ _ HBA.out)) (fun hH2 => ?_)
  clear hK K'
  refine wpAnyH_done (by kernel_rfl) ?_ _
  go_wp2_with fail
  refine bodyPost_ret (ret_op rfl _ _ w.heap.size cs.toArray _ _ _ (by rfl) (set_whole HGA.out HLEN.out) Tryd.underlying79 rfl (by rw [show cs.toArray.size = 17 from HLEN.out]; exact opsize)) rfl ?_
  exact ⟨rfl, below_setCells HBA.out _ (Nat.le_refl _) _ _ _ HBA.out⟩
end Go.Proofs.YtapgjjfndbfnpaaDoor.Rf
namespace Go.Proofs.YtapgjjfndbfnpaaDoor.Rf
open Go.RowKit
set_option linter.unusedSimpArgs false
set_option linter.unusedVariables false

theorem field_kind (v0 v1 v2 v3 v4 v5 v6 v7 v8 v9 v10 v11 v12 v13 v14 v15 v16 : Value) (W : World) : (Instr.field 79 (.agg #[v0, v1, v2, v3, v4, v5, v6, v7, v8, v9, v10, v11, v12, v13, v14, v15, v16]) 0).run Tryd.prog W = .ok v0 W := by kernel_rfl
theorem field_id (v0 v1 v2 v3 v4 v5 v6 v7 v8 v9 v10 v11 v12 v13 v14 v15 v16 : Value) (W : World) : (Instr.field 79 (.agg #[v0, v1, v2, v3, v4, v5, v6, v7, v8, v9, v10, v11, v12, v13, v14, v15, v16]) 1).run Tryd.prog W = .ok v1 W := by kernel_rfl
/-- What the document's client tells. -/
def outV (dst id : Int) : Value := .agg #[.int .i64 dst, .int .i64 id]
theorem rosize : (Tryd.prog.info? 113).map (·.size) = some 2 := by kernel_rfl
theorem last_all (X : Nat → Prop) (lo c : Nat) (R : ClR) (w : World) (h : ClM X lo w c R) (l : List OpR) (r : OpR) (hr : R.rs = l ++ [r]) (hm : l.length ≤ 1000000) :
    Calls Tryd.prog 46 #[.pointer (some ⟨c, 0, none⟩)] w fun e w' => e = .returned (.agg #[.int .i64 r.o.kind, .int .i64 r.o.id, .int .i64 r.o.start, .int .i64 r.o.end_, .string r.o.b.stream, .int .i64 r.o.b.expect, .int .i64 r.o.b.session, .int .i64 r.o.b.seq, r.bev, .int .i64 r.o.out.code, .int .i64 r.o.out.pos, .int .i64 r.o.out.first, .int .i64 r.o.out.version, .string r.o.stream, .int .i64 r.o.from_, .int .i64 r.o.version, r.evv]) ∧ Below w.heap.size w w' :=
  last_any X lo c R w h l r hr hm [.int .i64 r.o.kind, .int .i64 r.o.id, .int .i64 r.o.start, .int .i64 r.o.end_, .string r.o.b.stream, .int .i64 r.o.b.expect, .int .i64 r.o.b.session, .int .i64 r.o.b.seq, r.bev, .int .i64 r.o.out.code, .int .i64 r.o.out.pos, .int .i64 r.o.out.first, .int .i64 r.o.out.version, .string r.o.stream, .int .i64 r.o.from_, .int .i64 r.o.version, r.evv] rfl
set_option maxRecDepth 100000 in
set_option maxHeartbeats 1600000 in
theorem where_any (X : Nat → Prop) (lo c : Nat) (R : ClR) (w : World) (h : ClM X lo w c R) (l : List OpR) (r : OpR) (hr : R.rs = l ++ [r]) (hm : l.length ≤ 1000000) :
    Calls Tryd.prog 47 #[.pointer (some ⟨c, 0, none⟩)] w fun e w' => e = .returned (outV 0 r.o.id) ∧ Below w.heap.size w w' := by
  have hA := (Below.refl w.heap.size w).alloc (Nat.le_refl _) (.cells #[.int .i64 0, .int .i64 0] 113)
  have HA := Lib.hid hA
  have CL := Lib.hid (last_all X lo c R _ (h.keep hA) l r hr hm)
  have hF := field_id
  clear h hA hr
  go_enter Tryd.func47, Tryd.ntmps47
  go_wp2_with fail
  refine CL.out.mono ?_
  rintro e w1 ⟨rfl, hb1⟩
  have G1 := Lib.hid ((hb1.block w.heap.size (by rw [World.size_alloc]; omega)).trans (heap_alloc_new w _))
  have HB1 := Lib.hid (HA.out.trans (hb1.mono HA.out.size))
  clear hb1
  have y0 : w1.cell? ⟨w.heap.size, 0, none⟩ = some (.int .i64 0) := by rw [Lib.cell_of_heap G1.out]; rfl
  have y1 : w1.cell? ⟨w.heap.size, 1, none⟩ = some (.int .i64 0) := by rw [Lib.cell_of_heap G1.out]; rfl
  have fy0 : w1.frozen? ⟨w.heap.size, 0, none⟩ = false := Lib.frozen_of_heap G1.out 0
  have fy1 : w1.frozen? ⟨w.heap.size, 1, none⟩ = false := Lib.frozen_of_heap G1.out 1
  go_wp2_with fail
  refine bodyPost_ret (ret_row2 rfl _ _ _ _ _ _ _ _ _ (by rfl) G1.out Tryd.underlying113 rfl rosize) rfl ?_
  exact ⟨rfl, (HB1.out.setCell (p := ⟨w.heap.size, 0, none⟩) (Nat.le_refl _) _).setCell (p := ⟨w.heap.size, 1, none⟩) (Nat.le_refl _) _⟩
end Go.Proofs.YtapgjjfndbfnpaaDoor.Rf
namespace Go.Proofs.YtapgjjfndbfnpaaDoor.Rf
open Go.RowKit
set_option linter.unusedSimpArgs false
set_option linter.unusedVariables false

theorem ask_fin {X : Nat → Prop} {lo c p : Nat} {wa z : World} {R : ClR} (h : ClM X lo wa c R) (hp : wa.heap.size = p) (hb : Below p wa z) (a b : Value) :
    ClM X lo ((z.setCell ⟨p, 0, none⟩ a).setCell ⟨p, 1, none⟩ b) c R ∧ Step c R R wa ((z.setCell ⟨p, 0, none⟩ a).setCell ⟨p, 1, none⟩ b) := by
  subst hp
  have hb2 := (hb.setCell (p := ⟨wa.heap.size, 0, none⟩) (Nat.le_refl _) a).setCell (p := ⟨wa.heap.size, 1, none⟩) (Nat.le_refl _) b
  exact ⟨h.keep hb2, step_below hb2 rfl⟩

set_option maxRecDepth 100000 in
set_option maxHeartbeats 1600000 in
theorem ask_where (X : Nat → Prop) (lo c : Nat) (R : ClR) (w : World) (h : ClM X lo w c R) (l : List OpR) (r : OpR) (hr : R.rs = l ++ [r]) (hm : l.length ≤ 1000000) (now : Int) (hv : Vw.rightB R.s.v = false) :
    Calls Tryd.prog 45 #[.pointer (some ⟨c, 0, none⟩), .int .i64 now] w fun e w' => e = .returned (outV 0 r.o.id) ∧ ClM X lo w' c (R.ask now) ∧ Step c R (R.ask now) w w' := by
  have hM0 : ClM X lo (w.setCell ⟨c, 5, none⟩ (.int .i64 now)) c (R.ask now) := h.put 5 (.int .i64 now) { R.s with asked := now } rfl rfl h.wh rfl
  have hz : (w.setCell ⟨c, 5, none⟩ (.int .i64 now)).heap.size = w.heap.size := World.size_setCell _ _ _
  have hA : Below w.heap.size (w.setCell ⟨c, 5, none⟩ (.int .i64 now)) ((w.setCell ⟨c, 5, none⟩ (.int .i64 now)).alloc (.cells #[.int .i64 0, .int .i64 0] 113)) := (Below.refl _ _).alloc (Nat.le_of_eq hz.symm) _
  have hM1 : ClM X lo ((w.setCell ⟨c, 5, none⟩ (.int .i64 now)).alloc (.cells #[.int .i64 0, .int .i64 0] 113)) c (R.ask now) := hM0.keep (by rw [hz]; exact hA)
  have hG1 : (((w.setCell ⟨c, 5, none⟩ (.int .i64 now)).alloc (.cells #[.int .i64 0, .int .i64 0] 113))).heap[w.heap.size]? = some (.cells #[.int .i64 0, .int .i64 0] 113) := by
    have := heap_alloc_new (w.setCell ⟨c, 5, none⟩ (.int .i64 now)) (.cells #[.int .i64 0, .int .i64 0] 113)
    rw [hz] at this
    exact this
  have hS0 : Step c R (R.ask now) w (w.setCell ⟨c, 5, none⟩ (.int .i64 now)) := ClM.putStep c R w 5 _ _
  have HZ := Lib.hid hz
  have HM0 := Lib.hid hM0
  have HM := Lib.hid hM1
  have HS0 := Lib.hid hS0
  have HB := Lib.hid hA
  have G1 := Lib.hid hG1
  have f5 := h.fr 5
  have c5 := h.c5
  have c6 := h.c6
  have c7 := h.c7
  have c8 := h.c8
  have c9 := h.c9
  have hc := h.clt
  have x1 : c ≠ w.heap.size := by omega
  have CL := Lib.hid (fun (X' : World) (h' : ClM X lo X' c (R.ask now)) => last_all X lo c (R.ask now) X' h' l r hr hm)
  have CR := Lib.hid (fun (X' : World) (h' : ClM X lo X' c (R.ask now)) => Vw.refRight_any X'.heap.size _ R.s.v X' h'.view (Nat.le_refl _) h'.sm false hv.symm)
  have CW := Lib.hid (fun (X' : World) (h' : ClM X lo X' c (R.ask now)) => where_any X lo c (R.ask now) X' h' l r hr hm)
  have hF0 := field_kind
  have hF1 := field_id
  clear hA hM0 hM1 hS0 hG1 hz h hv hr
  go_enter Tryd.func45, Tryd.ntmps45
  go_wp2_with fail
  generalize w.setCell ⟨c, 5, none⟩ (.int .i64 now) = wa at *
  generalize wa.alloc (.cells #[.int .i64 0, .int .i64 0] 113) = z1 at *
  clear f5 c5 c6 c7 c8 c9
  refine (CR.out _ HM.out).mono ?_
  rintro e z3 ⟨rfl, hb3⟩
  have HM3 := Lib.hid (HM.out.keep hb3)
  have HB3 := Lib.hid (HB.out.trans (hb3.mono (by have := HB.out.size; rw [HZ.out] at this; exact this)))
  have G3 := Lib.hid ((hb3.block _ (Array.getElem?_eq_some_iff.1 G1.out).1).trans G1.out)
  clear hb3
  go_wp2_with fail
  refine (CW.out _ HM3.out).mono ?_
  rintro e z4 ⟨rfl, hb4⟩
  have HM4 := Lib.hid (HM3.out.keep hb4)
  have HB4 := Lib.hid (HB3.out.trans (hb4.mono (by have := HB3.out.size; rw [HZ.out] at this; exact this)))
  have G4 := Lib.hid ((hb4.block _ (Array.getElem?_eq_some_iff.1 G3.out).1).trans G3.out)
  clear hb4
  have y0 : z4.cell? ⟨w.heap.size, 0, none⟩ = some (.int .i64 0) := by rw [Lib.cell_of_heap G4.out]; rfl
  have y1 : z4.cell? ⟨w.heap.size, 1, none⟩ = some (.int .i64 0) := by rw [Lib.cell_of_heap G4.out]; rfl
  have fy0 : z4.frozen? ⟨w.heap.size, 0, none⟩ = false := Lib.frozen_of_heap G4.out 0
  have fy1 : z4.frozen? ⟨w.heap.size, 1, none⟩ = false := Lib.frozen_of_heap G4.out 1
  simp only [outV]
  go_wp2_with fail
  refine bodyPost_ret (ret_row2 rfl _ _ _ _ _ _ _ _ _ (by rfl) G4.out Tryd.underlying113 rfl rosize) rfl ?_
  have hfin := ask_fin HM0.out HZ.out HB4.out
  exact ⟨rfl, (hfin _ _).1, HS0.out.trans (hfin _ _).2⟩

set_option maxRecDepth 100000 in
set_option maxHeartbeats 1600000 in
theorem ask_app (X : Nat → Prop) (lo c : Nat) (R : ClR) (w : World) (h : ClM X lo w c R) (l : List OpR) (r : OpR) (hr : R.rs = l ++ [r]) (hm : l.length ≤ 1000000) (now : Int) (hv : Vw.rightB R.s.v = true) (hk : r.o.kind = 1) (nd : Int) (hnd : R.s.v.chain.getD 0 0 = nd) :
    Calls Tryd.prog 45 #[.pointer (some ⟨c, 0, none⟩), .int .i64 now] w fun e w' => e = .returned (outV nd r.o.id) ∧ ClM X lo w' c (R.ask now) ∧ Step c R (R.ask now) w w' := by
  have hRV := (Vw.rightB_iff R.s.v).1 hv
  have hn1 := hRV.n1
  have hn2 := hRV.n2
  obtain ⟨ca, ck, hcv⟩ := h.cv.1.form
  obtain ⟨n, hn⟩ : ∃ n, R.s.v.chain.length = n := ⟨_, rfl⟩
  obtain ⟨q, hq⟩ : ∃ q, 0 = q := ⟨_, rfl⟩
  have hq1 : q < n := by rw [← hq]; omega
  obtain ⟨cb, co, ck', hcv2, hcb, -, -⟩ := h.cv.1.get q (by omega)
  obtain ⟨rfl, -, rfl⟩ : ca = some ⟨cb, co, none⟩ ∧ R.s.v.chain.length = R.s.v.chain.length ∧ ck = ck' := by rw [hcv] at hcv2; injection hcv2 with e1 e2 e3; exact ⟨e1, e2, e3⟩
  have hndq : R.s.v.chain[q]? = some nd := by
    rw [← hnd, ← hq, List.getD_eq_getElem?_getD, List.getElem?_eq_getElem (by omega)]
    rfl
  have HCC := Lib.hid (fun (X' : World) (h' : ClM X lo X' c (R.ask now)) => (show X'.cell? ⟨cb, co + q, none⟩ = some (.int .i64 nd) from by
    obtain ⟨b', o', k', e1, -, -, e4⟩ := h'.cv.1.get q (by rw [← hn] at hq1; exact hq1)
    have e1 : R.cv = .slice (some ⟨b', o', none⟩) R.s.v.chain.length k' := e1
    rw [hcv] at e1
    injection e1 with e1 _ _
    injection e1 with e1
    injection e1 with e1 e2 _
    subst e1 e2
    rw [e4]
    have e5 : (R.ask now).s.v.chain[q]? = some nd := hndq
    rw [List.getElem?_eq_getElem (by rw [← hn] at hq1; exact hq1)] at e5
    rw [Option.some.inj e5]))
  rw [hn] at hcv
  have HCV := Lib.hid hcv
  have hw64 := h.wh
  have hM0 : ClM X lo (w.setCell ⟨c, 5, none⟩ (.int .i64 now)) c (R.ask now) := h.put 5 (.int .i64 now) { R.s with asked := now } rfl rfl h.wh rfl
  have hz : (w.setCell ⟨c, 5, none⟩ (.int .i64 now)).heap.size = w.heap.size := World.size_setCell _ _ _
  have hA : Below w.heap.size (w.setCell ⟨c, 5, none⟩ (.int .i64 now)) ((w.setCell ⟨c, 5, none⟩ (.int .i64 now)).alloc (.cells #[.int .i64 0, .int .i64 0] 113)) := (Below.refl _ _).alloc (Nat.le_of_eq hz.symm) _
  have hM1 : ClM X lo ((w.setCell ⟨c, 5, none⟩ (.int .i64 now)).alloc (.cells #[.int .i64 0, .int .i64 0] 113)) c (R.ask now) := hM0.keep (by rw [hz]; exact hA)
  have hG1 : (((w.setCell ⟨c, 5, none⟩ (.int .i64 now)).alloc (.cells #[.int .i64 0, .int .i64 0] 113))).heap[w.heap.size]? = some (.cells #[.int .i64 0, .int .i64 0] 113) := by
    have := heap_alloc_new (w.setCell ⟨c, 5, none⟩ (.int .i64 now)) (.cells #[.int .i64 0, .int .i64 0] 113)
    rw [hz] at this
    exact this
  have hS0 : Step c R (R.ask now) w (w.setCell ⟨c, 5, none⟩ (.int .i64 now)) := ClM.putStep c R w 5 _ _
  have HZ := Lib.hid hz
  have HM0 := Lib.hid hM0
  have HM := Lib.hid hM1
  have HS0 := Lib.hid hS0
  have HB := Lib.hid hA
  have G1 := Lib.hid hG1
  have f5 := h.fr 5
  have c5 := h.c5
  have c6 := h.c6
  have c7 := h.c7
  have c8 := h.c8
  have c9 := h.c9
  have hc := h.clt
  have x1 : c ≠ w.heap.size := by omega
  have CL := Lib.hid (fun (X' : World) (h' : ClM X lo X' c (R.ask now)) => last_all X lo c (R.ask now) X' h' l r hr hm)
  have CR := Lib.hid (fun (X' : World) (h' : ClM X lo X' c (R.ask now)) => Vw.refRight_any X'.heap.size _ R.s.v X' h'.view (Nat.le_refl _) h'.sm true hv.symm)
  have CW := Lib.hid (fun (X' : World) (h' : ClM X lo X' c (R.ask now)) => where_any X lo c (R.ask now) X' h' l r hr hm)
  have hF0 := field_kind
  have hF1 := field_id
  have hk1 : (r.o.kind == 1) = true := by rw [hk]; rfl
  have hlt : (0 : Int) < (n : Int) := by omega
  obtain rfl : 0 = q := hq
  clear hk hnd hndq hcv2 hRV hcv hw64 hn
  clear hA hM0 hM1 hS0 hG1 hz h hv hr
  go_enter Tryd.func45, Tryd.ntmps45
  go_wp2_with fail
  generalize w.setCell ⟨c, 5, none⟩ (.int .i64 now) = wa at *
  generalize wa.alloc (.cells #[.int .i64 0, .int .i64 0] 113) = z1 at *
  clear f5 c5 c6 c7 c8 c9
  refine (CR.out _ HM.out).mono ?_
  rintro e z3 ⟨rfl, hb3⟩
  have HM3 := Lib.hid (HM.out.keep hb3)
  have HB3 := Lib.hid (HB.out.trans (hb3.mono (by have := HB.out.size; rw [HZ.out] at this; exact this)))
  have G3 := Lib.hid ((hb3.block _ (Array.getElem?_eq_some_iff.1 G1.out).1).trans G1.out)
  clear hb3
  have MKS := Lib.hid (fun (X' : World) (hb : Below w.heap.size wa X') => (show X'.cell? ⟨c, 7, none⟩ = some (.slice (some ⟨cb, co, none⟩) n ck) ∧ X'.cell? ⟨cb, co, none⟩ = some (.int .i64 nd) ∧ Below w.heap.size wa X' from by
    have h1 := HM0.out.keep (hb.mono (Nat.le_of_eq HZ.out))
    exact ⟨by rw [← HCV.out]; exact h1.c7, by have h9 := HCC.out _ h1; rw [Nat.add_zero] at h9; exact h9, hb⟩))
  go_wp2_with fail
  refine (CL.out _ HM3.out).mono ?_
  rintro e z4 ⟨rfl, hb4⟩
  have HM4 := Lib.hid (HM3.out.keep hb4)
  have HB4 := Lib.hid (HB3.out.trans (hb4.mono (by have := HB3.out.size; rw [HZ.out] at this; exact this)))
  have G4 := Lib.hid ((hb4.block _ (Array.getElem?_eq_some_iff.1 G3.out).1).trans G3.out)
  clear hb4
  go_wp2_with fail
  refine region_begin (S := fun X' => X'.cell? ⟨c, 7, none⟩ = some (.slice (some ⟨cb, co, none⟩) n ck) ∧ X'.cell? ⟨cb, co, none⟩ = some (.int .i64 nd) ∧ Below w.heap.size wa X') 12 rfl (by kernel_rfl) (MKS.out _ HB4.out.drew) (fun hH0 => ?_)
  refine wpAnyH_take (i := 0) (oi := ?oa0) (v := ?va0) ?hia0 (by kernel_rfl) (by kernel_rfl) (by kernel_rfl) ?hQa0 ?hya0 hH0 ?_
  case hia0 => simp only [List.getElem?_toArray, List.getElem?_cons_zero]; rfl
  case hQa0 => exact fun _ _ _ h => h
  case hya0 => refine Or.inl ⟨by rfl, ?_⟩; intro W hSw; (try dsimp only at hSw); go_simp; try with_reducible rfl
  simp only [Act.put, List.setIfInBounds_toArray, List.set_cons_zero, List.set_cons_succ]
  refine wpAnyH_take (i := 1) (oi := ?oa1) (v := ?va1) ?hia1 (by kernel_rfl) (by kernel_rfl) (by kernel_rfl) ?hQa1 ?hya1 hH0 ?_
  case hia1 => simp only [List.getElem?_toArray, List.getElem?_cons_zero, List.getElem?_cons_succ]; rfl
  case hQa1 => exact fun _ _ _ h => h
  case hya1 => refine Or.inl ⟨by rfl, ?_⟩; intro W hSw; (try dsimp only at hSw); go_simp; try with_reducible rfl
  simp only [Act.put, List.setIfInBounds_toArray, List.set_cons_zero, List.set_cons_succ]
  refine wpAnyH_take (i := 2) (oi := ?oa2) (v := ?va2) ?hia2 (by kernel_rfl) (by kernel_rfl) (by kernel_rfl) ?hQa2 ?hya2 hH0 ?_
  case hia2 => simp only [List.getElem?_toArray, List.getElem?_cons_zero, List.getElem?_cons_succ]; rfl
  case hQa2 => exact fun _ _ _ h => h
  case hya2 => refine Or.inl ⟨by rfl, ?_⟩; intro W hSw; (try dsimp only at hSw); go_simp; try with_reducible rfl
  simp only [Act.put, List.setIfInBounds_toArray, List.set_cons_zero, List.set_cons_succ]
  refine wpAnyH_take (i := 3) (oi := ?oa3) (v := ?va3) ?hia3 (by kernel_rfl) (by kernel_rfl) (by kernel_rfl) ?hQa3 ?hya3 hH0 ?_
  case hia3 => simp only [List.getElem?_toArray, List.getElem?_cons_zero, List.getElem?_cons_succ]; rfl
  case hQa3 => exact fun _ _ _ h => h
  case hya3 => refine Or.inl ⟨by rfl, ?_⟩; intro W hSw; (try dsimp only at hSw); go_simp; try with_reducible rfl
  simp only [Act.put, List.setIfInBounds_toArray, List.set_cons_zero, List.set_cons_succ]
  refine wpAnyH_take (i := 4) (oi := ?oa4) (v := ?va4) ?hia4 (by kernel_rfl) (by kernel_rfl) (by kernel_rfl) ?hQa4 ?hya4 hH0 ?_
  case hia4 => simp only [List.getElem?_toArray, List.getElem?_cons_zero, List.getElem?_cons_succ]; rfl
  case hQa4 => exact fun _ _ _ h => h
  case hya4 => refine Or.inl ⟨by rfl, ?_⟩; intro W hSw; (try dsimp only at hSw); go_simp; try with_reducible rfl
  simp only [Act.put, List.setIfInBounds_toArray, List.set_cons_zero, List.set_cons_succ]
  refine wpAnyH_take (i := 5) (oi := ?oa5) (v := ?va5) ?hia5 (by kernel_rfl) (by kernel_rfl) (by kernel_rfl) ?hQa5 ?hya5 hH0 ?_
  case hia5 => simp only [List.getElem?_toArray, List.getElem?_cons_zero, List.getElem?_cons_succ]; rfl
  case hQa5 => exact fun _ _ _ h => h
  case hya5 => refine Or.inl ⟨by rfl, ?_⟩; intro W hSw; (try dsimp only at hSw); go_simp; try with_reducible rfl
  simp only [Act.put, List.setIfInBounds_toArray, List.set_cons_zero, List.set_cons_succ]
  refine wpAnyH_take (i := 6) (oi := ?oa6) (v := ?va6) ?hia6 (by kernel_rfl) (by kernel_rfl) (by kernel_rfl) ?hQa6 ?hya6 hH0 ?_
  case hia6 => simp only [List.getElem?_toArray, List.getElem?_cons_zero, List.getElem?_cons_succ]; rfl
  case hQa6 => exact fun _ _ _ h => h
  case hya6 => refine Or.inl ⟨by rfl, ?_⟩; intro W hSw; (try dsimp only at hSw); go_simp; try with_reducible rfl
  simp only [Act.put, List.setIfInBounds_toArray, List.set_cons_zero, List.set_cons_succ]
  refine wpAnyH_take (i := 7) (oi := ?oa7) (v := ?va7) ?hia7 (by kernel_rfl) (by kernel_rfl) (by kernel_rfl) ?hQa7 ?hya7 hH0 ?_
  case hia7 => simp only [List.getElem?_toArray, List.getElem?_cons_zero, List.getElem?_cons_succ]; rfl
  case hQa7 => exact fun _ _ _ h => h
  case hya7 => refine Or.inl ⟨by rfl, ?_⟩; intro W hSw; (try dsimp only at hSw); go_simp; try with_reducible rfl
  simp only [Act.put, List.setIfInBounds_toArray, List.set_cons_zero, List.set_cons_succ]
  clear hH0
  have hbd4 := (Below.refl z4.heap.size z4).drew
  have HM5 := Lib.hid (HM4.out.keep hbd4)
  have HB5 := Lib.hid (HB4.out.trans (hbd4.mono (by have := HB4.out.size; rw [HZ.out] at this; exact this)))
  have G5 := Lib.hid ((hbd4.block _ (Array.getElem?_eq_some_iff.1 G4.out).1).trans G4.out)
  clear hbd4
  generalize z4.drew = z5 at *
  refine wpAnyH_ready (rs := [8]) (by kernel_rfl) (by simp) ?_
  refine AllReadyH.cons (o := ?oa8) ?hoa8 (fun K' hK => ?_) AllReadyH.nil
  case hoa8 => simp only [List.getElem?_toArray, List.getElem?_cons_zero, List.getElem?_cons_succ]; rfl
  go_simp
  refine (CL.out _ HM5.out).mono ?_
  rintro e z6 ⟨rfl, hb6⟩
  have HM6 := Lib.hid (HM5.out.keep hb6)
  have HB6 := Lib.hid (HB5.out.trans (hb6.mono (by have := HB5.out.size; rw [HZ.out] at this; exact this)))
  have G6 := Lib.hid ((hb6.block _ (Array.getElem?_eq_some_iff.1 G5.out).1).trans G5.out)
  clear hb6
  refine hK.out _ _ (MKS.out _ HB6.out) (fun hH6 => ?_)
  clear hK K'
  (try simp only [Act.put, List.setIfInBounds_toArray, List.set_cons_zero, List.set_cons_succ])
  refine wpAnyH_take (i := 9) (oi := ?oa9) (v := ?va9) ?hia9 (by kernel_rfl) (by kernel_rfl) (by kernel_rfl) ?hQa9 ?hya9 hH6 ?_
  case hia9 => simp only [List.getElem?_toArray, List.getElem?_cons_zero, List.getElem?_cons_succ]; rfl
  case hQa9 => exact fun _ _ _ h => h
  case hya9 => refine Or.inl ⟨by rfl, ?_⟩; intro W hSw; (try dsimp only at hSw); go_simp; try with_reducible rfl
  simp only [Act.put, List.setIfInBounds_toArray, List.set_cons_zero, List.set_cons_succ]
  refine wpAnyH_take (i := 10) (oi := ?oa10) (v := ?va10) ?hia10 (by kernel_rfl) (by kernel_rfl) (by kernel_rfl) ?hQa10 ?hya10 hH6 ?_
  case hia10 => simp only [List.getElem?_toArray, List.getElem?_cons_zero, List.getElem?_cons_succ]; rfl
  case hQa10 => exact fun _ _ _ h => h
  case hya10 => refine Or.inl ⟨by rfl, ?_⟩; intro W hSw; (try dsimp only at hSw); go_simp; try with_reducible rfl
  simp only [Act.put, List.setIfInBounds_toArray, List.set_cons_zero, List.set_cons_succ]
  clear hH6
  have y0 : z6.cell? ⟨w.heap.size, 0, none⟩ = some (.int .i64 0) := by rw [Lib.cell_of_heap G6.out]; rfl
  have y1 : z6.cell? ⟨w.heap.size, 1, none⟩ = some (.int .i64 0) := by rw [Lib.cell_of_heap G6.out]; rfl
  have fy0 : z6.frozen? ⟨w.heap.size, 0, none⟩ = false := Lib.frozen_of_heap G6.out 0
  have fy1 : z6.frozen? ⟨w.heap.size, 1, none⟩ = false := Lib.frozen_of_heap G6.out 1
  refine wpAnyH_ready (rs := [11]) (by kernel_rfl) (by simp) ?_
  refine AllReadyH.cons (o := ?oa11) ?hoa11 (fun K' hK => ?_) AllReadyH.nil
  case hoa11 => simp only [List.getElem?_toArray, List.getElem?_cons_zero, List.getElem?_cons_succ]; rfl
  go_simp
  refine hK.out _ _ (MKS.out _ ((HB6.out.setCell (p := ⟨w.heap.size, 0, none⟩) (Nat.le_refl _) _).setCell (p := ⟨w.heap.size, 1, none⟩) (Nat.le_refl _) _)) (fun hH7 => ?_)
  clear hK K'
  (try simp only [Act.put, List.setIfInBounds_toArray, List.set_cons_zero, List.set_cons_succ])
  clear hH7
  refine wpAnyH_done (by kernel_rfl) ?_ _
  go_wp2_with fail
  refine bodyPost_ret (ret_row2 rfl _ _ _ _ _ _ _ _ _ (by rfl) G6.out Tryd.underlying113 rfl rosize) rfl ?_
  have hfin := ask_fin HM0.out HZ.out HB6.out
  exact ⟨rfl, (hfin _ _).1, HS0.out.trans (hfin _ _).2⟩

set_option maxRecDepth 100000 in
set_option maxHeartbeats 1600000 in
theorem ask_red_neg (X : Nat → Prop) (lo c : Nat) (R : ClR) (w : World) (h : ClM X lo w c R) (l : List OpR) (r : OpR) (hr : R.rs = l ++ [r]) (hm : l.length ≤ 1000000) (now : Int) (hv : Vw.rightB R.s.v = true) (hk : r.o.kind ≠ 1) (nd : Int) (hnd : R.s.v.chain.getD (pickT R.s.which R.s.v.chain.length) 0 = nd) (hneg : R.s.which < 0) :
    Calls Tryd.prog 45 #[.pointer (some ⟨c, 0, none⟩), .int .i64 now] w fun e w' => e = .returned (outV nd r.o.id) ∧ ClM X lo w' c (R.ask now) ∧ Step c R (R.ask now) w w' := by
  have hRV := (Vw.rightB_iff R.s.v).1 hv
  have hn1 := hRV.n1
  have hn2 := hRV.n2
  obtain ⟨ca, ck, hcv⟩ := h.cv.1.form
  obtain ⟨n, hn⟩ : ∃ n, R.s.v.chain.length = n := ⟨_, rfl⟩
  obtain ⟨q, hq⟩ : ∃ q, pickT R.s.which n = q := ⟨_, rfl⟩
  have hq1 : q < n := by rw [← hq]; exact Nat.mod_lt _ (by omega)
  obtain ⟨cb, co, ck', hcv2, hcb, -, -⟩ := h.cv.1.get q (by omega)
  obtain ⟨rfl, -, rfl⟩ : ca = some ⟨cb, co, none⟩ ∧ R.s.v.chain.length = R.s.v.chain.length ∧ ck = ck' := by rw [hcv] at hcv2; injection hcv2 with e1 e2 e3; exact ⟨e1, e2, e3⟩
  have hndq : R.s.v.chain[q]? = some nd := by
    rw [← hnd, hn, hq, List.getD_eq_getElem?_getD, List.getElem?_eq_getElem (by omega)]
    rfl
  have HCC := Lib.hid (fun (X' : World) (h' : ClM X lo X' c (R.ask now)) => (show X'.cell? ⟨cb, co + q, none⟩ = some (.int .i64 nd) from by
    obtain ⟨b', o', k', e1, -, -, e4⟩ := h'.cv.1.get q (by rw [← hn] at hq1; exact hq1)
    have e1 : R.cv = .slice (some ⟨b', o', none⟩) R.s.v.chain.length k' := e1
    rw [hcv] at e1
    injection e1 with e1 _ _
    injection e1 with e1
    injection e1 with e1 e2 _
    subst e1 e2
    rw [e4]
    have e5 : (R.ask now).s.v.chain[q]? = some nd := hndq
    rw [List.getElem?_eq_getElem (by rw [← hn] at hq1; exact hq1)] at e5
    rw [Option.some.inj e5]))
  rw [hn] at hcv
  have HCV := Lib.hid hcv
  have hw64 := h.wh
  have hM0 : ClM X lo (w.setCell ⟨c, 5, none⟩ (.int .i64 now)) c (R.ask now) := h.put 5 (.int .i64 now) { R.s with asked := now } rfl rfl h.wh rfl
  have hz : (w.setCell ⟨c, 5, none⟩ (.int .i64 now)).heap.size = w.heap.size := World.size_setCell _ _ _
  have hA : Below w.heap.size (w.setCell ⟨c, 5, none⟩ (.int .i64 now)) ((w.setCell ⟨c, 5, none⟩ (.int .i64 now)).alloc (.cells #[.int .i64 0, .int .i64 0] 113)) := (Below.refl _ _).alloc (Nat.le_of_eq hz.symm) _
  have hM1 : ClM X lo ((w.setCell ⟨c, 5, none⟩ (.int .i64 now)).alloc (.cells #[.int .i64 0, .int .i64 0] 113)) c (R.ask now) := hM0.keep (by rw [hz]; exact hA)
  have hG1 : (((w.setCell ⟨c, 5, none⟩ (.int .i64 now)).alloc (.cells #[.int .i64 0, .int .i64 0] 113))).heap[w.heap.size]? = some (.cells #[.int .i64 0, .int .i64 0] 113) := by
    have := heap_alloc_new (w.setCell ⟨c, 5, none⟩ (.int .i64 now)) (.cells #[.int .i64 0, .int .i64 0] 113)
    rw [hz] at this
    exact this
  have hS0 : Step c R (R.ask now) w (w.setCell ⟨c, 5, none⟩ (.int .i64 now)) := ClM.putStep c R w 5 _ _
  have HZ := Lib.hid hz
  have HM0 := Lib.hid hM0
  have HM := Lib.hid hM1
  have HS0 := Lib.hid hS0
  have HB := Lib.hid hA
  have G1 := Lib.hid hG1
  have f5 := h.fr 5
  have c5 := h.c5
  have c6 := h.c6
  have c7 := h.c7
  have c8 := h.c8
  have c9 := h.c9
  have hc := h.clt
  have x1 : c ≠ w.heap.size := by omega
  have CL := Lib.hid (fun (X' : World) (h' : ClM X lo X' c (R.ask now)) => last_all X lo c (R.ask now) X' h' l r hr hm)
  have CR := Lib.hid (fun (X' : World) (h' : ClM X lo X' c (R.ask now)) => Vw.refRight_any X'.heap.size _ R.s.v X' h'.view (Nat.le_refl _) h'.sm true hv.symm)
  have CW := Lib.hid (fun (X' : World) (h' : ClM X lo X' c (R.ask now)) => where_any X lo c (R.ask now) X' h' l r hr hm)
  have hF0 := field_kind
  have hF1 := field_id
  have hk1 : (r.o.kind == 1) = false := by rw [beq_eq_false_iff_ne]; exact hk
  obtain ⟨k, hkw⟩ : ∃ k, R.s.which = k := ⟨_, rfl⟩
  obtain ⟨hw1, hw2⟩ := hw64
  rw [hkw] at hq hneg hw1 hw2
  have e1 : IntKind.i64.wrap (k + 1) = k + 1 := by rw [IntKind.wrap_i64]; omega
  have e2 : IntKind.i64.wrap (-(k + 1)) = -(k + 1) := by rw [IntKind.wrap_i64]; omega
  obtain ⟨m, hm1⟩ : ∃ m : Nat, -(k + 1) = (m : Int) := ⟨(-(k + 1)).toNat, by omega⟩
  have hmq : q = m % n := by rw [← hq, pickT, if_pos hneg, hm1, Int.toNat_natCast]
  rw [hm1] at e2
  have hlt : (q : Int) < (n : Int) := by omega
  have hge : (0 : Int) ≤ (q : Int) := by omega
  have hn0 : ¬ (n : Int) = 0 := by omega
  have hn0' : ¬ n = 0 := by omega
  have e3 : (m : Int).tmod (n : Int) = (q : Int) := by rw [Int.tmod_eq_emod_of_nonneg (by omega), hmq]; rfl
  have e4 : IntKind.i64.wrap (q : Int) = (q : Int) := by rw [IntKind.wrap_i64]; omega
  have HKW := Lib.hid hkw
  clear hq hn hmq hkw
  clear hk hnd hndq hcv2 hRV hcv
  clear hA hM0 hM1 hS0 hG1 hz h hv hr
  go_enter Tryd.func45, Tryd.ntmps45
  go_wp2_with fail
  generalize w.setCell ⟨c, 5, none⟩ (.int .i64 now) = wa at *
  generalize wa.alloc (.cells #[.int .i64 0, .int .i64 0] 113) = z1 at *
  clear f5 c5 c6 c7 c8 c9
  refine (CR.out _ HM.out).mono ?_
  rintro e z3 ⟨rfl, hb3⟩
  have HM3 := Lib.hid (HM.out.keep hb3)
  have HB3 := Lib.hid (HB.out.trans (hb3.mono (by have := HB.out.size; rw [HZ.out] at this; exact this)))
  have G3 := Lib.hid ((hb3.block _ (Array.getElem?_eq_some_iff.1 G1.out).1).trans G1.out)
  clear hb3
  have MKS := Lib.hid (fun (X' : World) (hb : Below w.heap.size wa X') => (show X'.cell? ⟨c, 7, none⟩ = some (.slice (some ⟨cb, co, none⟩) n ck) ∧ X'.cell? ⟨cb, co + q, none⟩ = some (.int .i64 nd) ∧ Below w.heap.size wa X' from by
    have h1 := HM0.out.keep (hb.mono (Nat.le_of_eq HZ.out))
    exact ⟨by rw [← HCV.out]; exact h1.c7, HCC.out _ h1, hb⟩))
  go_wp2_with fail
  refine (CL.out _ HM3.out).mono ?_
  rintro e z4 ⟨rfl, hb4⟩
  have HM4 := Lib.hid (HM3.out.keep hb4)
  have HB4 := Lib.hid (HB3.out.trans (hb4.mono (by have := HB3.out.size; rw [HZ.out] at this; exact this)))
  have G4 := Lib.hid ((hb4.block _ (Array.getElem?_eq_some_iff.1 G3.out).1).trans G3.out)
  clear hb4
  have k4 : z4.cell? ⟨c, 4, none⟩ = some (.int .i64 k) := by rw [← HKW.out]; exact HM4.out.c4
  go_wp2_with fail
  refine region_begin (S := fun X' => X'.cell? ⟨c, 7, none⟩ = some (.slice (some ⟨cb, co, none⟩) n ck) ∧ X'.cell? ⟨cb, co + q, none⟩ = some (.int .i64 nd) ∧ Below w.heap.size wa X') 20 rfl (by kernel_rfl) (MKS.out _ HB4.out.drew) (fun hH0 => ?_)
  refine wpAnyH_take (i := 0) (oi := ?oa0) (v := ?va0) ?hia0 (by kernel_rfl) (by kernel_rfl) (by kernel_rfl) ?hQa0 ?hya0 hH0 ?_
  case hia0 => simp only [List.getElem?_toArray, List.getElem?_cons_zero]; rfl
  case hQa0 => exact fun _ _ _ h => h
  case hya0 => refine Or.inl ⟨by rfl, ?_⟩; intro W hSw; (try dsimp only at hSw); go_simp; try with_reducible rfl
  simp only [Act.put, List.setIfInBounds_toArray, List.set_cons_zero, List.set_cons_succ]
  refine wpAnyH_take (i := 1) (oi := ?oa1) (v := ?va1) ?hia1 (by kernel_rfl) (by kernel_rfl) (by kernel_rfl) ?hQa1 ?hya1 hH0 ?_
  case hia1 => simp only [List.getElem?_toArray, List.getElem?_cons_zero, List.getElem?_cons_succ]; rfl
  case hQa1 => exact fun _ _ _ h => h
  case hya1 => refine Or.inl ⟨by rfl, ?_⟩; intro W hSw; (try dsimp only at hSw); go_simp; try with_reducible rfl
  simp only [Act.put, List.setIfInBounds_toArray, List.set_cons_zero, List.set_cons_succ]
  refine wpAnyH_take (i := 2) (oi := ?oa2) (v := ?va2) ?hia2 (by kernel_rfl) (by kernel_rfl) (by kernel_rfl) ?hQa2 ?hya2 hH0 ?_
  case hia2 => simp only [List.getElem?_toArray, List.getElem?_cons_zero, List.getElem?_cons_succ]; rfl
  case hQa2 => exact fun _ _ _ h => h
  case hya2 => refine Or.inl ⟨by rfl, ?_⟩; intro W hSw; (try dsimp only at hSw); go_simp; try with_reducible rfl
  simp only [Act.put, List.setIfInBounds_toArray, List.set_cons_zero, List.set_cons_succ]
  refine wpAnyH_take (i := 3) (oi := ?oa3) (v := ?va3) ?hia3 (by kernel_rfl) (by kernel_rfl) (by kernel_rfl) ?hQa3 ?hya3 hH0 ?_
  case hia3 => simp only [List.getElem?_toArray, List.getElem?_cons_zero, List.getElem?_cons_succ]; rfl
  case hQa3 => exact fun _ _ _ h => h
  case hya3 => refine Or.inl ⟨by rfl, ?_⟩; intro W hSw; (try dsimp only at hSw); go_simp; try with_reducible rfl
  simp only [Act.put, List.setIfInBounds_toArray, List.set_cons_zero, List.set_cons_succ]
  refine wpAnyH_take (i := 4) (oi := ?oa4) (v := ?va4) ?hia4 (by kernel_rfl) (by kernel_rfl) (by kernel_rfl) ?hQa4 ?hya4 hH0 ?_
  case hia4 => simp only [List.getElem?_toArray, List.getElem?_cons_zero, List.getElem?_cons_succ]; rfl
  case hQa4 => exact fun _ _ _ h => h
  case hya4 => refine Or.inl ⟨by rfl, ?_⟩; intro W hSw; (try dsimp only at hSw); go_simp; try with_reducible rfl
  simp only [Act.put, List.setIfInBounds_toArray, List.set_cons_zero, List.set_cons_succ]
  refine wpAnyH_take (i := 5) (oi := ?oa5) (v := ?va5) ?hia5 (by kernel_rfl) (by kernel_rfl) (by kernel_rfl) ?hQa5 ?hya5 hH0 ?_
  case hia5 => simp only [List.getElem?_toArray, List.getElem?_cons_zero, List.getElem?_cons_succ]; rfl
  case hQa5 => exact fun _ _ _ h => h
  case hya5 => refine Or.inl ⟨by rfl, ?_⟩; intro W hSw; (try dsimp only at hSw); go_simp; try with_reducible rfl
  simp only [Act.put, List.setIfInBounds_toArray, List.set_cons_zero, List.set_cons_succ]
  refine wpAnyH_take (i := 6) (oi := ?oa6) (v := ?va6) ?hia6 (by kernel_rfl) (by kernel_rfl) (by kernel_rfl) ?hQa6 ?hya6 hH0 ?_
  case hia6 => simp only [List.getElem?_toArray, List.getElem?_cons_zero, List.getElem?_cons_succ]; rfl
  case hQa6 => exact fun _ _ _ h => h
  case hya6 => refine Or.inl ⟨by rfl, ?_⟩; intro W hSw; (try dsimp only at hSw); go_simp; try with_reducible rfl
  simp only [Act.put, List.setIfInBounds_toArray, List.set_cons_zero, List.set_cons_succ]
  refine wpAnyH_take (i := 7) (oi := ?oa7) (v := ?va7) ?hia7 (by kernel_rfl) (by kernel_rfl) (by kernel_rfl) ?hQa7 ?hya7 hH0 ?_
  case hia7 => simp only [List.getElem?_toArray, List.getElem?_cons_zero, List.getElem?_cons_succ]; rfl
  case hQa7 => exact fun _ _ _ h => h
  case hya7 => refine Or.inl ⟨by rfl, ?_⟩; intro W hSw; (try dsimp only at hSw); go_simp; try with_reducible rfl
  simp only [Act.put, List.setIfInBounds_toArray, List.set_cons_zero, List.set_cons_succ]
  refine wpAnyH_take (i := 8) (oi := ?oa8) (v := ?va8) ?hia8 (by kernel_rfl) (by kernel_rfl) (by kernel_rfl) ?hQa8 ?hya8 hH0 ?_
  case hia8 => simp only [List.getElem?_toArray, List.getElem?_cons_zero, List.getElem?_cons_succ]; rfl
  case hQa8 => exact fun _ _ _ h => h
  case hya8 => refine Or.inl ⟨by rfl, ?_⟩; intro W hSw; (try dsimp only at hSw); go_simp; try with_reducible rfl
  simp only [Act.put, List.setIfInBounds_toArray, List.set_cons_zero, List.set_cons_succ]
  refine wpAnyH_take (i := 9) (oi := ?oa9) (v := ?va9) ?hia9 (by kernel_rfl) (by kernel_rfl) (by kernel_rfl) ?hQa9 ?hya9 hH0 ?_
  case hia9 => simp only [List.getElem?_toArray, List.getElem?_cons_zero, List.getElem?_cons_succ]; rfl
  case hQa9 => exact fun _ _ _ h => h
  case hya9 => refine Or.inl ⟨by rfl, ?_⟩; intro W hSw; (try dsimp only at hSw); go_simp; try with_reducible rfl
  simp only [Act.put, List.setIfInBounds_toArray, List.set_cons_zero, List.set_cons_succ]
  refine wpAnyH_take (i := 10) (oi := ?oa10) (v := ?va10) ?hia10 (by kernel_rfl) (by kernel_rfl) (by kernel_rfl) ?hQa10 ?hya10 hH0 ?_
  case hia10 => simp only [List.getElem?_toArray, List.getElem?_cons_zero, List.getElem?_cons_succ]; rfl
  case hQa10 => exact fun _ _ _ h => h
  case hya10 => refine Or.inl ⟨by rfl, ?_⟩; intro W hSw; (try dsimp only at hSw); go_simp; try with_reducible rfl
  simp only [Act.put, List.setIfInBounds_toArray, List.set_cons_zero, List.set_cons_succ]
  refine wpAnyH_take (i := 11) (oi := ?oa11) (v := ?va11) ?hia11 (by kernel_rfl) (by kernel_rfl) (by kernel_rfl) ?hQa11 ?hya11 hH0 ?_
  case hia11 => simp only [List.getElem?_toArray, List.getElem?_cons_zero, List.getElem?_cons_succ]; rfl
  case hQa11 => exact fun _ _ _ h => h
  case hya11 => refine Or.inl ⟨by rfl, ?_⟩; intro W hSw; (try dsimp only at hSw); go_simp; try with_reducible rfl
  simp only [Act.put, List.setIfInBounds_toArray, List.set_cons_zero, List.set_cons_succ]
  refine wpAnyH_take (i := 12) (oi := ?oa12) (v := ?va12) ?hia12 (by kernel_rfl) (by kernel_rfl) (by kernel_rfl) ?hQa12 ?hya12 hH0 ?_
  case hia12 => simp only [List.getElem?_toArray, List.getElem?_cons_zero, List.getElem?_cons_succ]; rfl
  case hQa12 => exact fun _ _ _ h => h
  case hya12 => refine Or.inl ⟨by rfl, ?_⟩; intro W hSw; (try dsimp only at hSw); go_simp; try with_reducible rfl
  simp only [Act.put, List.setIfInBounds_toArray, List.set_cons_zero, List.set_cons_succ]
  refine wpAnyH_take (i := 13) (oi := ?oa13) (v := ?va13) ?hia13 (by kernel_rfl) (by kernel_rfl) (by kernel_rfl) ?hQa13 ?hya13 hH0 ?_
  case hia13 => simp only [List.getElem?_toArray, List.getElem?_cons_zero, List.getElem?_cons_succ]; rfl
  case hQa13 => exact fun _ _ _ h => h
  case hya13 => refine Or.inl ⟨by rfl, ?_⟩; intro W hSw; (try dsimp only at hSw); go_simp; try with_reducible rfl
  simp only [Act.put, List.setIfInBounds_toArray, List.set_cons_zero, List.set_cons_succ]
  refine wpAnyH_take (i := 14) (oi := ?oa14) (v := ?va14) ?hia14 (by kernel_rfl) (by kernel_rfl) (by kernel_rfl) ?hQa14 ?hya14 hH0 ?_
  case hia14 => simp only [List.getElem?_toArray, List.getElem?_cons_zero, List.getElem?_cons_succ]; rfl
  case hQa14 => exact fun _ _ _ h => h
  case hya14 => refine Or.inl ⟨by rfl, ?_⟩; intro W hSw; (try dsimp only at hSw); go_simp; try with_reducible rfl
  simp only [Act.put, List.setIfInBounds_toArray, List.set_cons_zero, List.set_cons_succ]
  refine wpAnyH_take (i := 15) (oi := ?oa15) (v := ?va15) ?hia15 (by kernel_rfl) (by kernel_rfl) (by kernel_rfl) ?hQa15 ?hya15 hH0 ?_
  case hia15 => simp only [List.getElem?_toArray, List.getElem?_cons_zero, List.getElem?_cons_succ]; rfl
  case hQa15 => exact fun _ _ _ h => h
  case hya15 => refine Or.inl ⟨by rfl, ?_⟩; intro W hSw; (try dsimp only at hSw); go_simp; try with_reducible rfl
  simp only [Act.put, List.setIfInBounds_toArray, List.set_cons_zero, List.set_cons_succ]
  clear hH0
  have hbd4 := (Below.refl z4.heap.size z4).drew
  have HM5 := Lib.hid (HM4.out.keep hbd4)
  have HB5 := Lib.hid (HB4.out.trans (hbd4.mono (by have := HB4.out.size; rw [HZ.out] at this; exact this)))
  have G5 := Lib.hid ((hbd4.block _ (Array.getElem?_eq_some_iff.1 G4.out).1).trans G4.out)
  clear hbd4
  generalize z4.drew = z5 at *
  refine wpAnyH_ready (rs := [16]) (by kernel_rfl) (by simp) ?_
  refine AllReadyH.cons (o := ?oa16) ?hoa16 (fun K' hK => ?_) AllReadyH.nil
  case hoa16 => simp only [List.getElem?_toArray, List.getElem?_cons_zero, List.getElem?_cons_succ]; rfl
  go_simp
  refine (CL.out _ HM5.out).mono ?_
  rintro e z6 ⟨rfl, hb6⟩
  have HM6 := Lib.hid (HM5.out.keep hb6)
  have HB6 := Lib.hid (HB5.out.trans (hb6.mono (by have := HB5.out.size; rw [HZ.out] at this; exact this)))
  have G6 := Lib.hid ((hb6.block _ (Array.getElem?_eq_some_iff.1 G5.out).1).trans G5.out)
  clear hb6
  refine hK.out _ _ (MKS.out _ HB6.out) (fun hH6 => ?_)
  clear hK K'
  (try simp only [Act.put, List.setIfInBounds_toArray, List.set_cons_zero, List.set_cons_succ])
  refine wpAnyH_take (i := 17) (oi := ?oa17) (v := ?va17) ?hia17 (by kernel_rfl) (by kernel_rfl) (by kernel_rfl) ?hQa17 ?hya17 hH6 ?_
  case hia17 => simp only [List.getElem?_toArray, List.getElem?_cons_zero, List.getElem?_cons_succ]; rfl
  case hQa17 => exact fun _ _ _ h => h
  case hya17 => refine Or.inl ⟨by rfl, ?_⟩; intro W hSw; (try dsimp only at hSw); go_simp; try with_reducible rfl
  simp only [Act.put, List.setIfInBounds_toArray, List.set_cons_zero, List.set_cons_succ]
  refine wpAnyH_take (i := 18) (oi := ?oa18) (v := ?va18) ?hia18 (by kernel_rfl) (by kernel_rfl) (by kernel_rfl) ?hQa18 ?hya18 hH6 ?_
  case hia18 => simp only [List.getElem?_toArray, List.getElem?_cons_zero, List.getElem?_cons_succ]; rfl
  case hQa18 => exact fun _ _ _ h => h
  case hya18 => refine Or.inl ⟨by rfl, ?_⟩; intro W hSw; (try dsimp only at hSw); go_simp; try with_reducible rfl
  simp only [Act.put, List.setIfInBounds_toArray, List.set_cons_zero, List.set_cons_succ]
  clear hH6
  have y0 : z6.cell? ⟨w.heap.size, 0, none⟩ = some (.int .i64 0) := by rw [Lib.cell_of_heap G6.out]; rfl
  have y1 : z6.cell? ⟨w.heap.size, 1, none⟩ = some (.int .i64 0) := by rw [Lib.cell_of_heap G6.out]; rfl
  have fy0 : z6.frozen? ⟨w.heap.size, 0, none⟩ = false := Lib.frozen_of_heap G6.out 0
  have fy1 : z6.frozen? ⟨w.heap.size, 1, none⟩ = false := Lib.frozen_of_heap G6.out 1
  refine wpAnyH_ready (rs := [19]) (by kernel_rfl) (by simp) ?_
  refine AllReadyH.cons (o := ?oa19) ?hoa19 (fun K' hK => ?_) AllReadyH.nil
  case hoa19 => simp only [List.getElem?_toArray, List.getElem?_cons_zero, List.getElem?_cons_succ]; rfl
  go_simp
  refine hK.out _ _ (MKS.out _ ((HB6.out.setCell (p := ⟨w.heap.size, 0, none⟩) (Nat.le_refl _) _).setCell (p := ⟨w.heap.size, 1, none⟩) (Nat.le_refl _) _)) (fun hH7 => ?_)
  clear hK K'
  (try simp only [Act.put, List.setIfInBounds_toArray, List.set_cons_zero, List.set_cons_succ])
  clear hH7
  refine wpAnyH_done (by kernel_rfl) ?_ _
  go_wp2_with fail
  refine bodyPost_ret (ret_row2 rfl _ _ _ _ _ _ _ _ _ (by rfl) G6.out Tryd.underlying113 rfl rosize) rfl ?_
  have hfin := ask_fin HM0.out HZ.out HB6.out
  exact ⟨rfl, (hfin _ _).1, HS0.out.trans (hfin _ _).2⟩

set_option maxRecDepth 100000 in
set_option maxHeartbeats 1600000 in
theorem ask_red_pos (X : Nat → Prop) (lo c : Nat) (R : ClR) (w : World) (h : ClM X lo w c R) (l : List OpR) (r : OpR) (hr : R.rs = l ++ [r]) (hm : l.length ≤ 1000000) (now : Int) (hv : Vw.rightB R.s.v = true) (hk : r.o.kind ≠ 1) (nd : Int) (hnd : R.s.v.chain.getD (pickT R.s.which R.s.v.chain.length) 0 = nd) (hneg : ¬ R.s.which < 0) :
    Calls Tryd.prog 45 #[.pointer (some ⟨c, 0, none⟩), .int .i64 now] w fun e w' => e = .returned (outV nd r.o.id) ∧ ClM X lo w' c (R.ask now) ∧ Step c R (R.ask now) w w' := by
  have hRV := (Vw.rightB_iff R.s.v).1 hv
  have hn1 := hRV.n1
  have hn2 := hRV.n2
  obtain ⟨ca, ck, hcv⟩ := h.cv.1.form
  obtain ⟨n, hn⟩ : ∃ n, R.s.v.chain.length = n := ⟨_, rfl⟩
  obtain ⟨q, hq⟩ : ∃ q, pickT R.s.which n = q := ⟨_, rfl⟩
  have hq1 : q < n := by rw [← hq]; exact Nat.mod_lt _ (by omega)
  obtain ⟨cb, co, ck', hcv2, hcb, -, -⟩ := h.cv.1.get q (by omega)
  obtain ⟨rfl, -, rfl⟩ : ca = some ⟨cb, co, none⟩ ∧ R.s.v.chain.length = R.s.v.chain.length ∧ ck = ck' := by rw [hcv] at hcv2; injection hcv2 with e1 e2 e3; exact ⟨e1, e2, e3⟩
  have hndq : R.s.v.chain[q]? = some nd := by
    rw [← hnd, hn, hq, List.getD_eq_getElem?_getD, List.getElem?_eq_getElem (by omega)]
    rfl
  have HCC := Lib.hid (fun (X' : World) (h' : ClM X lo X' c (R.ask now)) => (show X'.cell? ⟨cb, co + q, none⟩ = some (.int .i64 nd) from by
    obtain ⟨b', o', k', e1, -, -, e4⟩ := h'.cv.1.get q (by rw [← hn] at hq1; exact hq1)
    have e1 : R.cv = .slice (some ⟨b', o', none⟩) R.s.v.chain.length k' := e1
    rw [hcv] at e1
    injection e1 with e1 _ _
    injection e1 with e1
    injection e1 with e1 e2 _
    subst e1 e2
    rw [e4]
    have e5 : (R.ask now).s.v.chain[q]? = some nd := hndq
    rw [List.getElem?_eq_getElem (by rw [← hn] at hq1; exact hq1)] at e5
    rw [Option.some.inj e5]))
  rw [hn] at hcv
  have HCV := Lib.hid hcv
  have hw64 := h.wh
  have hM0 : ClM X lo (w.setCell ⟨c, 5, none⟩ (.int .i64 now)) c (R.ask now) := h.put 5 (.int .i64 now) { R.s with asked := now } rfl rfl h.wh rfl
  have hz : (w.setCell ⟨c, 5, none⟩ (.int .i64 now)).heap.size = w.heap.size := World.size_setCell _ _ _
  have hA : Below w.heap.size (w.setCell ⟨c, 5, none⟩ (.int .i64 now)) ((w.setCell ⟨c, 5, none⟩ (.int .i64 now)).alloc (.cells #[.int .i64 0, .int .i64 0] 113)) := (Below.refl _ _).alloc (Nat.le_of_eq hz.symm) _
  have hM1 : ClM X lo ((w.setCell ⟨c, 5, none⟩ (.int .i64 now)).alloc (.cells #[.int .i64 0, .int .i64 0] 113)) c (R.ask now) := hM0.keep (by rw [hz]; exact hA)
  have hG1 : (((w.setCell ⟨c, 5, none⟩ (.int .i64 now)).alloc (.cells #[.int .i64 0, .int .i64 0] 113))).heap[w.heap.size]? = some (.cells #[.int .i64 0, .int .i64 0] 113) := by
    have := heap_alloc_new (w.setCell ⟨c, 5, none⟩ (.int .i64 now)) (.cells #[.int .i64 0, .int .i64 0] 113)
    rw [hz] at this
    exact this
  have hS0 : Step c R (R.ask now) w (w.setCell ⟨c, 5, none⟩ (.int .i64 now)) := ClM.putStep c R w 5 _ _
  have HZ := Lib.hid hz
  have HM0 := Lib.hid hM0
  have HM := Lib.hid hM1
  have HS0 := Lib.hid hS0
  have HB := Lib.hid hA
  have G1 := Lib.hid hG1
  have f5 := h.fr 5
  have c5 := h.c5
  have c6 := h.c6
  have c7 := h.c7
  have c8 := h.c8
  have c9 := h.c9
  have hc := h.clt
  have x1 : c ≠ w.heap.size := by omega
  have CL := Lib.hid (fun (X' : World) (h' : ClM X lo X' c (R.ask now)) => last_all X lo c (R.ask now) X' h' l r hr hm)
  have CR := Lib.hid (fun (X' : World) (h' : ClM X lo X' c (R.ask now)) => Vw.refRight_any X'.heap.size _ R.s.v X' h'.view (Nat.le_refl _) h'.sm true hv.symm)
  have CW := Lib.hid (fun (X' : World) (h' : ClM X lo X' c (R.ask now)) => where_any X lo c (R.ask now) X' h' l r hr hm)
  have hF0 := field_kind
  have hF1 := field_id
  have hk1 : (r.o.kind == 1) = false := by rw [beq_eq_false_iff_ne]; exact hk
  obtain ⟨hw1, hw2⟩ := hw64
  obtain ⟨m, hm1⟩ : ∃ m : Nat, R.s.which = (m : Int) := ⟨(R.s.which).toNat, by omega⟩
  have hmq : q = m % n := by rw [← hq, pickT, if_neg hneg, hm1, Int.toNat_natCast]
  rw [hm1] at hw1 hw2
  have hm0 : ¬ (m : Int) < 0 := by omega
  have hlt : (q : Int) < (n : Int) := by omega
  have hge : (0 : Int) ≤ (q : Int) := by omega
  have hn0 : ¬ (n : Int) = 0 := by omega
  have hn0' : ¬ n = 0 := by omega
  have e3 : (m : Int).tmod (n : Int) = (q : Int) := by rw [Int.tmod_eq_emod_of_nonneg (by omega), hmq]; rfl
  have e4 : IntKind.i64.wrap (q : Int) = (q : Int) := by rw [IntKind.wrap_i64]; omega
  have HKW := Lib.hid hm1
  clear hq hn hmq hm1 hneg
  clear hk hnd hndq hcv2 hRV hcv
  clear hA hM0 hM1 hS0 hG1 hz h hv hr
  go_enter Tryd.func45, Tryd.ntmps45
  go_wp2_with fail
  generalize w.setCell ⟨c, 5, none⟩ (.int .i64 now) = wa at *
  generalize wa.alloc (.cells #[.int .i64 0, .int .i64 0] 113) = z1 at *
  clear f5 c5 c6 c7 c8 c9
  refine (CR.out _ HM.out).mono ?_
  rintro e z3 ⟨rfl, hb3⟩
  have HM3 := Lib.hid (HM.out.keep hb3)
  have HB3 := Lib.hid (HB.out.trans (hb3.mono (by have := HB.out.size; rw [HZ.out] at this; exact this)))
  have G3 := Lib.hid ((hb3.block _ (Array.getElem?_eq_some_iff.1 G1.out).1).trans G1.out)
  clear hb3
  have MKS := Lib.hid (fun (X' : World) (hb : Below w.heap.size wa X') => (show X'.cell? ⟨c, 7, none⟩ = some (.slice (some ⟨cb, co, none⟩) n ck) ∧ X'.cell? ⟨cb, co + q, none⟩ = some (.int .i64 nd) ∧ Below w.heap.size wa X' from by
    have h1 := HM0.out.keep (hb.mono (Nat.le_of_eq HZ.out))
    exact ⟨by rw [← HCV.out]; exact h1.c7, HCC.out _ h1, hb⟩))
  go_wp2_with fail
  refine (CL.out _ HM3.out).mono ?_
  rintro e z4 ⟨rfl, hb4⟩
  have HM4 := Lib.hid (HM3.out.keep hb4)
  have HB4 := Lib.hid (HB3.out.trans (hb4.mono (by have := HB3.out.size; rw [HZ.out] at this; exact this)))
  have G4 := Lib.hid ((hb4.block _ (Array.getElem?_eq_some_iff.1 G3.out).1).trans G3.out)
  clear hb4
  have k4 : z4.cell? ⟨c, 4, none⟩ = some (.int .i64 (m : Int)) := by rw [← HKW.out]; exact HM4.out.c4
  go_wp2_with fail
  refine region_begin (S := fun X' => X'.cell? ⟨c, 7, none⟩ = some (.slice (some ⟨cb, co, none⟩) n ck) ∧ X'.cell? ⟨cb, co + q, none⟩ = some (.int .i64 nd) ∧ Below w.heap.size wa X') 20 rfl (by kernel_rfl) (MKS.out _ HB4.out.drew) (fun hH0 => ?_)
  refine wpAnyH_take (i := 0) (oi := ?oa0) (v := ?va0) ?hia0 (by kernel_rfl) (by kernel_rfl) (by kernel_rfl) ?hQa0 ?hya0 hH0 ?_
  case hia0 => simp only [List.getElem?_toArray, List.getElem?_cons_zero]; rfl
  case hQa0 => exact fun _ _ _ h => h
  case hya0 => refine Or.inl ⟨by rfl, ?_⟩; intro W hSw; (try dsimp only at hSw); go_simp; try with_reducible rfl
  simp only [Act.put, List.setIfInBounds_toArray, List.set_cons_zero, List.set_cons_succ]
  refine wpAnyH_take (i := 1) (oi := ?oa1) (v := ?va1) ?hia1 (by kernel_rfl) (by kernel_rfl) (by kernel_rfl) ?hQa1 ?hya1 hH0 ?_
  case hia1 => simp only [List.getElem?_toArray, List.getElem?_cons_zero, List.getElem?_cons_succ]; rfl
  case hQa1 => exact fun _ _ _ h => h
  case hya1 => refine Or.inl ⟨by rfl, ?_⟩; intro W hSw; (try dsimp only at hSw); go_simp; try with_reducible rfl
  simp only [Act.put, List.setIfInBounds_toArray, List.set_cons_zero, List.set_cons_succ]
  refine wpAnyH_take (i := 2) (oi := ?oa2) (v := ?va2) ?hia2 (by kernel_rfl) (by kernel_rfl) (by kernel_rfl) ?hQa2 ?hya2 hH0 ?_
  case hia2 => simp only [List.getElem?_toArray, List.getElem?_cons_zero, List.getElem?_cons_succ]; rfl
  case hQa2 => exact fun _ _ _ h => h
  case hya2 => refine Or.inl ⟨by rfl, ?_⟩; intro W hSw; (try dsimp only at hSw); go_simp; try with_reducible rfl
  simp only [Act.put, List.setIfInBounds_toArray, List.set_cons_zero, List.set_cons_succ]
  refine wpAnyH_take (i := 3) (oi := ?oa3) (v := ?va3) ?hia3 (by kernel_rfl) (by kernel_rfl) (by kernel_rfl) ?hQa3 ?hya3 hH0 ?_
  case hia3 => simp only [List.getElem?_toArray, List.getElem?_cons_zero, List.getElem?_cons_succ]; rfl
  case hQa3 => exact fun _ _ _ h => h
  case hya3 => refine Or.inl ⟨by rfl, ?_⟩; intro W hSw; (try dsimp only at hSw); go_simp; try with_reducible rfl
  simp only [Act.put, List.setIfInBounds_toArray, List.set_cons_zero, List.set_cons_succ]
  refine wpAnyH_take (i := 4) (oi := ?oa4) (v := ?va4) ?hia4 (by kernel_rfl) (by kernel_rfl) (by kernel_rfl) ?hQa4 ?hya4 hH0 ?_
  case hia4 => simp only [List.getElem?_toArray, List.getElem?_cons_zero, List.getElem?_cons_succ]; rfl
  case hQa4 => exact fun _ _ _ h => h
  case hya4 => refine Or.inl ⟨by rfl, ?_⟩; intro W hSw; (try dsimp only at hSw); go_simp; try with_reducible rfl
  simp only [Act.put, List.setIfInBounds_toArray, List.set_cons_zero, List.set_cons_succ]
  refine wpAnyH_take (i := 5) (oi := ?oa5) (v := ?va5) ?hia5 (by kernel_rfl) (by kernel_rfl) (by kernel_rfl) ?hQa5 ?hya5 hH0 ?_
  case hia5 => simp only [List.getElem?_toArray, List.getElem?_cons_zero, List.getElem?_cons_succ]; rfl
  case hQa5 => exact fun _ _ _ h => h
  case hya5 => refine Or.inl ⟨by rfl, ?_⟩; intro W hSw; (try dsimp only at hSw); go_simp; try with_reducible rfl
  simp only [Act.put, List.setIfInBounds_toArray, List.set_cons_zero, List.set_cons_succ]
  refine wpAnyH_take (i := 6) (oi := ?oa6) (v := ?va6) ?hia6 (by kernel_rfl) (by kernel_rfl) (by kernel_rfl) ?hQa6 ?hya6 hH0 ?_
  case hia6 => simp only [List.getElem?_toArray, List.getElem?_cons_zero, List.getElem?_cons_succ]; rfl
  case hQa6 => exact fun _ _ _ h => h
  case hya6 => refine Or.inl ⟨by rfl, ?_⟩; intro W hSw; (try dsimp only at hSw); go_simp; try with_reducible rfl
  simp only [Act.put, List.setIfInBounds_toArray, List.set_cons_zero, List.set_cons_succ]
  refine wpAnyH_take (i := 7) (oi := ?oa7) (v := ?va7) ?hia7 (by kernel_rfl) (by kernel_rfl) (by kernel_rfl) ?hQa7 ?hya7 hH0 ?_
  case hia7 => simp only [List.getElem?_toArray, List.getElem?_cons_zero, List.getElem?_cons_succ]; rfl
  case hQa7 => exact fun _ _ _ h => h
  case hya7 => refine Or.inl ⟨by rfl, ?_⟩; intro W hSw; (try dsimp only at hSw); go_simp; try with_reducible rfl
  simp only [Act.put, List.setIfInBounds_toArray, List.set_cons_zero, List.set_cons_succ]
  refine wpAnyH_take (i := 8) (oi := ?oa8) (v := ?va8) ?hia8 (by kernel_rfl) (by kernel_rfl) (by kernel_rfl) ?hQa8 ?hya8 hH0 ?_
  case hia8 => simp only [List.getElem?_toArray, List.getElem?_cons_zero, List.getElem?_cons_succ]; rfl
  case hQa8 => exact fun _ _ _ h => h
  case hya8 => refine Or.inl ⟨by rfl, ?_⟩; intro W hSw; (try dsimp only at hSw); go_simp; try with_reducible rfl
  simp only [Act.put, List.setIfInBounds_toArray, List.set_cons_zero, List.set_cons_succ]
  refine wpAnyH_take (i := 9) (oi := ?oa9) (v := ?va9) ?hia9 (by kernel_rfl) (by kernel_rfl) (by kernel_rfl) ?hQa9 ?hya9 hH0 ?_
  case hia9 => simp only [List.getElem?_toArray, List.getElem?_cons_zero, List.getElem?_cons_succ]; rfl
  case hQa9 => exact fun _ _ _ h => h
  case hya9 => refine Or.inl ⟨by rfl, ?_⟩; intro W hSw; (try dsimp only at hSw); go_simp; try with_reducible rfl
  simp only [Act.put, List.setIfInBounds_toArray, List.set_cons_zero, List.set_cons_succ]
  refine wpAnyH_take (i := 10) (oi := ?oa10) (v := ?va10) ?hia10 (by kernel_rfl) (by kernel_rfl) (by kernel_rfl) ?hQa10 ?hya10 hH0 ?_
  case hia10 => simp only [List.getElem?_toArray, List.getElem?_cons_zero, List.getElem?_cons_succ]; rfl
  case hQa10 => exact fun _ _ _ h => h
  case hya10 => refine Or.inl ⟨by rfl, ?_⟩; intro W hSw; (try dsimp only at hSw); go_simp; try with_reducible rfl
  simp only [Act.put, List.setIfInBounds_toArray, List.set_cons_zero, List.set_cons_succ]
  refine wpAnyH_take (i := 11) (oi := ?oa11) (v := ?va11) ?hia11 (by kernel_rfl) (by kernel_rfl) (by kernel_rfl) ?hQa11 ?hya11 hH0 ?_
  case hia11 => simp only [List.getElem?_toArray, List.getElem?_cons_zero, List.getElem?_cons_succ]; rfl
  case hQa11 => exact fun _ _ _ h => h
  case hya11 => refine Or.inl ⟨by rfl, ?_⟩; intro W hSw; (try dsimp only at hSw); go_simp; try with_reducible rfl
  simp only [Act.put, List.setIfInBounds_toArray, List.set_cons_zero, List.set_cons_succ]
  refine wpAnyH_take (i := 12) (oi := ?oa12) (v := ?va12) ?hia12 (by kernel_rfl) (by kernel_rfl) (by kernel_rfl) ?hQa12 ?hya12 hH0 ?_
  case hia12 => simp only [List.getElem?_toArray, List.getElem?_cons_zero, List.getElem?_cons_succ]; rfl
  case hQa12 => exact fun _ _ _ h => h
  case hya12 => refine Or.inl ⟨by rfl, ?_⟩; intro W hSw; (try dsimp only at hSw); go_simp; try with_reducible rfl
  simp only [Act.put, List.setIfInBounds_toArray, List.set_cons_zero, List.set_cons_succ]
  refine wpAnyH_take (i := 13) (oi := ?oa13) (v := ?va13) ?hia13 (by kernel_rfl) (by kernel_rfl) (by kernel_rfl) ?hQa13 ?hya13 hH0 ?_
  case hia13 => simp only [List.getElem?_toArray, List.getElem?_cons_zero, List.getElem?_cons_succ]; rfl
  case hQa13 => exact fun _ _ _ h => h
  case hya13 => refine Or.inl ⟨by rfl, ?_⟩; intro W hSw; (try dsimp only at hSw); go_simp; try with_reducible rfl
  simp only [Act.put, List.setIfInBounds_toArray, List.set_cons_zero, List.set_cons_succ]
  refine wpAnyH_take (i := 14) (oi := ?oa14) (v := ?va14) ?hia14 (by kernel_rfl) (by kernel_rfl) (by kernel_rfl) ?hQa14 ?hya14 hH0 ?_
  case hia14 => simp only [List.getElem?_toArray, List.getElem?_cons_zero, List.getElem?_cons_succ]; rfl
  case hQa14 => exact fun _ _ _ h => h
  case hya14 => refine Or.inl ⟨by rfl, ?_⟩; intro W hSw; (try dsimp only at hSw); go_simp; try with_reducible rfl
  simp only [Act.put, List.setIfInBounds_toArray, List.set_cons_zero, List.set_cons_succ]
  refine wpAnyH_take (i := 15) (oi := ?oa15) (v := ?va15) ?hia15 (by kernel_rfl) (by kernel_rfl) (by kernel_rfl) ?hQa15 ?hya15 hH0 ?_
  case hia15 => simp only [List.getElem?_toArray, List.getElem?_cons_zero, List.getElem?_cons_succ]; rfl
  case hQa15 => exact fun _ _ _ h => h
  case hya15 => refine Or.inl ⟨by rfl, ?_⟩; intro W hSw; (try dsimp only at hSw); go_simp; try with_reducible rfl
  simp only [Act.put, List.setIfInBounds_toArray, List.set_cons_zero, List.set_cons_succ]
  clear hH0
  have hbd4 := (Below.refl z4.heap.size z4).drew
  have HM5 := Lib.hid (HM4.out.keep hbd4)
  have HB5 := Lib.hid (HB4.out.trans (hbd4.mono (by have := HB4.out.size; rw [HZ.out] at this; exact this)))
  have G5 := Lib.hid ((hbd4.block _ (Array.getElem?_eq_some_iff.1 G4.out).1).trans G4.out)
  clear hbd4
  generalize z4.drew = z5 at *
  refine wpAnyH_ready (rs := [16]) (by kernel_rfl) (by simp) ?_
  refine AllReadyH.cons (o := ?oa16) ?hoa16 (fun K' hK => ?_) AllReadyH.nil
  case hoa16 => simp only [List.getElem?_toArray, List.getElem?_cons_zero, List.getElem?_cons_succ]; rfl
  go_simp
  refine (CL.out _ HM5.out).mono ?_
  rintro e z6 ⟨rfl, hb6⟩
  have HM6 := Lib.hid (HM5.out.keep hb6)
  have HB6 := Lib.hid (HB5.out.trans (hb6.mono (by have := HB5.out.size; rw [HZ.out] at this; exact this)))
  have G6 := Lib.hid ((hb6.block _ (Array.getElem?_eq_some_iff.1 G5.out).1).trans G5.out)
  clear hb6
  refine hK.out _ _ (MKS.out _ HB6.out) (fun hH6 => ?_)
  clear hK K'
  (try simp only [Act.put, List.setIfInBounds_toArray, List.set_cons_zero, List.set_cons_succ])
  refine wpAnyH_take (i := 17) (oi := ?oa17) (v := ?va17) ?hia17 (by kernel_rfl) (by kernel_rfl) (by kernel_rfl) ?hQa17 ?hya17 hH6 ?_
  case hia17 => simp only [List.getElem?_toArray, List.getElem?_cons_zero, List.getElem?_cons_succ]; rfl
  case hQa17 => exact fun _ _ _ h => h
  case hya17 => refine Or.inl ⟨by rfl, ?_⟩; intro W hSw; (try dsimp only at hSw); go_simp; try with_reducible rfl
  simp only [Act.put, List.setIfInBounds_toArray, List.set_cons_zero, List.set_cons_succ]
  refine wpAnyH_take (i := 18) (oi := ?oa18) (v := ?va18) ?hia18 (by kernel_rfl) (by kernel_rfl) (by kernel_rfl) ?hQa18 ?hya18 hH6 ?_
  case hia18 => simp only [List.getElem?_toArray, List.getElem?_cons_zero, List.getElem?_cons_succ]; rfl
  case hQa18 => exact fun _ _ _ h => h
  case hya18 => refine Or.inl ⟨by rfl, ?_⟩; intro W hSw; (try dsimp only at hSw); go_simp; try with_reducible rfl
  simp only [Act.put, List.setIfInBounds_toArray, List.set_cons_zero, List.set_cons_succ]
  clear hH6
  have y0 : z6.cell? ⟨w.heap.size, 0, none⟩ = some (.int .i64 0) := by rw [Lib.cell_of_heap G6.out]; rfl
  have y1 : z6.cell? ⟨w.heap.size, 1, none⟩ = some (.int .i64 0) := by rw [Lib.cell_of_heap G6.out]; rfl
  have fy0 : z6.frozen? ⟨w.heap.size, 0, none⟩ = false := Lib.frozen_of_heap G6.out 0
  have fy1 : z6.frozen? ⟨w.heap.size, 1, none⟩ = false := Lib.frozen_of_heap G6.out 1
  refine wpAnyH_ready (rs := [19]) (by kernel_rfl) (by simp) ?_
  refine AllReadyH.cons (o := ?oa19) ?hoa19 (fun K' hK => ?_) AllReadyH.nil
  case hoa19 => simp only [List.getElem?_toArray, List.getElem?_cons_zero, List.getElem?_cons_succ]; rfl
  go_simp
  refine hK.out _ _ (MKS.out _ ((HB6.out.setCell (p := ⟨w.heap.size, 0, none⟩) (Nat.le_refl _) _).setCell (p := ⟨w.heap.size, 1, none⟩) (Nat.le_refl _) _)) (fun hH7 => ?_)
  clear hK K'
  (try simp only [Act.put, List.setIfInBounds_toArray, List.set_cons_zero, List.set_cons_succ])
  clear hH7
  refine wpAnyH_done (by kernel_rfl) ?_ _
  go_wp2_with fail
  refine bodyPost_ret (ret_row2 rfl _ _ _ _ _ _ _ _ _ (by rfl) G6.out Tryd.underlying113 rfl rosize) rfl ?_
  have hfin := ask_fin HM0.out HZ.out HB6.out
  exact ⟨rfl, (hfin _ _).1, HS0.out.trans (hfin _ _).2⟩

theorem ask_any (X : Nat → Prop) (lo c : Nat) (R : ClR) (w : World) (h : ClM X lo w c R) (l : List OpR) (r : OpR) (hr : R.rs = l ++ [r]) (hm : l.length ≤ 1000000) (now : Int) (d : Int) (ho : (askO R r).dst = d) :
    Calls Tryd.prog 45 #[.pointer (some ⟨c, 0, none⟩), .int .i64 now] w fun e w' => e = .returned (outV d r.o.id) ∧ ClM X lo w' c (R.ask now) ∧ Step c R (R.ask now) w w' := by
  cases hv : Vw.rightB R.s.v with
  | false =>
    rw [askO, if_pos hv] at ho
    subst ho
    exact ask_where X lo c R w h l r hr hm now hv
  | true =>
    rw [askO, if_neg (by rw [hv]; decide)] at ho
    by_cases hk : r.o.kind = 1
    · rw [if_pos hk] at ho
      exact ask_app X lo c R w h l r hr hm now hv hk d ho
    · rw [if_neg hk] at ho
      by_cases hneg : R.s.which < 0
      · exact ask_red_neg X lo c R w h l r hr hm now hv hk d ho hneg
      · exact ask_red_pos X lo c R w h l r hr hm now hv hk d ho hneg
end Go.Proofs.YtapgjjfndbfnpaaDoor.Rf
namespace Go.Proofs.YtapgjjfndbfnpaaDoor.Rf
open Go.RowKit
set_option linter.unusedSimpArgs false
set_option linter.unusedVariables false

def routCells (l : List (Int × Int)) : List Value := l.flatMap fun o => [.int .i64 o.1, .int .i64 o.2]
/-- What the document's client tells, in a block from B on. -/
def ROutsAt (B : Nat) (w : World) (v : Value) (l : List (Int × Int)) : Prop :=
  (v = .slice none 0 0 ∧ l = []) ∨ ∃ b, v = .slice (some ⟨b, 0, none⟩) l.length l.length ∧ B ≤ b ∧ w.heap[b]? = some (.cells (routCells l).toArray 113)
def rowsR (R : ClR) (rs : List OpR) (ov : Value) : ClR := { R with s := { R.s with ops := rs.map (·.o) }, rs := rs, ov := ov }
theorem Tryd.ropinfo : (Tryd.prog.info? 79).map (fun i => (i.zero, i.size, i.bytes)) = some (some (.agg #[.int .i64 0, .int .i64 0, .int .i64 0, .int .i64 0, .string ByteArray.empty, .int .i64 0, .int .i64 0, .int .i64 0, .slice none 0 0, .int .i64 0, .int .i64 0, .int .i64 0, .int .i64 0, .string ByteArray.empty, .int .i64 0, .int .i64 0, .slice none 0 0]), 17, 184) := by kernel_rfl
/-- Its ops are others, in a block that is new. -/
theorem ClM.fresh {X : Nat → Prop} {lo c : Nat} {w w3 : World} {R : ClR} {rs : List OpR} {ov : Value} (h : ClM X lo w c R) (hb : Below w.heap.size w w3) (hown : w3.ownsRow w.heap.size 79 17 ov rs.length (ocells rs))
    (hbev : ∀ r ∈ rs, EvA (fun k => R.mut c k ∨ X k) w r.bev r.o.b.events) (hevv : ∀ r ∈ rs, EvA (fun k => R.mut c k ∨ X k) w r.evv r.o.events) :
    ClM X lo (w3.setCell ⟨c, 2, none⟩ ov) c (rowsR R rs ov) ∧ Step c R (rowsR R rs ov) w (w3.setCell ⟨c, 2, none⟩ ov) := by
  have hc := h.clt
  have hlt := own_lt hown
  have hne : ov.ownBlock ≠ some c := fun e => by have := (hlt c e).1; omega
  have st : Step c R (rowsR R rs ov) w (w3.setCell ⟨c, 2, none⟩ ov) := by
    refine ⟨(kept_below hb).store ⟨c, 2, none⟩ (.inl (.inl rfl)) _, fun k hk hm => ?_⟩
    rcases hm with e | e
    · exact .inl e
    · have := (hlt k e).1
      omega
  have hblk : w3.heap[c]? = some (.cells R.cells 70) := (hb.block c hc).trans h.blk
  exact ⟨⟨h.hlo, block_set2 hblk 2 _, Vw.own_set_ne (own_less (show lo ≤ w.heap.size by have := h.hlo; omega) hown) c 2 hne _, rfl, hne, fun r hr => eva_k (hbev r hr) st, fun r hr => eva_k (hevv r hr) st, h.ep, h.sm, h.wh, ina_k h.cv st, ina_k h.sv st, ina_k h.bv st, h.xltK st, h.xneK st⟩, st⟩
theorem rows_begun {X : Nat → Prop} {lo c : Nat} {w : World} {R : ClR} (h : ClM X lo w c R) (r1 : OpR) (ov : Value) : rowsR R (R.rs ++ [r1]) ov = R.begun r1 ov := by
  simp [rowsR, ClR.begun, ← h.ops]

set_option maxRecDepth 100000 in
set_option maxHeartbeats 1600000 in
theorem begin_any (X : Nat → Prop) (lo c : Nat) (R : ClR) (w : World) (h : ClM X lo w c R) (hm : R.rs.length ≤ 100000) (r : OpR) (now : Int) (hbev : EvA (fun k => R.mut c k ∨ X k) w r.bev r.o.b.events) (hevv : EvA (fun k => R.mut c k ∨ X k) w r.evv r.o.events)
    (r1 : OpR) (hr1 : r.begun ((R.rs.length : Int) + 1) now = r1) :
    Calls Tryd.prog 42 #[.pointer (some ⟨c, 0, none⟩), .agg #[.int .i64 r.o.kind, .int .i64 r.o.id, .int .i64 r.o.start, .int .i64 r.o.end_, .string r.o.b.stream, .int .i64 r.o.b.expect, .int .i64 r.o.b.session, .int .i64 r.o.b.seq, r.bev, .int .i64 r.o.out.code, .int .i64 r.o.out.pos, .int .i64 r.o.out.first, .int .i64 r.o.out.version, .string r.o.stream, .int .i64 r.o.from_, .int .i64 r.o.version, r.evv], .int .i64 now] w fun e w' =>
      ∃ v ov, e = .returned v ∧ ClM X lo w' c (((R.begun r1 ov).wait true).ask now) ∧ Step c R (((R.begun r1 ov).wait true).ask now) w w' ∧ ROutsAt w.heap.size w' v [((askO ((R.begun r1 ov).wait true) r1).dst, r1.o.id)] := by
  obtain ⟨i0, hi0, hq0, hq1, hq2⟩ := info_parts Tryd.ropinfo
  obtain ⟨oa, ok, hov⟩ := h.form
  have c2 := h.c2
  rw [hov] at c2
  have hc := h.clt
  have x1 : c ≠ w.heap.size := by omega
  have HH := Lib.hid h
  have HOV := Lib.hid hov
  have HR1 := Lib.hid hr1
  have HBE := Lib.hid hbev.plain
  have HEE := Lib.hid hevv.plain
  have HBV := Lib.hid (show EvA (fun k => R.mut c k ∨ X k) w r1.bev r1.o.b.events by rw [← hr1]; exact hbev)
  have HEV := Lib.hid (show EvA (fun k => R.mut c k ∨ X k) w r1.evv r1.o.events by rw [← hr1]; exact hevv)
  have i1 : (0 : Int) ≤ (R.rs.length : Int) := by omega
  have i2 : (R.rs.length : Int) ≤ 100000 := by omega
  clear h hov hr1 hbev hevv
  go_enter Tryd.func42, Tryd.ntmps42
  go_upto_region 4 with fail
  have hA0 : Below w.heap.size w (w.alloc (.cells #[.int .i64 r.o.kind, .int .i64 ((R.rs.length : Int) + 1), .int .i64 now, .int .i64 (-1), .string r.o.b.stream, .int .i64 r.o.b.expect, .int .i64 r.o.b.session, .int .i64 r.o.b.seq, r.bev, .int .i64 r.o.out.code, .int .i64 r.o.out.pos, .int .i64 r.o.out.first, .int .i64 r.o.out.version, .string r.o.stream, .int .i64 r.o.from_, .int .i64 r.o.version, r.evv] 79)) := (Below.refl _ _).alloc (Nat.le_refl _) _
  have hG0 := heap_alloc_new w (.cells #[.int .i64 r.o.kind, .int .i64 ((R.rs.length : Int) + 1), .int .i64 now, .int .i64 (-1), .string r.o.b.stream, .int .i64 r.o.b.expect, .int .i64 r.o.b.session, .int .i64 r.o.b.seq, r.bev, .int .i64 r.o.out.code, .int .i64 r.o.out.pos, .int .i64 r.o.out.first, .int .i64 r.o.out.version, .string r.o.stream, .int .i64 r.o.from_, .int .i64 r.o.version, r.evv] 79)
  have HM0 := Lib.hid (HH.out.keep hA0)
  have HB0 := Lib.hid hA0
  have G0 := Lib.hid hG0
  have hz0 : w.heap.size < (w.alloc (.cells #[.int .i64 r.o.kind, .int .i64 ((R.rs.length : Int) + 1), .int .i64 now, .int .i64 (-1), .string r.o.b.stream, .int .i64 r.o.b.expect, .int .i64 r.o.b.session, .int .i64 r.o.b.seq, r.bev, .int .i64 r.o.out.code, .int .i64 r.o.out.pos, .int .i64 r.o.out.first, .int .i64 r.o.out.version, .string r.o.stream, .int .i64 r.o.from_, .int .i64 r.o.version, r.evv] 79)).heap.size := (Array.getElem?_eq_some_iff.1 hG0).1
  clear hA0 hG0 c2
  generalize w.alloc (.cells #[.int .i64 r.o.kind, .int .i64 ((R.rs.length : Int) + 1), .int .i64 now, .int .i64 (-1), .string r.o.b.stream, .int .i64 r.o.b.expect, .int .i64 r.o.b.session, .int .i64 r.o.b.seq, r.bev, .int .i64 r.o.out.code, .int .i64 r.o.out.pos, .int .i64 r.o.out.first, .int .i64 r.o.out.version, .string r.o.stream, .int .i64 r.o.from_, .int .i64 r.o.version, r.evv] 79) = w0 at *
  go_cut [7] (fun s7 wx => ∃ g cap, s7 = .slice (some ⟨g, 0, none⟩) R.rs.length cap ∧ wx.ownsRow w0.heap.size 79 17 (.slice (some ⟨g, 0, none⟩) R.rs.length cap) R.rs.length (ocells R.rs) ∧ Below w0.heap.size w0 wx)
  case first =>
    have c2 := HM0.out.c2
    have hc0 : c < w0.heap.size := HM0.out.clt
    have x2 : c ≠ w0.heap.size := by omega
    by_cases hn : 0 < R.rs.length
    · obtain ⟨g, cap, cur, hv, hgl, hgc, hg, r1', r2, r3, r4⟩ := HM0.out.row hn
      rw [hv] at c2
      have hgs := (Array.getElem?_eq_some_iff.1 hg).1
      have hnews2 : ∀ j u, (ocells R.rs)[j]? = some u → (w0.alloc (.cells #[] 79)).cell? ((⟨g, 0, none⟩ : Addr).add j) = some u := fun j u hu => by
        have hj : j < R.rs.length * 17 := by
          have := (List.getElem?_eq_some_iff.1 hu).1
          rwa [ocells_len] at this
        rw [add_spot2, Nat.zero_add, ((Below.refl w0.heap.size w0).alloc (Nat.le_refl _) (.cells #[] 79)).cell (p := ⟨g, j, none⟩) hgs, Lib.cell_of_heap hg, ← hu, ← r4, List.getElem?_take_of_lt hj, Array.getElem?_toList]
      have HN := Lib.hid hnews2
      clear hnews2 hg r1' r2 r3 r4 hgl hgc hv
      go_wp2_with (at_builtin; refine wpList_append_emptyN _ 17 (by omega) rfl _ _ 67 rfl 79 i0 _ 184 Tryd.underlying67 hi0 hq0 hq1 hq2 rfl ⟨w0.heap.size, 0, none⟩ rfl ⟨g, 0, none⟩ R.rs.length cap rfl (ocells R.rs) (ocells_len R.rs) HN.out hn (by unfold maxLen; omega) (by omega) ?_; intro cap2 w1 hown hb1; rw [World.size_alloc] at hown)
      go_meet
      case rel => exact ⟨_, _, rfl, own_less (Nat.le_succ _) hown, bstep ((Below.refl w0.heap.size w0).alloc (Nat.le_refl _) (.cells #[] 79)) hb1⟩
    · have h0 : R.rs.length = 0 := by omega
      rw [HOV.out, h0] at c2
      have H0 := Lib.hid h0
      clear hn h0
      cases oa with
      | none =>
        go_wp2_with fail
        go_meet
        case rel => exact ⟨w0.heap.size, 0, by rw [H0.out], by rw [List.eq_nil_of_length_eq_zero H0.out]; exact ⟨rfl, .inr ⟨w0.heap.size, 0, #[], rfl, Nat.le_refl _, heap_alloc_new _ _, Nat.le_refl _, Nat.zero_le _, rfl, rfl⟩⟩, (Below.refl _ _).alloc (Nat.le_refl _) _⟩
      | some ad =>
        go_wp2_with fail
        go_meet
        case rel => exact ⟨w0.heap.size, 0, by rw [H0.out], by rw [List.eq_nil_of_length_eq_zero H0.out]; exact ⟨rfl, .inr ⟨w0.heap.size, 0, #[], rfl, Nat.le_refl _, heap_alloc_new _ _, Nat.le_refl _, Nat.zero_le _, rfl, rfl⟩⟩, (Below.refl _ _).alloc (Nat.le_refl _) _⟩
  case rest =>
    obtain ⟨g7, cap7, rfl, hown7, hb7⟩ := hcut
    have HB7 := Lib.hid (HB0.out.trans (hb7.mono (Nat.le_of_lt hz0)))
    have hgq := (hb7.block _ hz0).trans G0.out
    have HRG := Lib.hid (show wc.rangeAt w.heap.size 0 [.int .i64 r.o.kind, .int .i64 ((R.rs.length : Int) + 1), .int .i64 now, .int .i64 (-1), .string r.o.b.stream, .int .i64 r.o.b.expect, .int .i64 r.o.b.session, .int .i64 r.o.b.seq, r.bev, .int .i64 r.o.out.code, .int .i64 r.o.out.pos, .int .i64 r.o.out.first, .int .i64 r.o.out.version, .string r.o.stream, .int .i64 r.o.from_, .int .i64 r.o.version, r.evv] from fun j v hj => by rw [Lib.cell_of_heap hgq, Nat.zero_add, ← hj, ← Array.getElem?_toList])
    have hl := (Below.refl wc.heap.size wc).alloc (Nat.le_refl _) (.cells #[.int .i64 r.o.kind, .int .i64 ((R.rs.length : Int) + 1), .int .i64 now, .int .i64 (-1), .string r.o.b.stream, .int .i64 r.o.b.expect, .int .i64 r.o.b.session, .int .i64 r.o.b.seq, r.bev, .int .i64 r.o.out.code, .int .i64 r.o.out.pos, .int .i64 r.o.out.first, .int .i64 r.o.out.version, .string r.o.stream, .int .i64 r.o.from_, .int .i64 r.o.version, r.evv] 79)
    have HIL := Lib.hid (heap_alloc_new wc (.cells #[.int .i64 r.o.kind, .int .i64 ((R.rs.length : Int) + 1), .int .i64 now, .int .i64 (-1), .string r.o.b.stream, .int .i64 r.o.b.expect, .int .i64 r.o.b.session, .int .i64 r.o.b.seq, r.bev, .int .i64 r.o.out.code, .int .i64 r.o.out.pos, .int .i64 r.o.out.first, .int .i64 r.o.out.version, .string r.o.stream, .int .i64 r.o.from_, .int .i64 r.o.version, r.evv] 79))
    have HL := Lib.hid hl
    have HOWN := Lib.hid (own_below hl hown7)
    have HBL := Lib.hid (HB7.out.trans (hl.mono HB7.out.size))
    have hbz := hb7.size
    have HWZ := Lib.hid (show w0.heap.size ≤ (wc.alloc (.cells #[.int .i64 r.o.kind, .int .i64 ((R.rs.length : Int) + 1), .int .i64 now, .int .i64 (-1), .string r.o.b.stream, .int .i64 r.o.b.expect, .int .i64 r.o.b.session, .int .i64 r.o.b.seq, r.bev, .int .i64 r.o.out.code, .int .i64 r.o.out.pos, .int .i64 r.o.out.first, .int .i64 r.o.out.version, .string r.o.stream, .int .i64 r.o.from_, .int .i64 r.o.version, r.evv] 79)).heap.size by rw [World.size_alloc]; omega)
    clear hown7 hb7 hgq hl hbz
    go_upto_region 6 with (first | (refine wpList_load_mid rfl 79 _ rfl w.heap.size 0 (by rfl) [.int .i64 r.o.kind, .int .i64 ((R.rs.length : Int) + 1), .int .i64 now, .int .i64 (-1), .string r.o.b.stream, .int .i64 r.o.b.expect, .int .i64 r.o.b.session, .int .i64 r.o.b.seq, r.bev, .int .i64 r.o.out.code, .int .i64 r.o.out.pos, .int .i64 r.o.out.first, .int .i64 r.o.out.version, .string r.o.stream, .int .i64 r.o.from_, .int .i64 r.o.version, r.evv] _ HRG.out Tryd.underlying79 rfl (by exact opsize) ?_) | (at_builtin; refine wpList_append_lies _ rfl _ _ 67 rfl w0.heap.size 79 i0 _ 17 184 Tryd.underlying67 hi0 hq0 hq1 hq2 rfl (by omega) _ _ _ (by rfl) HOWN.out ⟨wc.heap.size, 0, none⟩ 1 1 r1.cells (by rfl) (by rfl) (by rw [← HR1.out]; exact World.news_of_block HIL.out) (fun u hu => ocells_plain (l := [r1]) (fun x hx => by obtain rfl := List.mem_singleton.1 hx; rw [← HR1.out]; exact ⟨HBE.out, HEE.out⟩) (by rw [ocells_one]; exact hu)) (by omega) (by unfold maxLen; omega) (by omega) HWZ.out _ rfl ?_; intro gg cap2 w3 hown3 hgrow hat hlt3))
    rw [show ocells R.rs ++ r1.cells = ocells (R.rs ++ [r1]) by rw [ocells_append, ocells_one]] at hown3
    have hgw : w0.heap.size ≤ g7 := (own_lt HOWN.out g7 rfl).1
    have hb3 : Below w.heap.size w w3 := HBL.out.grown hgrow (by have := HWZ.out; omega) (fun k e => by obtain rfl : g7 = k := Option.some.inj e; omega)
    obtain ⟨hfm, hfs⟩ := HH.out.fresh (rs := R.rs ++ [r1]) hb3 (own_less (Nat.le_of_lt hz0) (by rw [List.length_append, List.length_singleton]; exact hown3)) (fun x hx => by
      rcases List.mem_append.1 hx with hx | hx
      · exact HH.out.bev x hx
      · obtain rfl := List.mem_singleton.1 hx; exact HBV.out) (fun x hx => by
      rcases List.mem_append.1 hx with hx | hx
      · exact HH.out.evv x hx
      · obtain rfl := List.mem_singleton.1 hx; exact HEV.out)
    rw [rows_begun HH.out] at hfm hfs
    have hblk3 : w3.heap[c]? = some (.cells R.cells 70) := (hb3.block c hc).trans HH.out.blk
    have hc3 : w3.cell? ⟨c, 2, none⟩ = some R.ov := by rw [Lib.cell_of_heap hblk3]; rfl
    have hf3 : w3.frozen? ⟨c, 2, none⟩ = false := Lib.frozen_of_heap hblk3 2
    obtain ⟨Rb, hRb⟩ : ∃ Rb, R.begun r1 (.slice (some ⟨gg, 0, none⟩) (R.rs.length + 1) cap2) = Rb := ⟨_, rfl⟩
    have hrs : (Rb.wait true).rs = R.rs ++ [r1] := by rw [← hRb]; rfl
    rw [hRb] at hfm hfs
    have hm2 : ClM X lo ((w3.setCell ⟨c, 2, none⟩ (.slice (some ⟨gg, 0, none⟩) (R.rs.length + 1) cap2)).setCell ⟨c, 3, none⟩ (.bool true)) c (Rb.wait true) := hfm.put 3 (.bool true) { Rb.s with pending := true } rfl rfl hfm.wh rfl
    have hs2 : Step c R (Rb.wait true) w ((w3.setCell ⟨c, 2, none⟩ (.slice (some ⟨gg, 0, none⟩) (R.rs.length + 1) cap2)).setCell ⟨c, 3, none⟩ (.bool true)) := hfs.trans (ClM.putStep c Rb _ 3 _ _)
    have cc3 := hfm.c3
    have ff3 := hfm.fr 3
    have HM2 := Lib.hid hm2
    have HS2 := Lib.hid hs2
    have CA := Lib.hid (ask_any X lo c (Rb.wait true) _ hm2 R.rs r1 hrs (by omega) now _ rfl)
    have HRB := Lib.hid hRb
    clear hfm hfs hm2 hs2 hrs hRb hown3 hgrow hat hlt3 hblk3 hb3 hgw
    go_wp2_with fail
    refine CA.out.mono ?_
    rintro e z ⟨rfl, hm3, hs3⟩
    have HM3 := Lib.hid hm3
    have HS3 := Lib.hid (HS2.out.trans hs3)
    clear hm3 hs3
    obtain ⟨d, hd⟩ : ∃ d, (askO (Rb.wait true) r1).dst = d := ⟨_, rfl⟩
    rw [hd]
    have HD := Lib.hid hd
    clear hd
    simp only [outV]
    go_wp2_with fail
    go_ret
    refine ⟨_, (.slice (some ⟨gg, 0, none⟩) (R.rs.length + 1) cap2), rfl, ?_⟩
    rw [HRB.out, HD.out]
    have hb := (Below.refl z.heap.size z).alloc (Nat.le_refl _) (.cells #[.int .i64 d, .int .i64 r1.o.id] 113)
    exact ⟨HM3.out.keep hb, HS3.out.trans (step_below hb rfl), .inr ⟨z.heap.size, rfl, HS3.out.kept.size, heap_alloc_new _ _⟩⟩
end Go.Proofs.YtapgjjfndbfnpaaDoor.Rf
