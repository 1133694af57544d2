/-
  The walks of client.New, busy, last, where, Pending, Cancel.
-/
import Derived.Test.YtapgjjfndbfnpaaDoorCliData
import Derived.BigQuiet
namespace Go.Proofs.YtapgjjfndbfnpaaDoor
open Go.RowKit
set_option linter.unusedSimpArgs false
set_option linter.unusedVariables false

/-- A client that is new. -/
def newR (session wait : Int) : ClR := ⟨⟨session, wait, [], false, 0, 0, Vw.zeroV⟩, [], .slice none 0 0, .slice none 0 0, .slice none 0 0, .slice none 0 0⟩
theorem newR_is (X : Nat → Prop) (lo : Nat) (w : World) (session wait : Int) (hlo : lo ≤ w.heap.size) (hX : ∀ k, X k → k < w.heap.size) :
    ClM X lo (w.alloc (.cells (newR session wait).cells 94)) w.heap.size (newR session wait) where
  hlo := hlo
  blk := heap_alloc_new _ _
  own := ⟨rfl, .inl ⟨rfl, rfl⟩⟩
  ops := rfl
  ne := by simp [newR, Value.ownBlock]
  bev := fun r hr => absurd hr (by simp [newR])
  evv := fun r hr => absurd hr (by simp [newR])
  ep := by simp [newR, Vw.zeroV, Vw.I64]
  sm := by simp [newR, Vw.zeroV, Vw.SmallV]
  wh := by simp [newR, Vw.I64]
  cv := ina_nil _ _
  sv := ina_nil _ _
  bv := ina_nil _ _
  xlt := fun k hk => by rw [World.size_alloc]; have := hX k hk; omega
  xne := fun k hk hm => by
    rcases hm with e | e
    · have := hX k hk; omega
    · exact absurd e (by simp [newR, Value.ownBlock])

def newOk (session wait : Int) : Bool := decide (1 ≤ session) && decide (session ≤ 137438953472) && decide (1 ≤ wait) && decide (wait ≤ 1073741824)
set_option maxHeartbeats 400000 in
theorem new_ok (session wait : Int) (h : newOk session wait = true) (w : World) :
    Calls Tryd.prog 9 #[.int .i64 session, .int .i64 wait] w fun e w' => e = .returned (.tuple #[.pointer (some ⟨w.heap.size, 0, none⟩), .int .i64 0]) ∧ w' = w.alloc (.cells (newR session wait).cells 94) := by
  simp only [newOk, Bool.and_eq_true, decide_eq_true_eq] at h
  obtain ⟨⟨⟨h1, h2⟩, h3⟩, h4⟩ := h
  go_enter Tryd.func9, Tryd.ntmps9
  go_wp2_with fail
  go_ret2
  exact ⟨rfl, rfl⟩
set_option maxHeartbeats 400000 in
theorem new_no (session wait : Int) (h : newOk session wait = false) (w : World) :
    Calls Tryd.prog 9 #[.int .i64 session, .int .i64 wait] w fun e w' => e = .returned (.tuple #[.pointer none, .int .i64 1]) ∧ w' = w := by
  have h : session < 1 ∨ 137438953472 < session ∨ wait < 1 ∨ 1073741824 < wait := by
    simp only [newOk, Bool.and_eq_false_iff, decide_eq_false_iff_not] at h
    omega
  by_cases h1 : session < 1
  · go_enter Tryd.func9, Tryd.ntmps9
    go_wp2_with fail
    go_ret2
    exact ⟨rfl, rfl⟩
  · by_cases h2 : 137438953472 < session
    · go_enter Tryd.func9, Tryd.ntmps9
      go_wp2_with fail
      go_ret2
      exact ⟨rfl, rfl⟩
    · by_cases h3 : wait < 1
      · go_enter Tryd.func9, Tryd.ntmps9
        go_wp2_with fail
        go_ret2
        exact ⟨rfl, rfl⟩
      · have h4 : 1073741824 < wait := by omega
        go_enter Tryd.func9, Tryd.ntmps9
        go_wp2_with fail
        go_ret2
        exact ⟨rfl, rfl⟩

section
variable {X : Nat → Prop} {lo c : Nat} {w : World} {R : ClR}
/-- Its cells. -/
theorem ClM.c0 (h : ClM X lo w c R) : w.cell? ⟨c, 0, none⟩ = some (.int .i64 R.s.session) := by rw [Lib.cell_of_heap h.blk]; rfl
theorem ClM.c1 (h : ClM X lo w c R) : w.cell? ⟨c, 1, none⟩ = some (.int .i64 R.s.wait) := by rw [Lib.cell_of_heap h.blk]; rfl
theorem ClM.c2 (h : ClM X lo w c R) : w.cell? ⟨c, 2, none⟩ = some R.ov := by rw [Lib.cell_of_heap h.blk]; rfl
theorem ClM.c3 (h : ClM X lo w c R) : w.cell? ⟨c, 3, none⟩ = some (.bool R.s.pending) := by rw [Lib.cell_of_heap h.blk]; rfl
theorem ClM.c4 (h : ClM X lo w c R) : w.cell? ⟨c, 4, none⟩ = some (.int .i64 R.s.which) := by rw [Lib.cell_of_heap h.blk]; rfl
theorem ClM.c5 (h : ClM X lo w c R) : w.cell? ⟨c, 5, none⟩ = some (.int .i64 R.s.asked) := by rw [Lib.cell_of_heap h.blk]; rfl
theorem ClM.c6 (h : ClM X lo w c R) : w.cell? ⟨c, 6, none⟩ = some (.int .i64 R.s.v.epoch) := by rw [Lib.cell_of_heap h.blk]; rfl
theorem ClM.c7 (h : ClM X lo w c R) : w.cell? ⟨c, 7, none⟩ = some R.cv := by rw [Lib.cell_of_heap h.blk]; rfl
theorem ClM.c8 (h : ClM X lo w c R) : w.cell? ⟨c, 8, none⟩ = some R.sv := by rw [Lib.cell_of_heap h.blk]; rfl
theorem ClM.c9 (h : ClM X lo w c R) : w.cell? ⟨c, 9, none⟩ = some R.bv := by rw [Lib.cell_of_heap h.blk]; rfl
theorem ClM.fr (h : ClM X lo w c R) (o : Nat) : w.frozen? ⟨c, o, none⟩ = false := Lib.frozen_of_heap h.blk o
end

set_option maxHeartbeats 400000 in
theorem pending_any (X : Nat → Prop) (lo c : Nat) (R : ClR) (w : World) (h : ClM X lo w c R) :
    Calls Tryd.prog 11 #[.pointer (some ⟨c, 0, none⟩)] w fun e w' => e = .returned (.bool R.s.pending) ∧ w = w' := by
  have h3 := h.c3
  go_enter Tryd.func11, Tryd.ntmps11
  go_wp2_with fail
  go_ret
  exact ⟨rfl, rfl⟩

def busyB (s : ClW) : Bool := s.pending || decide (137438953472 ≤ (s.ops.length : Int))
set_option maxHeartbeats 400000 in
theorem busy_any (X : Nat → Prop) (lo c : Nat) (R : ClR) (w : World) (h : ClM X lo w c R) (b : Bool) (hb : busyB R.s = b) :
    Calls Tryd.prog 30 #[.pointer (some ⟨c, 0, none⟩)] w fun e w' => e = .returned (.bool b) ∧ w = w' := by
  obtain ⟨a, cap, ho⟩ := h.form
  have h2 := h.c2
  have h3 := h.c3
  have hl := h.len
  rw [ho] at h2
  rw [busyB, ← hl] at hb
  clear hl ho
  cases hp : R.s.pending with
  | true =>
    rw [hp] at h3 hb
    rw [Bool.true_or] at hb
    subst hb
    clear hp
    go_enter Tryd.func30, Tryd.ntmps30
    go_wp2_with fail
    go_ret
    exact ⟨rfl, rfl⟩
  | false =>
    rw [hp] at h3 hb
    rw [Bool.false_or] at hb
    have HB := Lib.hid hb
    clear hp hb
    go_enter Tryd.func30, Tryd.ntmps30
    go_wp2_with fail
    go_ret
    exact ⟨ret_bool HB.out, rfl⟩

/-- The last op, where it lies. -/
theorem ClM.last {X : Nat → Prop} {lo c : Nat} {w : World} {R : ClR} (h : ClM X lo w c R) {l : List OpR} {r : OpR} (hr : R.rs = l ++ [r]) :
    ∃ g cap, R.ov = .slice (some ⟨g, 0, none⟩) (l.length + 1) cap ∧ lo ≤ g ∧ g ≠ c ∧ g < w.heap.size ∧ (∀ j, j < 17 → w.cell? ⟨g, l.length * 17 + j, none⟩ = r.cells[j]?) ∧ (∀ o, w.frozen? ⟨g, o, none⟩ = false) := by
  obtain ⟨g, cap, cur, hv, h1, h2, h3, h4, h5, h6, h7⟩ := h.row (by rw [hr]; simp)
  refine ⟨g, cap, by rw [hv, hr]; simp, h1, h2, (Array.getElem?_eq_some_iff.1 h3).1, fun j hj => ?_, fun o => Lib.frozen_of_heap h3 o⟩
  rw [row_cell h3 h7 l.length j (by rw [hr]; simp) hj rfl]
  simp [hr]

set_option maxHeartbeats 400000 in
theorem last_any (X : Nat → Prop) (lo c : Nat) (R : ClR) (w : World) (h : ClM X lo w c R) (g cap n : Nat) (ho : R.ov = .slice (some ⟨g, 0, none⟩) (n + 1) cap) (hm : n ≤ 1000000) :
    Calls Tryd.prog 55 #[.pointer (some ⟨c, 0, none⟩)] w fun e w' => e = .returned (.pointer (some ⟨g, n * 17, none⟩)) ∧ ∃ d, w' = w.drewN d := by
  have h2 := h.c2
  rw [ho] at h2
  clear ho
  have i1 : (0 : Int) ≤ (n : Int) := by omega
  have i2 : (n : Int) ≤ 1000000 := by omega
  go_enter Tryd.func55, Tryd.ntmps55
  go_wp2_with fail
  go_quiet (fail)
  go_wp2_with fail
  go_ret
  exact ⟨rfl, _, rfl⟩
theorem below_drewN' (w : World) (n : Nat) : Below w.heap.size w (w.drewN n) := ⟨rfl, rfl, rfl, Nat.le_refl _, fun _ _ => rfl⟩

/-! ### what is told -/
inductive MsgR where
  | whr (id : Int)
  | app (id : Int) (b : BW) (bev : Value)
  | red (id : Int) (stream : ByteArray) (from_ : Int)
def MsgR.val : MsgR → Value
  | .whr id => .iface 118 (.agg #[.int .i64 id])
  | .app id b bev => .iface 52 (.agg #[.int .i64 id, .string b.stream, .int .i64 b.expect, .int .i64 b.session, .int .i64 b.seq, bev])
  | .red id s f => .iface 120 (.agg #[.int .i64 id, .string s, .int .i64 f])
structure OutR where
  dst : Int
  m : MsgR
def OutR.val (o : OutR) : Value := .agg #[.int .i64 o.dst, o.m.val]

/-- What comes back, where the one result is a cell of two that has just been stored. -/
theorem ret_row2 {P : Program} {fn : Func} {p : Tmp} {ty t : TypeId} (h : fn.results = #[.cell p ty]) (tmps : Array Value) (w : World) (g : Nat) (z0 z1 v0 v1 : Value) (fr : Nat × Nat) (d : TypeDesc)
    (hp : tmps.getD p undef = .pointer (some ⟨g, 0, none⟩)) (hg : w.heap[g]? = some (.cells #[z0, z1] t fr))
    (hu : P.underlying ty = some d) (hd : (match d with | .struct _ | .array _ _ => true | _ => false) = true) (hi : (P.info? ty).map (·.size) = some 2) :
    (results fn tmps).run P ((w.setCell ⟨g, 0, none⟩ v0).setCell ⟨g, 1, none⟩ v1) = .ok (.agg #[v0, v1]) ((w.setCell ⟨g, 0, none⟩ v0).setCell ⟨g, 1, none⟩ v1) := by
  have hb := block_set2 (block_set2 hg 0 v0) 1 v1
  exact results_cell_row (P := P) h tmps _ g t _ fr d hp hb hu hd (by rw [hi]; simp)
theorem osize : (Tryd.prog.info? 50).map (·.size) = some 2 := by kernel_rfl
theorem box_at {w W : World} {o : Obj} (h : Below (w.heap.size + 1) (w.alloc o) W) : W.heap[w.heap.size]? = some o := by
  rw [h.block _ (by omega)]; exact heap_alloc_new _ _

set_option maxHeartbeats 400000 in
theorem where_any (X : Nat → Prop) (lo c : Nat) (R : ClR) (w : World) (h : ClM X lo w c R) (l : List OpR) (r : OpR) (hr : R.rs = l ++ [r]) (hm : l.length ≤ 1000000) :
    Calls Tryd.prog 39 #[.pointer (some ⟨c, 0, none⟩)] w fun e w' => e = .returned (OutR.val ⟨0, .whr r.o.id⟩) ∧ Below w.heap.size w w' := by
  obtain ⟨g, cap, hv, hgl, hgc, hgs, hcell, -⟩ := h.last hr
  have hc1 : w.cell? ⟨g, l.length * 17 + 1, none⟩ = some (.int .i64 r.o.id) := hcell 1 (by omega)
  have HA := Lib.hid (((Below.refl w.heap.size w).alloc (Nat.le_refl _) (.cells #[.int .i64 0, .nilIface] 50)))
  have HM := Lib.hid (h.keep HA.out)
  have CL := Lib.hid (fun (X' : World) (h' : ClM X lo X' c R) => last_any X lo c R X' h' g cap l.length hv hm)
  clear h hv hcell
  go_enter Tryd.func39, Tryd.ntmps39
  go_wp2_with fail
  refine (CL.out _ HM.out).mono ?_
  rintro e w1 ⟨rfl, d, rfl⟩
  have x1 : g ≠ w.heap.size := by omega
  go_wp2_with fail
  refine bodyPost_ret (ret_row2 rfl _ _ _ _ _ _ _ _ _ (by rfl) (show ((w.alloc (.cells #[.int .i64 0, .nilIface] 50)).drewN d).heap[w.heap.size]? = _ from heap_alloc_new _ _) Tryd.underlying50 rfl osize) rfl ?_
  exact ⟨rfl, ((HA.out.trans (below_drewN' _ d |>.mono (by simp))).setCell (p := ⟨w.heap.size, 0, none⟩) (Nat.le_refl _) _).setCell (p := ⟨w.heap.size, 1, none⟩) (Nat.le_refl _) _⟩
end Go.Proofs.YtapgjjfndbfnpaaDoor
