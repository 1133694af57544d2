/-
  The walk of timer.Set.
-/
import Derived.Test.YtpadbkplknnopaaTmPlain
import Derived.Test.YtpadbkplknnopaaTmSearch
import Derived.Deep.Cut
import Derived.Laws.ResultCell
namespace Go.Proofs.Ytpadbkplknnopaa
open Go.RowKit

theorem below_grown {base : Nat} {w w' : World} {v : Value} {l : List TM} (h : OwnT w base v l) (hb : base ≤ w.heap.size) (g : w.grownBy w' v.ownBlock) : Below base w w' :=
  ⟨g.os, g.tape, g.output, g.size, fun k hk => g.block k (by omega) (fun e => by have := (World.ownsRow.lt h k e.symm).1; omega)⟩
theorem ret_row1t {P : Program} {fn : Func} {p u : Tmp} {ty t : TypeId} (h : fn.results = #[.cell p ty, .tmp u]) (tmps : Array Value) (w : World) (g : Nat) (z0 v0 : Value) (fr : Nat × Nat) (d : TypeDesc)
    (hp : tmps.getD p undef = .pointer (some ⟨g, 0, none⟩)) (hg : w.heap[g]? = some (.cells #[z0] t fr))
    (hu : P.underlying ty = some d) (hd : (match d with | .struct _ | .array _ _ => true | _ => false) = true) (hi : (P.info? ty).map (·.size) = some 1) :
    (results fn tmps).run P (w.setCell ⟨g, 0, none⟩ v0) = .ok (.tuple #[.agg #[v0], tmps.getD u undef]) (w.setCell ⟨g, 0, none⟩ v0) := by
  have hb := blk_set hg 0 v0
  rw [results_cell_tmp h, hp]
  simp only [asAddr, Sem.run_pure, Result.andThen_ok]
  rw [run_loadVar_row _ g t ty _ fr d hb hu hd (by rw [hi]; simp)]
  simp

theorem run_fieldL (v : Value) (W : World) : (Instr.field 26 (.agg #[v]) 0).run Try.prog W = .ok v W := by
  simp [Instr.field, run_underlying Try.underlying26, part, isAgg, run_underlying Try.underlying24, asAgg]

set_option maxRecDepth 100000 in
set_option maxHeartbeats 1600000 in
/-- It is full, and there is no such name. -/
theorem set_full (B : Nat) (v : Value) (l : List TM) (n : ByteArray) (t : Int) (hl : l.length = 64) (hno : placeT n l < 0) (w : World) (h : IsTms B w v l) (hB : B ≤ w.heap.size) :
    Calls Try.prog 9 #[v, .string n, .int .i64 t] w fun r w' => r = .returned (.tuple #[.agg #[.slice none 0 0], .int .i64 4]) ∧ Below w.heap.size w w' := by
  have HV := Lib.hid h
  obtain ⟨lv, rfl, hl'⟩ := h
  obtain ⟨a, cap, rfl⟩ := hl'.form
  have hb0 : Below w.heap.size w (((w.alloc (.cells #[.slice a l.length cap] 26)).alloc (.cells #[.slice none 0 0] 26))) := ((Below.refl _ _).alloc (Nat.le_refl _) _).alloc (by rw [World.size_alloc]; omega) _
  have hg0 : (((w.alloc (.cells #[.slice a l.length cap] 26)).alloc (.cells #[.slice none 0 0] 26))).heap[w.heap.size]? = some (.cells #[.slice a l.length cap] 26) := by
    rw [heap_alloc_old _ _ (show w.heap.size < _ by rw [World.size_alloc]; omega)]
    exact heap_alloc_new w _
  have hg1 : (((w.alloc (.cells #[.slice a l.length cap] 26)).alloc (.cells #[.slice none 0 0] 26))).heap[w.heap.size + 1]? = some (.cells #[.slice none 0 0] 26) := heap_alloc2_new w _ _
  have hp1 : placeT n l = -1 := by rcases placeT_spec n l with ⟨h1, _⟩ | ⟨k, _, h2, _⟩ <;> omega
  have CP := Lib.hid (fun (X : World) (hX : Below w.heap.size w X) => place_any B _ l n (-1) hp1 X (HV.out.keep hX hB) (Nat.le_trans hB hX.size))
  have HB0 := Lib.hid hb0
  have HG0 := Lib.hid hg0
  have HG1 := Lib.hid hg1
  have i1 : (64 : Int) ≤ (l.length : Int) := by omega
  clear hl' hb0 hg0 hg1 hno hp1 hl
  go_enter Try.func9, Try.ntmps9
  go_wp2_with fail
  refine (CP.out _ HB0.out).mono ?_
  rintro r w1 ⟨rfl, hb1⟩
  have hbw1 := bstep HB0.out hb1
  have hg1 := (hb1.block (w.heap.size + 1) (by simp)).trans HG1.out
  have G1 := Lib.hid hg1
  have c1 : w1.cell? ⟨w.heap.size + 1, 0, none⟩ = some (.slice none 0 0) := by rw [Lib.cell_of_heap hg1]; rfl
  have f1 : w1.frozen? ⟨w.heap.size + 1, 0, none⟩ = false := Lib.frozen_of_heap hg1 0
  clear hg1 hb1
  go_wp2_with fail
  (try simp only [Exit.inBlock, Exit.then])
  refine bodyPost_ret (ret_row1t rfl _ _ _ _ _ _ _ (by rfl) G1.out Try.underlying26 rfl tsize) rfl ?_
  exact ⟨rfl, hbw1.setCell (p := ⟨w.heap.size + 1, 0, none⟩) (by simp only; omega) _⟩

set_option maxRecDepth 100000 in
set_option maxHeartbeats 1600000 in
/-- It goes. -/
theorem set_goes (B : Nat) (v : Value) (l : List TM) (n : ByteArray) (t : Int) (hl64 : l.length ≤ 100) (i : Nat) (hgo : l.length < 64 ∨ 0 ≤ placeT n l)
    (hi : i ≤ (clearT n l).length) (hlo : ∀ j (h : j < (clearT n l).length), j < i → orderT (clearT n l)[j] ⟨n, t⟩ < 0) (hhi : ∀ j (h : j < (clearT n l).length), i ≤ j → 0 ≤ orderT (clearT n l)[j] ⟨n, t⟩)
    (w : World) (h : IsTms B w v l) (hB : B ≤ w.heap.size) :
    Calls Try.prog 9 #[v, .string n, .int .i64 t] w fun r w' => ∃ v', r = .returned (.tuple #[.agg #[v'], .int .i64 0]) ∧ OwnT w' w.heap.size v' (insT i ⟨n, t⟩ (clearT n l)) ∧ Below w.heap.size w w' := by
  have HV := Lib.hid h
  have hcl : (clearT n l).length ≤ l.length := by
    unfold clearT
    split
    · rw [List.length_eraseIdx]; split <;> omega
    · omega
  obtain ⟨lv, rfl, hl'⟩ := h
  obtain ⟨a, cap, rfl⟩ := hl'.form
  have hb0 : Below w.heap.size w (((w.alloc (.cells #[.slice a l.length cap] 26)).alloc (.cells #[.slice none 0 0] 26))) := ((Below.refl _ _).alloc (Nat.le_refl _) _).alloc (by rw [World.size_alloc]; omega) _
  have hg0 : (((w.alloc (.cells #[.slice a l.length cap] 26)).alloc (.cells #[.slice none 0 0] 26))).heap[w.heap.size]? = some (.cells #[.slice a l.length cap] 26) := by
    rw [heap_alloc_old _ _ (show w.heap.size < _ by rw [World.size_alloc]; omega)]
    exact heap_alloc_new w _
  have hg1 : (((w.alloc (.cells #[.slice a l.length cap] 26)).alloc (.cells #[.slice none 0 0] 26))).heap[w.heap.size + 1]? = some (.cells #[.slice none 0 0] 26) := heap_alloc2_new w _ _
  obtain ⟨c, hc⟩ : ∃ c, clearT n l = c := ⟨_, rfl⟩
  have CP := Lib.hid (fun (X : World) (hX : Below w.heap.size w X) (p : Int) (hp : placeT n l = p) => place_any B _ l n p hp X (HV.out.keep hX hB) (Nat.le_trans hB hX.size))
  have CL := Lib.hid (fun (X : World) (hX : Below w.heap.size w X) => clear_any B _ l n (by omega) X (HV.out.keep hX hB) (Nat.le_trans hB hX.size))
  simp only [hc] at CL hi hlo hhi hcl ⊢
  have CS := Lib.hid (fun (X : World) (b : Nat) (u : Value) (hX : OwnT X b u c) (q : Bool) => search_any X.heap.size u c ⟨n, t⟩ i hi hlo hhi (by omega) X (hX.timers (by omega)) (Nat.le_refl _))
  have CI := Lib.hid (fun (X : World) (b : Nat) (u : Value) (hX : OwnT X b u c) (hbX : b ≤ X.heap.size) (vb : Nat) (hvb : X.heap[vb]? = some (.cells #[.string n, .int .i64 t] 61)) (hne : u.ownBlock ≠ some vb) => insert_any b u c i hi (by omega) ⟨n, t⟩ vb X hX hbX hvb hne)
  have HB0 := Lib.hid hb0
  have HG0 := Lib.hid hg0
  have HG1 := Lib.hid hg1
  have HC := Lib.hid hc
  clear hl' hb0 hg0 hg1 hlo hhi hc
  by_cases h64 : l.length < 64
  · have i1 : ¬ (64 : Int) ≤ (l.length : Int) := by omega
    have HBW := HB0
    have G0 := HG0
    have G1 := HG1
    go_enter Try.func9, Try.ntmps9
    have hz1 : w.heap.size + 1 < (((w.alloc (.cells #[.slice a l.length cap] 26)).alloc (.cells #[.slice none 0 0] 26))).heap.size := (Array.getElem?_eq_some_iff.1 G1.out).1
    have y0 : (((w.alloc (.cells #[.slice a l.length cap] 26)).alloc (.cells #[.slice none 0 0] 26))).cell? ⟨w.heap.size, 0, none⟩ = some (.slice a l.length cap) := by rw [Lib.cell_of_heap G0.out]; rfl
    have HQ0 : (((w.alloc (.cells #[.slice a l.length cap] 26)).alloc (.cells #[.slice none 0 0] 26))).heap.size = w.heap.size + 2 := by simp
    have HQX : (((((w.alloc (.cells #[.slice a l.length cap] 26)).alloc (.cells #[.slice none 0 0] 26))).alloc (.cells #[.string n, .int .i64 t] 61))).heap[w.heap.size + 2]? = some (.cells #[.string n, .int .i64 t] 61) := by rw [← HQ0]; exact heap_alloc_new (((w.alloc (.cells #[.slice a l.length cap] 26)).alloc (.cells #[.slice none 0 0] 26))) _
    have hbw3 : Below w.heap.size w (((((w.alloc (.cells #[.slice a l.length cap] 26)).alloc (.cells #[.slice none 0 0] 26))).alloc (.cells #[.string n, .int .i64 t] 61))) := HBW.out.alloc (by omega) _
    have hz3 : (((((w.alloc (.cells #[.slice a l.length cap] 26)).alloc (.cells #[.slice none 0 0] 26))).alloc (.cells #[.string n, .int .i64 t] 61))).heap.size = w.heap.size + 2 + 1 := by rw [World.size_alloc, HQ0]
    have HBQ3 := Lib.hid hbw3
    have HZ3 := Lib.hid hz3
    have HG1a := Lib.hid (show (((((w.alloc (.cells #[.slice a l.length cap] 26)).alloc (.cells #[.slice none 0 0] 26))).alloc (.cells #[.string n, .int .i64 t] 61))).heap[w.heap.size + 1]? = _ from (heap_alloc_old _ _ hz1).trans G1.out)
    have HGx := Lib.hid (show (((((w.alloc (.cells #[.slice a l.length cap] 26)).alloc (.cells #[.slice none 0 0] 26))).alloc (.cells #[.string n, .int .i64 t] 61))).heap[w.heap.size + 2]? = _ from HQX)
    have hfld := run_fieldL
    have hlq : w.heap.size < w.heap.size + 2 := by omega
    have hnq : w.heap.size ≠ w.heap.size + 2 := by omega
    clear hbw3 hz3 HQ0 HQX
    go_wp2_with fail
    refine (CL.out _ HBQ3.out).mono ?_
    rintro r w1 ⟨vc, rfl, ho1, hb1⟩
    obtain ⟨oa, oc, rfl⟩ := ho1.form
    have hbw1 := bstep HBQ3.out hb1
    have hgx := (hb1.block (w.heap.size + 2) (by rw [HZ3.out]; omega)).trans HGx.out
    have hg1 := (hb1.block (w.heap.size + 1) (by rw [HZ3.out]; omega)).trans HG1a.out
    have hsz1 := hb1.size
    have x0 : w1.cell? ⟨w.heap.size + 2, 0, none⟩ = some (.string n) := by rw [Lib.cell_of_heap hgx]; rfl
    have x1 : w1.cell? ⟨w.heap.size + 2, 1, none⟩ = some (.int .i64 t) := by rw [Lib.cell_of_heap hgx]; rfl
    have hzx : w.heap.size + 2 < w1.heap.size := (Array.getElem?_eq_some_iff.1 hgx).1
    have HO1 := Lib.hid ho1
    have GX := Lib.hid hgx
    have G1b := Lib.hid hg1
    have HBW1 := Lib.hid hbw1
    have HSZ1 := Lib.hid hsz1
    clear ho1 hgx hg1 hb1 y0 hbw1 hsz1 hlq hnq
    go_wp2_with fail
    refine (CS.out _ _ _ HO1.out true).mono ?_
    rintro r w2 ⟨q, rfl, hb2⟩
    have hbw2 := bstep HBW1.out hb2
    have hgx := (hb2.block (w.heap.size + 2) hzx).trans GX.out
    have hg1 := (hb2.block (w.heap.size + 1) (by omega)).trans G1b.out
    have x0 : w2.cell? ⟨w.heap.size + 2, 0, none⟩ = some (.string n) := by rw [Lib.cell_of_heap hgx]; rfl
    have x1 : w2.cell? ⟨w.heap.size + 2, 1, none⟩ = some (.int .i64 t) := by rw [Lib.cell_of_heap hgx]; rfl
    have ho2 := HO1.out.keep hb2
    have hs2 := hb2.size
    have HO2 := Lib.hid (OwnT.keep ho2 (((Below.refl w2.heap.size w2).alloc (Nat.le_refl _) (.cells #[.string n, .int .i64 t] 61))))
    have HNE := Lib.hid (show (Value.slice oa c.length oc).ownBlock ≠ some w2.heap.size from fun e => by have := (World.ownsRow.lt ho2 _ e).2; omega)
    have G1c := Lib.hid (show (w2.alloc (.cells #[.string n, .int .i64 t] 61)).heap[w.heap.size + 1]? = _ from (heap_alloc_old _ _ (by omega)).trans hg1)
    have h2s : (w2.alloc (.cells #[.string n, .int .i64 t] 61)).heap.size = w2.heap.size + 1 := by rw [World.size_alloc]
    have HBS := Lib.hid (show (((((w.alloc (.cells #[.slice a l.length cap] 26)).alloc (.cells #[.slice none 0 0] 26))).alloc (.cells #[.string n, .int .i64 t] 61))).heap.size ≤ (w2.alloc (.cells #[.string n, .int .i64 t] 61)).heap.size by have h1 := HSZ1.out; omega)
    clear h2s
    have HBW2 := Lib.hid (hbw2.alloc (show w.heap.size ≤ w2.heap.size by omega) (.cells #[.string n, .int .i64 t] 61))
    clear hgx hg1 ho2 hb2 hbw2 hs2
    go_wp2_with fail
    refine (CI.out _ _ _ HO2.out HBS.out w2.heap.size (heap_alloc_new w2 _) HNE.out).mono ?_
    rintro r w4 ⟨vi, rfl, ho4, hgr⟩
    have hb4 := below_grown HO2.out HBS.out hgr
    have hlt : w.heap.size + 1 < (((((w.alloc (.cells #[.slice a l.length cap] 26)).alloc (.cells #[.slice none 0 0] 26))).alloc (.cells #[.string n, .int .i64 t] 61))).heap.size := by rw [HZ3.out]; omega
    have hg1 := (hb4.block (w.heap.size + 1) hlt).trans G1c.out
    have hbw4 := HBW2.out.trans (hb4.mono (show w.heap.size ≤ (((((w.alloc (.cells #[.slice a l.length cap] 26)).alloc (.cells #[.slice none 0 0] 26))).alloc (.cells #[.string n, .int .i64 t] 61))).heap.size by omega))
    obtain ⟨ia, ic, hform⟩ := ho4.form
    subst hform
    have HO4 := Lib.hid ho4
    have G4 := Lib.hid hg1
    have HBW4 := Lib.hid hbw4
    have HLT := Lib.hid hlt
    clear ho4 hb4 hgr hg1 hbw4 hlt
    have c1 : w4.cell? ⟨w.heap.size + 1, 0, none⟩ = some (.slice none 0 0) := by rw [Lib.cell_of_heap G4.out]; rfl
    have f1 : w4.frozen? ⟨w.heap.size + 1, 0, none⟩ = false := Lib.frozen_of_heap G4.out 0
    go_wp2_with fail
    (try simp only [Exit.inBlock, Exit.then])
    refine bodyPost_ret (ret_row1t rfl _ _ _ _ _ _ _ (by rfl) G4.out Try.underlying26 rfl tsize) rfl ?_
    exact ⟨_, rfl, (HO4.out.set HLT.out).less (by have := HLT.out; omega), HBW4.out.setCell (p := ⟨w.heap.size + 1, 0, none⟩) (by simp only; omega) _⟩
  · have hp : 0 ≤ placeT n l := by rcases hgo with h1 | h1; exact absurd h1 h64; exact h1
    have i1 : (64 : Int) ≤ (l.length : Int) := by omega
    obtain ⟨p, hp1⟩ : ∃ p, placeT n l = p := ⟨_, rfl⟩
    have i2 : ¬ p < 0 := by omega
    have CP1 := Lib.hid (fun X hX => CP.out X hX p hp1)
    clear hp hp1 CP
    go_enter Try.func9, Try.ntmps9
    go_wp2_with fail
    refine (CP1.out _ HB0.out).mono ?_
    rintro r w0 ⟨rfl, hb1⟩
    have HBW := Lib.hid (bstep HB0.out hb1)
    have G0 := Lib.hid ((hb1.block w.heap.size (by simp; omega)).trans HG0.out)
    have G1 := Lib.hid ((hb1.block (w.heap.size + 1) (by simp)).trans HG1.out)
    clear hb1
    have hz1 : w.heap.size + 1 < w0.heap.size := (Array.getElem?_eq_some_iff.1 G1.out).1
    have y0 : w0.cell? ⟨w.heap.size, 0, none⟩ = some (.slice a l.length cap) := by rw [Lib.cell_of_heap G0.out]; rfl
    have HQ0 : w0.heap.size = w0.heap.size := by simp
    have HQX : ((w0.alloc (.cells #[.string n, .int .i64 t] 61))).heap[w0.heap.size]? = some (.cells #[.string n, .int .i64 t] 61) := by rw [← HQ0]; exact heap_alloc_new w0 _
    have hbw3 : Below w.heap.size w ((w0.alloc (.cells #[.string n, .int .i64 t] 61))) := HBW.out.alloc (by omega) _
    have hz3 : ((w0.alloc (.cells #[.string n, .int .i64 t] 61))).heap.size = w0.heap.size + 1 := by rw [World.size_alloc, HQ0]
    have HBQ3 := Lib.hid hbw3
    have HZ3 := Lib.hid hz3
    have HG1a := Lib.hid (show ((w0.alloc (.cells #[.string n, .int .i64 t] 61))).heap[w.heap.size + 1]? = _ from (heap_alloc_old _ _ hz1).trans G1.out)
    have HGx := Lib.hid (show ((w0.alloc (.cells #[.string n, .int .i64 t] 61))).heap[w0.heap.size]? = _ from HQX)
    have hfld := run_fieldL
    have hlq : w.heap.size < w0.heap.size := by omega
    have hnq : w.heap.size ≠ w0.heap.size := by omega
    clear hbw3 hz3 HQ0 HQX
    go_wp2_with fail
    refine (CL.out _ HBQ3.out).mono ?_
    rintro r w1 ⟨vc, rfl, ho1, hb1⟩
    obtain ⟨oa, oc, rfl⟩ := ho1.form
    have hbw1 := bstep HBQ3.out hb1
    have hgx := (hb1.block (w0.heap.size) (by rw [HZ3.out]; omega)).trans HGx.out
    have hg1 := (hb1.block (w.heap.size + 1) (by rw [HZ3.out]; omega)).trans HG1a.out
    have hsz1 := hb1.size
    have x0 : w1.cell? ⟨w0.heap.size, 0, none⟩ = some (.string n) := by rw [Lib.cell_of_heap hgx]; rfl
    have x1 : w1.cell? ⟨w0.heap.size, 1, none⟩ = some (.int .i64 t) := by rw [Lib.cell_of_heap hgx]; rfl
    have hzx : w0.heap.size < w1.heap.size := (Array.getElem?_eq_some_iff.1 hgx).1
    have HO1 := Lib.hid ho1
    have GX := Lib.hid hgx
    have G1b := Lib.hid hg1
    have HBW1 := Lib.hid hbw1
    have HSZ1 := Lib.hid hsz1
    clear ho1 hgx hg1 hb1 y0 hbw1 hsz1 hlq hnq
    go_wp2_with fail
    refine (CS.out _ _ _ HO1.out true).mono ?_
    rintro r w2 ⟨q, rfl, hb2⟩
    have hbw2 := bstep HBW1.out hb2
    have hgx := (hb2.block (w0.heap.size) hzx).trans GX.out
    have hg1 := (hb2.block (w.heap.size + 1) (by omega)).trans G1b.out
    have x0 : w2.cell? ⟨w0.heap.size, 0, none⟩ = some (.string n) := by rw [Lib.cell_of_heap hgx]; rfl
    have x1 : w2.cell? ⟨w0.heap.size, 1, none⟩ = some (.int .i64 t) := by rw [Lib.cell_of_heap hgx]; rfl
    have ho2 := HO1.out.keep hb2
    have hs2 := hb2.size
    have HO2 := Lib.hid (OwnT.keep ho2 (((Below.refl w2.heap.size w2).alloc (Nat.le_refl _) (.cells #[.string n, .int .i64 t] 61))))
    have HNE := Lib.hid (show (Value.slice oa c.length oc).ownBlock ≠ some w2.heap.size from fun e => by have := (World.ownsRow.lt ho2 _ e).2; omega)
    have G1c := Lib.hid (show (w2.alloc (.cells #[.string n, .int .i64 t] 61)).heap[w.heap.size + 1]? = _ from (heap_alloc_old _ _ (by omega)).trans hg1)
    have h2s : (w2.alloc (.cells #[.string n, .int .i64 t] 61)).heap.size = w2.heap.size + 1 := by rw [World.size_alloc]
    have HBS := Lib.hid (show ((w0.alloc (.cells #[.string n, .int .i64 t] 61))).heap.size ≤ (w2.alloc (.cells #[.string n, .int .i64 t] 61)).heap.size by have h1 := HSZ1.out; omega)
    clear h2s
    have HBW2 := Lib.hid (hbw2.alloc (show w.heap.size ≤ w2.heap.size by omega) (.cells #[.string n, .int .i64 t] 61))
    clear hgx hg1 ho2 hb2 hbw2 hs2
    go_wp2_with fail
    refine (CI.out _ _ _ HO2.out HBS.out w2.heap.size (heap_alloc_new w2 _) HNE.out).mono ?_
    rintro r w4 ⟨vi, rfl, ho4, hgr⟩
    have hb4 := below_grown HO2.out HBS.out hgr
    have hlt : w.heap.size + 1 < ((w0.alloc (.cells #[.string n, .int .i64 t] 61))).heap.size := by rw [HZ3.out]; omega
    have hg1 := (hb4.block (w.heap.size + 1) hlt).trans G1c.out
    have hbw4 := HBW2.out.trans (hb4.mono (show w.heap.size ≤ ((w0.alloc (.cells #[.string n, .int .i64 t] 61))).heap.size by omega))
    obtain ⟨ia, ic, hform⟩ := ho4.form
    subst hform
    have HO4 := Lib.hid ho4
    have G4 := Lib.hid hg1
    have HBW4 := Lib.hid hbw4
    have HLT := Lib.hid hlt
    clear ho4 hb4 hgr hg1 hbw4 hlt
    have c1 : w4.cell? ⟨w.heap.size + 1, 0, none⟩ = some (.slice none 0 0) := by rw [Lib.cell_of_heap G4.out]; rfl
    have f1 : w4.frozen? ⟨w.heap.size + 1, 0, none⟩ = false := Lib.frozen_of_heap G4.out 0
    go_wp2_with fail
    (try simp only [Exit.inBlock, Exit.then])
    refine bodyPost_ret (ret_row1t rfl _ _ _ _ _ _ _ (by rfl) G4.out Try.underlying26 rfl tsize) rfl ?_
    exact ⟨_, rfl, (HO4.out.set HLT.out).less (by have := HLT.out; omega), HBW4.out.setCell (p := ⟨w.heap.size + 1, 0, none⟩) (by simp only; omega) _⟩
end Go.Proofs.Ytpadbkplknnopaa
