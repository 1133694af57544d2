/-
  The walk of timer.Clear.
-/
import Derived.Test.YtpadbkplknnopaaTmWalk
import Derived.Test.YtpadbkplknnopaaTmClone
import Derived.Test.YtpadbkplknnopaaTmDelete
namespace Go.Proofs.Ytpadbkplknnopaa
open Go.RowKit

def clearT (n : ByteArray) (l : List TM) : List TM := if 0 ≤ placeT n l then l.eraseIdx (placeT n l).toNat else l
theorem tsize : (Try.prog.info? 26).map (·.size) = some 1 := by kernel_rfl
theorem blk_set {w : World} {g : Nat} {cs : Array Value} {t : TypeId} {fr : Nat × Nat} (h : w.heap[g]? = some (.cells cs t fr)) (o : Nat) (x : Value) : (w.setCell ⟨g, o, none⟩ x).heap[g]? = some (.cells (cs.setIfInBounds o x) t fr) := by
  simp [World.setCell, Array.getElem?_modify, h]
theorem OwnT.less {w : World} {b b' : Nat} {v : Value} {l : List TM} (hb : b ≤ b') (h : OwnT w b' v l) : OwnT w b v l := own_less hb h
theorem OwnT.keep {w w' : World} {b : Nat} {v : Value} {l : List TM} (h : OwnT w b v l) (k : Below w.heap.size w w') : OwnT w' b v l := own_below k h
theorem OwnT.set {w : World} {b g o : Nat} {v x : Value} {l : List TM} (h : OwnT w b v l) (hg : g < b) : OwnT (w.setCell ⟨g, o, none⟩ x) b v l := by
  refine World.ownsRow.kept h (row := some g) ⟨rfl, rfl, rfl, by rw [World.size_setCell]; exact Nat.le_refl _, fun k _ hne => ?_⟩ ?_
  · simp only [World.setCell]
    rw [Array.getElem?_modify, if_neg (fun e => hne (by rw [e]))]
  · rcases h.2 with ⟨rfl, _⟩ | ⟨b2, cap, cur, rfl, h1, _⟩
    · exact .inl rfl
    · refine .inr ?_
      simp only [Value.ownBlock, ne_eq, Option.some.injEq]
      omega
theorem OwnT.timers {w : World} {b : Nat} {v : Value} {l : List TM} (h : OwnT w b v l) (hz : l.length ≤ 1000) : IsTimers w.heap.size w v l := timers_own h (by unfold maxLen; omega)
/-- What comes back, where the one result is a cell of one that has just been stored. -/
theorem ret_row1 {P : Program} {fn : Func} {p : Tmp} {ty t : TypeId} (h : fn.results = #[.cell p ty]) (tmps : Array Value) (w : World) (g : Nat) (z0 v0 : Value) (fr : Nat × Nat) (d : TypeDesc)
    (hp : tmps.getD p undef = .pointer (some ⟨g, 0, none⟩)) (hg : w.heap[g]? = some (.cells #[z0] t fr))
    (hu : P.underlying ty = some d) (hd : (match d with | .struct _ | .array _ _ => true | _ => false) = true) (hi : (P.info? ty).map (·.size) = some 1) :
    (results fn tmps).run P (w.setCell ⟨g, 0, none⟩ v0) = .ok (.agg #[v0]) (w.setCell ⟨g, 0, none⟩ v0) := by
  have hb := blk_set hg 0 v0
  exact results_cell_row (P := P) h tmps _ g t _ fr d hp hb hu hd (by rw [hi]; simp)

set_option maxRecDepth 100000 in
set_option maxHeartbeats 1600000 in
theorem clear_any (B : Nat) (v : Value) (l : List TM) (n : ByteArray) (hl64 : l.length ≤ 1000) (w : World) (h : IsTms B w v l) (hB : B ≤ w.heap.size) :
    Calls Try.prog 16 #[v, .string n] w fun r w' => ∃ v', r = .returned (.agg #[v']) ∧ OwnT w' w.heap.size v' (clearT n l) ∧ Below w.heap.size w w' := by
  have HV := Lib.hid h
  obtain ⟨lv, rfl, hl⟩ := h
  obtain ⟨a, cap, rfl⟩ := hl.form
  have hb0 : Below w.heap.size w ((w.alloc (.cells #[.slice a l.length cap] 26)).alloc (.cells #[.slice none 0 0] 26)) := ((Below.refl _ _).alloc (Nat.le_refl _) _).alloc (by rw [World.size_alloc]; omega) _
  have hg0 : ((w.alloc (.cells #[.slice a l.length cap] 26)).alloc (.cells #[.slice none 0 0] 26)).heap[w.heap.size]? = some (.cells #[.slice a l.length cap] 26) := by
    rw [heap_alloc_old _ _ (show w.heap.size < _ by rw [World.size_alloc]; omega)]
    exact heap_alloc_new w _
  have hg1 : ((w.alloc (.cells #[.slice a l.length cap] 26)).alloc (.cells #[.slice none 0 0] 26)).heap[w.heap.size + 1]? = some (.cells #[.slice none 0 0] 26) := heap_alloc2_new w _ _
  have hsz0 : ((w.alloc (.cells #[.slice a l.length cap] 26)).alloc (.cells #[.slice none 0 0] 26)).heap.size = w.heap.size + 2 := by simp
  have hzz : w.heap.size ≤ ((w.alloc (.cells #[.slice a l.length cap] 26)).alloc (.cells #[.slice none 0 0] 26)).heap.size := by rw [hsz0]; omega
  have CC := Lib.hid (clone_any B _ l ((w.alloc (.cells #[.slice a l.length cap] 26)).alloc (.cells #[.slice none 0 0] 26)) (hl.keep hb0 hB) hl64)
  have CP := Lib.hid (fun (X : World) (hX : Below w.heap.size w X) (p : Int) (hp : placeT n l = p) => place_any B _ l n p hp X (HV.out.keep hX hB) (Nat.le_trans hB hX.size))
  have HB0 := Lib.hid hb0
  have HG0 := Lib.hid hg0
  have HG1 := Lib.hid hg1
  clear hl hb0 hg0 hg1
  rcases placeT_spec n l with ⟨h1, _⟩ | ⟨k, h1, h2, _, _⟩
  · have hc : clearT n l = l := by rw [clearT, h1, if_neg (by omega)]
    rw [hc]
    have CP1 := Lib.hid (fun X hX => CP.out X hX (-1) h1)
    clear CP hc h1
    go_enter Try.func16, Try.ntmps16
    go_wp2_with fail
    refine CC.out.mono ?_
    rintro r w1 ⟨vc, rfl, ho1, hb1⟩
    obtain ⟨oa, oc, rfl⟩ := ho1.form
    have hbw1 := HB0.out.trans (hb1.mono hzz)
    have HO1 := Lib.hid ho1
    have hg0 := (hb1.block w.heap.size (by omega)).trans HG0.out
    have hg1 := (hb1.block (w.heap.size + 1) (by omega)).trans HG1.out
    have hz1 : w.heap.size + 1 < w1.heap.size := (Array.getElem?_eq_some_iff.1 hg1).1
    have y0 : w1.cell? ⟨w.heap.size, 0, none⟩ = some (.slice a l.length cap) := by rw [Lib.cell_of_heap hg0]; rfl
    have G0 := Lib.hid hg0
    have G1 := Lib.hid hg1
    clear ho1 hg0 hg1 hb1
    go_wp2_with fail
    refine (CP1.out _ hbw1).mono ?_
    rintro r w2 ⟨rfl, hb2⟩
    have hbw2 := bstep hbw1 hb2
    have hg1 := (hb2.block (w.heap.size + 1) hz1).trans G1.out
    have hz2 : w.heap.size + 1 < w2.heap.size := (Array.getElem?_eq_some_iff.1 hg1).1
    have ho2 := HO1.out.keep hb2
    have G2 := Lib.hid hg1
    have HO2 := Lib.hid ho2
    clear y0
    have c1 : w2.cell? ⟨w.heap.size + 1, 0, none⟩ = some (.slice none 0 0) := by rw [Lib.cell_of_heap G2.out]; rfl
    have f1 : w2.frozen? ⟨w.heap.size + 1, 0, none⟩ = false := Lib.frozen_of_heap G2.out 0
    go_wp2_with fail
    (try simp only [Exit.inBlock, Exit.then])
    refine bodyPost_ret (ret_row1 rfl _ _ _ _ _ _ _ (by rfl) G2.out Try.underlying26 rfl tsize) rfl ?_
    exact ⟨_, rfl, (HO2.out.set (by rw [hsz0]; omega)).less (by rw [hsz0]; omega), hbw2.setCell (p := ⟨w.heap.size + 1, 0, none⟩) (by simp only; omega) _⟩
  · have hc : clearT n l = l.eraseIdx k := by rw [clearT, h2, if_pos (by omega), Int.toNat_natCast]
    rw [hc]
    have CP1 := Lib.hid (fun X hX => CP.out X hX (k : Int) h2)
    have i1 : (0 : Int) ≤ (k : Int) := by omega
    have ew : IntKind.i64.wrap ((k : Int) + 1) = (k : Int) + 1 := by rw [IntKind.wrap_i64]; omega
    clear CP hc h2
    go_enter Try.func16, Try.ntmps16
    go_wp2_with fail
    refine CC.out.mono ?_
    rintro r w1 ⟨vc, rfl, ho1, hb1⟩
    obtain ⟨oa, oc, rfl⟩ := ho1.form
    have hbw1 := HB0.out.trans (hb1.mono hzz)
    have HO1 := Lib.hid ho1
    have hg0 := (hb1.block w.heap.size (by omega)).trans HG0.out
    have hg1 := (hb1.block (w.heap.size + 1) (by omega)).trans HG1.out
    have hz1 : w.heap.size + 1 < w1.heap.size := (Array.getElem?_eq_some_iff.1 hg1).1
    have y0 : w1.cell? ⟨w.heap.size, 0, none⟩ = some (.slice a l.length cap) := by rw [Lib.cell_of_heap hg0]; rfl
    have G0 := Lib.hid hg0
    have G1 := Lib.hid hg1
    clear ho1 hg0 hg1 hb1
    go_wp2_with fail
    refine (CP1.out _ hbw1).mono ?_
    rintro r w2 ⟨rfl, hb2⟩
    have hbw2 := bstep hbw1 hb2
    have hg1 := (hb2.block (w.heap.size + 1) hz1).trans G1.out
    have hz2 : w.heap.size + 1 < w2.heap.size := (Array.getElem?_eq_some_iff.1 hg1).1
    have ho2 := HO1.out.keep hb2
    have G2 := Lib.hid hg1
    have HO2 := Lib.hid ho2
    clear y0
    have CD := Lib.hid (delete_any _ _ l k h1 hl64 w2 HO2.out)
    go_wp2_with fail
    refine CD.out.mono ?_
    rintro r w3 ⟨vd, rfl, ho3, hb3⟩
    have hbw3 := hbw2.trans (hb3.mono hzz)
    have hg3 := (hb3.block (w.heap.size + 1) (by rw [hsz0]; omega)).trans G2.out
    have G3 := Lib.hid hg3
    have HO3 := Lib.hid ho3
    obtain ⟨va, vcap, rfl⟩ := ho3.form
    clear ho3 hg3
    have c1 : w3.cell? ⟨w.heap.size + 1, 0, none⟩ = some (.slice none 0 0) := by rw [Lib.cell_of_heap G3.out]; rfl
    have f1 : w3.frozen? ⟨w.heap.size + 1, 0, none⟩ = false := Lib.frozen_of_heap G3.out 0
    go_wp2_with fail
    (try simp only [Exit.inBlock, Exit.then])
    refine bodyPost_ret (ret_row1 rfl _ _ _ _ _ _ _ (by rfl) G3.out Try.underlying26 rfl tsize) rfl ?_
    exact ⟨_, rfl, (HO3.out.set (by rw [hsz0]; omega)).less (by rw [hsz0]; omega), hbw3.setCell (p := ⟨w.heap.size + 1, 0, none⟩) (by simp only; omega) _⟩
end Go.Proofs.Ytpadbkplknnopaa
