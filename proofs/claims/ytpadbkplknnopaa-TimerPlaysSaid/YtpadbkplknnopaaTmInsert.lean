/-
  The walk of slices.Insert at timers, of a row of the call's own.
-/
import Derived.Test.YtpadbkplknnopaaTmDelete
import Derived.Shelf.Spec.SlicesInsert
import Derived.Lib.AppendZerosOnto
import Derived.Deep.RegionLaw
namespace Go.Proofs.Ytpadbkplknnopaa
open Go.RowKit

theorem run_copy_rowT {P : Program} (w : World) (dT sT ty elem : TypeId) (g o dLen dCap : Nat) (a : Addr) (sLen sCap : Nat) (cur : Array Value) (t : TypeId) (cs : List Value) (k : Nat) (hk : Nat.min sLen dLen = k)
    (hu : P.underlying dT = some (.slice elem)) (hs : (P.info? elem).map (·.size) = some 2)
    (hg : w.heap[g]? = some (.cells cur t (0, 0))) (hn : cs.length = k * 2)
    (hsrc : ∀ j v, cs[j]? = some v → w.cell? (a.add j) = some v) (hfit : o + cs.length ≤ cur.size) (h1 : ∀ v ∈ cs, v.oneCell' = true) :
    (Builtin.copy_ #[dT, sT] ty #[.slice (some ⟨g, o, none⟩) dLen dCap, .slice (some a) sLen sCap]).run P w =
      .ok (goInt k) (w.setRow g (cur.toList.take o ++ cs ++ cur.toList.drop (o + cs.length)).toArray) := by
  have hl := run_loadCells_list (P := P) w a cs hsrc
  have hst := run_storeCells_at P g o t cs 0 cur w hg (by simpa using hfit) h1
  cases hq : P.info? elem with
  | none => simp [hq] at hs
  | some i =>
    have hi : i.size = 2 := by simpa [hq] using hs
    simp [Builtin.copy_, run_underlying hu, Builtin.lenOf, Builtin.firstCells, sizeOf, typeInfo, hq, hi, hk, ← hn, hl, hst]

def insT (i : Nat) (x : TM) (l : List TM) : List TM := l.take i ++ x :: l.drop i
theorem insT_len {i : Nat} {x : TM} {l : List TM} (h : i ≤ l.length) : (insT i x l).length = l.length + 1 := by
  simp only [insT, List.length_append, List.length_take, List.length_cons, List.length_drop]
  omega
theorem ins_cells {i : Nat} {x : TM} {l : List TM} : tcells (insT i x l) = (tcells l).take (i * 2) ++ [.string x.name, .int .i64 x.at_] ++ (tcells l).drop (i * 2) := by
  rw [insT, tcells_append, tcells_take, show tcells (x :: l.drop i) = [.string x.name, .int .i64 x.at_] ++ tcells (l.drop i) from rfl, tcells_drop, List.append_assoc]

set_option maxRecDepth 100000 in
set_option maxHeartbeats 1600000 in
/-- At the end. -/
theorem insert_end (base : Nat) (v : Value) (l : List TM) (hl64 : l.length ≤ 1000) (x : TM) (vb : Nat) (w : World) (h : OwnT w base v l) (hbw : base ≤ w.heap.size) (hx : w.heap[vb]? = some (.cells #[.string x.name, .int .i64 x.at_] 61)) :
    Calls Try.prog 27 #[v, .int .i64 l.length, .slice (some ⟨vb, 0, none⟩) 1 1] w fun r w' => ∃ v', r = .returned v' ∧ OwnT w' base v' (l ++ [x]) ∧ w.grownBy w' v.ownBlock := by
  obtain ⟨i0, hi0, hz0, hz1, hz2⟩ := info_parts Try.tminfo
  have HOWN := Lib.hid h
  obtain ⟨a, cap, rfl⟩ := h.form
  have hcap : l.length ≤ cap := by
    rcases h.2 with ⟨he, h0⟩ | ⟨g, c, cur, he, _, _, hn, _⟩
    · omega
    · injection he with e1 e2 e3
      omega
  have i1 : (0 : Int) ≤ (l.length : Int) := by omega
  have i2 : (l.length : Int) ≤ (cap : Int) := by omega
  have HX := Lib.hid hx
  clear h hx
  by_cases hce : cap = l.length
  · subst hce
    go_enter Try.func27, Try.ntmps27
    go_wp2_with (at_builtin; refine wpList_append_lies _ rfl _ _ 24 rfl base 61 i0 _ 2 24 Try.underlying24 hi0 hz0 hz1 hz2 rfl (by omega) _ _ _ rfl HOWN.out ⟨vb, 0, none⟩ 1 1 [.string x.name, .int .i64 x.at_] rfl rfl (World.news_of_block HX.out) (by simp [Value.oneCell']) (by omega) (by unfold maxLen; omega) (by omega) hbw _ rfl ?_; intro gg cap2 w8 hown8 hgrow hat hlt8)
    go_ret
    refine ⟨_, rfl, ?_, hgrow⟩
    unfold OwnT
    rw [tcells_append, List.length_append]
    exact hown8
  · go_enter Try.func27, Try.ntmps27
    go_wp2_with (at_builtin; refine wpList_append_lies _ rfl _ _ 24 rfl base 61 i0 _ 2 24 Try.underlying24 hi0 hz0 hz1 hz2 rfl (by omega) _ _ _ rfl HOWN.out ⟨vb, 0, none⟩ 1 1 [.string x.name, .int .i64 x.at_] rfl rfl (World.news_of_block HX.out) (by simp [Value.oneCell']) (by omega) (by unfold maxLen; omega) (by omega) hbw _ rfl ?_; intro gg cap2 w8 hown8 hgrow hat hlt8)
    go_ret
    refine ⟨_, rfl, ?_, hgrow⟩
    unfold OwnT
    rw [tcells_append, List.length_append]
    exact hown8

set_option maxRecDepth 100000 in
set_option maxHeartbeats 1600000 in
/-- There is room: in its place. -/
theorem insert_shift (base : Nat) (l : List TM) (i g cap : Nat) (cur : Array Value) (hi : i < l.length) (hl64 : l.length ≤ 1000) (x : TM) (vb : Nat) (w : World) (hbg : base ≤ g) (hg : w.heap[g]? = some (.cells cur 61)) (hroom : l.length + 1 ≤ cap) (hcm : cap ≤ maxLen)
    (hsz : cur.size = cap * 2) (htk : cur.toList.take (l.length * 2) = tcells l) (hx : w.heap[vb]? = some (.cells #[.string x.name, .int .i64 x.at_] 61)) (hne : vb ≠ g) :
    Calls Try.prog 27 #[.slice (some ⟨g, 0, none⟩) l.length cap, .int .i64 i, .slice (some ⟨vb, 0, none⟩) 1 1] w fun r w' => ∃ v', r = .returned v' ∧ OwnT w' base v' (insT i x l) ∧ w.grownBy w' (some g) := by
  have hinfo : (Try.prog.info? 61).map (·.size) = some 2 := by kernel_rfl
  have hcl : cur.toList.length = cap * 2 := by rw [Array.length_toList, hsz]
  have hdl : ((tcells l).drop (i * 2)).length = (l.length - i) * 2 := by rw [List.length_drop, tcells_len]; omega
  have hov : ∀ lb cb, (callFunc 35 #[.slice (some ⟨vb, 0, none⟩) 1 1, .slice (some ⟨g, (i + 1) * 2, none⟩) lb cb]).run Try.prog w = .ok (.value (.bool false)) w := fun lb cb => by
    rw [run_callFunc_extern Try.func35 (by kernel_rfl) (by kernel_rfl) (by kernel_rfl) (e := Extern.SlicesOverlaps.overlaps #[24, 24] #[4]) (by kernel_rfl),
      Lib.run_overlaps_apart w 24 4 61 Try.underlying24 2 Try.sizeOf61 ⟨vb, 0, none⟩ ⟨g, (i + 1) * 2, none⟩ 1 1 lb cb hne 61 61 2 (cap * 2) (by simp [World.shape?, hx]) (by simp [World.shape?, hg, hsz]) (by omega) (Lib.frozen_of_heap hx 0) (Lib.frozen_of_heap hx 2)]
    rfl
  obtain ⟨w1, hw1⟩ : ∃ w1, w.drew.setRow g (cur.toList.take ((i + 1) * 2) ++ (tcells l).drop (i * 2) ++ cur.toList.drop ((i + 1) * 2 + ((tcells l).drop (i * 2)).length)).toArray = w1 := ⟨_, rfl⟩
  have hcp1 : ∀ ty dc sc, (Builtin.copy_ #[24, 24] ty #[.slice (some ⟨g, (i + 1) * 2, none⟩) (l.length - i) dc, .slice (some ⟨g, i * 2, none⟩) (l.length + 1 - i) sc]).run Try.prog w.drew = .ok (goInt (l.length - i : Nat)) w1 := fun ty dc sc => by
    rw [← hw1]
    exact run_copy_rowT w.drew _ _ ty 61 g ((i + 1) * 2) (l.length - i) dc ⟨g, i * 2, none⟩ (l.length + 1 - i) sc cur 61 ((tcells l).drop (i * 2)) (l.length - i) (by simp only [Nat.min_def]; split <;> omega) Try.underlying24 hinfo hg hdl
      (fun j u hu => by
        rw [add_spot2, Lib.cell_of_heap (show w.drew.heap[g]? = some (.cells cur 61) from hg), ← Array.getElem?_toList]
        rw [← htk, List.getElem?_drop] at hu
        have hj : i * 2 + j < l.length * 2 := by
          have := (List.getElem?_eq_some_iff.1 hu).1
          rw [List.length_take] at this
          omega
        rwa [List.getElem?_take_of_lt hj] at hu) (by rw [hdl, hsz]; omega) (fun u hu => tcells_plain (List.mem_of_mem_drop hu))
  obtain ⟨cur1, hc1⟩ : ∃ c, (cur.toList.take ((i + 1) * 2) ++ (tcells l).drop (i * 2) ++ cur.toList.drop ((i + 1) * 2 + ((tcells l).drop (i * 2)).length)).toArray = c := ⟨_, rfl⟩
  rw [hc1] at hw1
  have hci : (cur.toList.take ((i + 1) * 2)).length = (i + 1) * 2 := by rw [List.length_take, hcl]; omega
  have hz1 : cur1.size = cap * 2 := by
    rw [← hc1, List.size_toArray, List.length_append, List.length_append, hci, hdl, List.length_drop, hcl]
    omega
  have hg1 : w1.heap[g]? = some (.cells cur1 61) := by rw [← hw1]; exact setRow_heap w.drew g cur cur1 _ _ hg
  have hx1 : w1.heap[vb]? = some (.cells #[.string x.name, .int .i64 x.at_] 61) := by rw [← hw1, setRow_other _ _ _ _ hne]; exact hx
  obtain ⟨w2, hw2⟩ : ∃ w2, w1.setRow g (cur1.toList.take (i * 2) ++ [Value.string x.name, Value.int .i64 x.at_] ++ cur1.toList.drop (i * 2 + 2)).toArray = w2 := ⟨_, rfl⟩
  have hcp2 : ∀ ty dc, (Builtin.copy_ #[24, 24] ty #[.slice (some ⟨g, i * 2, none⟩) (l.length + 1 - i) dc, .slice (some ⟨vb, 0, none⟩) 1 1]).run Try.prog w1 = .ok (goInt (1 : Nat)) w2 := fun ty dc => by
    rw [← hw2]
    exact run_copy_rowT w1 _ _ ty 61 g (i * 2) (l.length + 1 - i) dc ⟨vb, 0, none⟩ 1 1 cur1 61 [.string x.name, .int .i64 x.at_] 1 (by simp only [Nat.min_def]; split <;> omega) Try.underlying24 hinfo hg1 rfl
      (World.news_of_block hx1) (by rw [hz1]; simp only [List.length_cons, List.length_nil]; omega) (by simp [Value.oneCell'])
  have hown : OwnT w2 base (.slice (some ⟨g, 0, none⟩) (l.length + 1) cap) (insT i x l) := by
    have h5 := OwnT.mk' (w := w2) (l := insT i x l) hbg (by rw [← hw2]; exact setRow_heap w1 g cur1 _ _ _ hg1) (by rw [insT_len (by omega)]; exact hroom) hcm (by
      rw [List.size_toArray, List.length_append, List.length_append, List.length_take, List.length_drop, Array.length_toList, hz1]
      simp only [List.length_cons, List.length_nil]
      omega) (by
      rw [insT_len (by omega), ins_cells]
      have e1 : cur1.toList = cur.toList.take ((i + 1) * 2) ++ (tcells l).drop (i * 2) ++ cur.toList.drop ((i + 1) * 2 + ((tcells l).drop (i * 2)).length) := by rw [← hc1]
      have e2 : cur1.toList.take (i * 2) = (tcells l).take (i * 2) := by
        rw [e1, List.append_assoc, List.take_append_of_le_length (by rw [hci]; omega), List.take_take, Nat.min_eq_left (by omega), ← htk, List.take_take, Nat.min_eq_left (by omega)]
      have e3 : cur1.toList.drop (i * 2 + 2) = (tcells l).drop (i * 2) ++ cur.toList.drop ((i + 1) * 2 + ((tcells l).drop (i * 2)).length) := by
        rw [e1, List.append_assoc, show i * 2 + 2 = (cur.toList.take ((i + 1) * 2)).length by rw [hci]; omega, List.drop_left]
      have e4 : ((tcells l).take (i * 2)).length = i * 2 := by rw [List.length_take, tcells_len]; omega
      simp only [e2, e3]
      rw [← List.append_assoc]
      apply List.take_left'
      rw [List.length_append, List.length_append, e4, hdl]
      simp only [List.length_cons, List.length_nil]
      omega)
    rw [insT_len (by omega)] at h5
    exact h5
  have hgr : w.grownBy w2 (some g) := by
    rw [← hw2, ← hw1]
    refine ⟨rfl, rfl, rfl, by simp [World.setRow], fun k hk hne2 => ?_⟩
    have hk2 : k ≠ g := fun e => hne2 (by rw [e])
    rw [setRow_other _ _ _ _ hk2, setRow_other _ _ _ _ hk2]
    rfl
  have HOWN := Lib.hid hown
  have HGR := Lib.hid hgr
  have i1 : (0 : Int) ≤ (i : Int) := by omega
  have i2 : (i : Int) ≤ (l.length : Int) := by omega
  have i3 : (l.length : Int) ≤ (cap : Int) := by omega
  have i4 : (i : Int) ≤ (cap : Int) := by omega
  have i5 : ¬ (i : Int) = (l.length : Int) := by omega
  have i6 : ¬ cap = i := by omega
  have i7 : ¬ cap = i + 1 := by omega
  have i8 : ¬ (l.length : Int) + 1 > (cap : Int) := by omega
  have i9 : IntKind.i64.wrap ((l.length : Int) + 1) = (l.length : Int) + 1 := by rw [IntKind.wrap_i64]; omega
  have i10 : IntKind.i64.wrap ((i : Int) + 1) = (i : Int) + 1 := by rw [IntKind.wrap_i64]; omega
  have i11 : (0 : Int) ≤ (i : Int) + 1 := by omega
  have i12 : (0 : Int) ≤ (l.length : Int) + 1 := by omega
  have i13 : (l.length : Int) + 1 ≤ (cap : Int) := by omega
  have i14 : (i : Int) + 1 ≤ (l.length : Int) + 1 := by omega
  have i15 : (i : Int) ≤ (l.length : Int) + 1 := by omega
  clear hown hgr hg1 hx1 hz1 hci hdl hcl hinfo htk hsz hg hx hw1 hw2 hc1
  go_enter Try.func27, Try.ntmps27
  go_wp2_with (simp only [hov])
  go_region_law (refine step_copy_runI rfl _ _ 24 24 rfl _ _ (by simp [Act.eval, Act.put]) (by simp [Act.eval, Act.put]) (hcp1 _ _ _) ?_)
  go_wp2_with (at_builtin; refine wpList_copy_runI _ rfl _ _ 24 24 rfl _ _ rfl rfl (hcp2 _ _) ?_)
  go_ret
  exact ⟨_, rfl, HOWN.out, HGR.out⟩

set_option maxRecDepth 100000 in
set_option maxHeartbeats 1600000 in
/-- There is none: a new row. -/
theorem insert_grow (base : Nat) (l : List TM) (i g cap : Nat) (cur : Array Value) (hi : i < l.length) (hl64 : l.length ≤ 1000) (x : TM) (vb : Nat) (w : World) (hbw : base ≤ w.heap.size) (hg : w.heap[g]? = some (.cells cur 61)) (hcap : cap = l.length)
    (hsz : cur.size = cap * 2) (htk : cur.toList.take (l.length * 2) = tcells l) (hx : w.heap[vb]? = some (.cells #[.string x.name, .int .i64 x.at_] 61)) :
    Calls Try.prog 27 #[.slice (some ⟨g, 0, none⟩) l.length cap, .int .i64 i, .slice (some ⟨vb, 0, none⟩) 1 1] w fun r w' => ∃ v', r = .returned v' ∧ OwnT w' base v' (insT i x l) ∧ w.grownBy w' none := by
  subst hcap
  have hinfo : (Try.prog.info? 61).map (·.size) = some 2 := by kernel_rfl
  obtain ⟨i0, hi0, hz0, hzs, hzb⟩ := info_parts Try.tminfo
  have hcur : cur.toList = tcells l := by
    rw [← htk, List.take_of_length_le]
    rw [Array.length_toList, hsz]
    exact Nat.le_refl _
  have hgl : g < w.heap.size := (Array.getElem?_eq_some_iff.1 hg).1
  have hvl : vb < w.heap.size := (Array.getElem?_eq_some_iff.1 hx).1
  have hdl : ((tcells l).drop (i * 2)).length = (l.length - i) * 2 := by rw [List.length_drop, tcells_len]; omega
  have htl : ((tcells l).take (i * 2)).length = i * 2 := by rw [List.length_take, tcells_len]; omega
  have hcell : ∀ (W : World), W.heap[g]? = some (.cells cur 61) → ∀ j u, (tcells l)[j]? = some u → W.cell? ⟨g, j, none⟩ = some u := fun W hW j u hu => by
    rw [Lib.cell_of_heap hW, ← Array.getElem?_toList, hcur]
    exact hu
  have hold : (Builtin.firstCells i0.size i (.slice (some ⟨g, 0, none⟩) i l.length)).run Try.prog w.drew = .ok ((tcells l).take (i * 2)).toArray w.drew := by
    rw [hzs]
    exact run_firstCells_some w.drew 2 i ⟨g, 0, none⟩ i l.length ((tcells l).take (i * 2)) htl (fun j u hu => by
      rw [add_spot2, Nat.zero_add]
      rw [List.getElem?_take] at hu
      split at hu
      · exact hcell w.drew hg j u hu
      · cases hu)
  have hkk : (l.length : Int) + 1 - (i : Int) = ((l.length + 1 - i : Nat) : Int) := by omega
  have hik : i + (l.length + 1 - i) = l.length + 1 := by omega
  obtain ⟨G, hG⟩ : ∃ G, grownCap w (l.length + 1) l.length 61 = G := ⟨_, rfl⟩
  obtain ⟨ROW, hROW⟩ : ∃ ROW : Array Value, ((tcells l).take (i * 2)).toArray ++ Builtin.zeroCells (Value.agg #[.string ByteArray.empty, .int .i64 0]).cells (l.length + 1 - i) ++ Builtin.zeroCells (Value.agg #[.string ByteArray.empty, .int .i64 0]).cells (G - (l.length + 1)) = ROW := ⟨_, rfl⟩
  obtain ⟨w1, hw1⟩ : ∃ w1, w.drew.alloc (.cells ROW 61) = w1 := ⟨_, rfl⟩
  have hrz : ∀ ty, (Builtin.append_ #[24, 3] ty #[.slice (some ⟨g, 0, none⟩) i l.length, .int .i64 ((l.length : Int) + 1 - (i : Int))]).run Try.prog w = .ok (.slice (some ⟨w.heap.size, 0, none⟩) (l.length + 1) G) w1 := fun ty => by
    have h := Lib.run_append_grow_zeros w 24 3 ty 61 i0 _ .i64 .i64 Try.underlying24 Try.underlying3 hi0 hz0 (some ⟨g, 0, none⟩) i l.length ((tcells l).take (i * 2)) hold (l.length + 1 - i) (by omega) (by omega) (by omega) (by omega) (by rw [hzb]; omega) (by rw [hzb, hik]; exact growslice_fits (by omega) (by omega))
    rw [hik, hG, hROW, hw1] at h
    rw [hkk]
    exact h
  have hGn : l.length + 1 ≤ G := by rw [← hG]; exact grownCap_ge w _ _ _
  have hGm : G ≤ maxLen := by rw [← hG]; exact grownCap_le_maxLen w _ _ _ (by unfold maxLen; omega)
  have hRl : ROW.size = G * 2 := by
    rw [← hROW]
    simp only [Array.size_append, List.size_toArray, size_zeroCells, htl, show (Value.agg #[.string ByteArray.empty, .int .i64 0]).cells.size = 2 from by simp [Value.cells]]
    omega
  have hRt : ROW.toList.take (i * 2) = (tcells l).take (i * 2) := by
    rw [← hROW]
    simp only [Array.toList_append, List.append_assoc]
    exact List.take_left' htl
  have hg1 : w1.heap[w.heap.size]? = some (.cells ROW 61) := by rw [← hw1]; exact heap_alloc_new w.drew _
  have hx1 : w1.heap[vb]? = some (.cells #[.string x.name, .int .i64 x.at_] 61) := by rw [← hw1, heap_alloc_old _ _ (show vb < w.drew.heap.size from hvl)]; exact hx
  have ho1 : w1.heap[g]? = some (.cells cur 61) := by rw [← hw1, heap_alloc_old _ _ (show g < w.drew.heap.size from hgl)]; exact hg
  obtain ⟨w2, hw2⟩ : ∃ w2, w1.setRow w.heap.size (ROW.toList.take (i * 2) ++ [Value.string x.name, Value.int .i64 x.at_] ++ ROW.toList.drop (i * 2 + 2)).toArray = w2 := ⟨_, rfl⟩
  have hcp1 : ∀ ty dc, (Builtin.copy_ #[24, 24] ty #[.slice (some ⟨w.heap.size, i * 2, none⟩) (l.length + 1 - i) dc, .slice (some ⟨vb, 0, none⟩) 1 1]).run Try.prog w1 = .ok (goInt (1 : Nat)) w2 := fun ty dc => by
    rw [← hw2]
    exact run_copy_rowT w1 _ _ ty 61 w.heap.size (i * 2) (l.length + 1 - i) dc ⟨vb, 0, none⟩ 1 1 ROW 61 [.string x.name, .int .i64 x.at_] 1 (by simp only [Nat.min_def]; split <;> omega) Try.underlying24 hinfo hg1 rfl
      (World.news_of_block hx1) (by rw [hRl]; simp only [List.length_cons, List.length_nil]; omega) (by simp [Value.oneCell'])
  obtain ⟨cur1, hc1⟩ : ∃ c, (ROW.toList.take (i * 2) ++ [Value.string x.name, Value.int .i64 x.at_] ++ ROW.toList.drop (i * 2 + 2)).toArray = c := ⟨_, rfl⟩
  rw [hc1] at hw2
  have hz1 : cur1.size = G * 2 := by
    rw [← hc1, List.size_toArray, List.length_append, List.length_append, List.length_take, List.length_drop, Array.length_toList, hRl]
    simp only [List.length_cons, List.length_nil]
    omega
  have hg2 : w2.heap[w.heap.size]? = some (.cells cur1 61) := by rw [← hw2]; exact setRow_heap w1 _ ROW cur1 _ _ hg1
  have ho2 : w2.heap[g]? = some (.cells cur 61) := by rw [← hw2, setRow_other _ _ _ _ (by omega)]; exact ho1
  obtain ⟨w3, hw3⟩ : ∃ w3, w2.drew.setRow w.heap.size (cur1.toList.take ((i + 1) * 2) ++ (tcells l).drop (i * 2) ++ cur1.toList.drop ((i + 1) * 2 + ((tcells l).drop (i * 2)).length)).toArray = w3 := ⟨_, rfl⟩
  have hcp2 : ∀ ty dc sc, (Builtin.copy_ #[24, 24] ty #[.slice (some ⟨w.heap.size, (i + 1) * 2, none⟩) (l.length - i) dc, .slice (some ⟨g, i * 2, none⟩) (l.length - i) sc]).run Try.prog w2.drew = .ok (goInt (l.length - i : Nat)) w3 := fun ty dc sc => by
    rw [← hw3]
    exact run_copy_rowT w2.drew _ _ ty 61 w.heap.size ((i + 1) * 2) (l.length - i) dc ⟨g, i * 2, none⟩ (l.length - i) sc cur1 61 ((tcells l).drop (i * 2)) (l.length - i) (by simp only [Nat.min_def]; split <;> omega) Try.underlying24 hinfo hg2 hdl
      (fun j u hu => by
        rw [add_spot2]
        rw [List.getElem?_drop] at hu
        exact hcell w2.drew ho2 _ u hu) (by rw [hdl, hz1]; omega) (fun u hu => tcells_plain (List.mem_of_mem_drop hu))
  have hown : OwnT w3 base (.slice (some ⟨w.heap.size, 0, none⟩) (l.length + 1) G) (insT i x l) := by
    have h5 := OwnT.mk' (w := w3) (l := insT i x l) hbw (by rw [← hw3]; exact setRow_heap w2.drew _ cur1 _ _ _ hg2) (by rw [insT_len (by omega)]; exact hGn) hGm (by
      rw [List.size_toArray, List.length_append, List.length_append, List.length_take, hdl, List.length_drop, Array.length_toList, hz1]
      omega) (by
      rw [insT_len (by omega), ins_cells]
      have e1 : cur1.toList = (ROW.toList.take (i * 2) ++ [Value.string x.name, Value.int .i64 x.at_]) ++ ROW.toList.drop (i * 2 + 2) := by rw [← hc1]
      have e2 : cur1.toList.take ((i + 1) * 2) = (tcells l).take (i * 2) ++ [Value.string x.name, Value.int .i64 x.at_] := by
        rw [e1, hRt]
        apply List.take_left'
        rw [List.length_append, htl]
        simp only [List.length_cons, List.length_nil]
        omega
      simp only [e2]
      apply List.take_left'
      rw [List.length_append, List.length_append, htl, hdl]
      simp only [List.length_cons, List.length_nil]
      omega)
    rw [insT_len (by omega)] at h5
    exact h5
  have hgr : w.grownBy w3 none := by
    rw [← hw3, ← hw2, ← hw1]
    refine ⟨rfl, rfl, rfl, ?_, fun k hk _ => ?_⟩
    · have e : w.drew.heap.size = w.heap.size := rfl
      simp only [World.setRow, World.drew, World.alloc, Array.size_modify, Array.size_push]
      omega
    · rw [setRow_other _ _ _ _ (by omega)]
      show (World.setRow _ _ _).heap[k]? = _
      rw [setRow_other _ _ _ _ (by omega), heap_alloc_old _ _ (show k < w.drew.heap.size from hk)]
      rfl
  have HOWN := Lib.hid hown
  have HGR := Lib.hid hgr
  have i1 : (0 : Int) ≤ (i : Int) := by omega
  have i2 : (i : Int) ≤ (l.length : Int) := by omega
  have i5 : ¬ (i : Int) = (l.length : Int) := by omega
  have i6 : ¬ l.length = i := by omega
  have j6 : ¬ G = i := by omega
  have j7 : ¬ G = i + 1 := by omega
  have i9 : IntKind.i64.wrap ((l.length : Int) + 1) = (l.length : Int) + 1 := by rw [IntKind.wrap_i64]; omega
  have i16 : IntKind.i64.wrap ((l.length : Int) + 1 - (i : Int)) = (l.length : Int) + 1 - (i : Int) := by rw [IntKind.wrap_i64]; omega
  have i10 : IntKind.i64.wrap ((i : Int) + 1) = (i : Int) + 1 := by rw [IntKind.wrap_i64]; omega
  have i11 : (0 : Int) ≤ (i : Int) + 1 := by omega
  have i12 : (l.length : Int) < (l.length : Int) + 1 := by omega
  have i14 : (i : Int) + 1 ≤ (l.length : Int) + 1 := by omega
  have i15 : (i : Int) ≤ (l.length : Int) + 1 := by omega
  have j1 : (l.length : Int) + 1 ≤ (G : Int) := by omega
  clear hown hgr hg1 hx1 hz1 hg2 ho1 ho2 hdl htl hinfo htk hsz hg hx hw1 hw2 hw3 hc1 hold hkk hik hG hROW hGn hGm hRl hRt hcell hcur hi0 hz0 hzs hzb
  go_enter Try.func27, Try.ntmps27
  go_wp2_with (first
    | (at_builtin; refine Lib.wpList_append_run _ rfl _ _ _ _ rfl _ _ rfl rfl _ _ (hrz _) ?_)
    | (at_builtin; refine wpList_copy_runI _ rfl _ _ 24 24 rfl _ _ rfl rfl (hcp1 _ _) ?_))
  go_region_law (refine step_copy_runI rfl _ _ 24 24 rfl _ _ (by simp [Act.eval, Act.put]) (by simp [Act.eval, Act.put]) (hcp2 _ _ _) ?_)
  go_wp2_with fail
  go_ret
  exact ⟨_, rfl, HOWN.out, HGR.out⟩

theorem insert_any (base : Nat) (v : Value) (l : List TM) (i : Nat) (hi : i ≤ l.length) (hl64 : l.length ≤ 1000) (x : TM) (vb : Nat) (w : World) (h : OwnT w base v l) (hbw : base ≤ w.heap.size) (hx : w.heap[vb]? = some (.cells #[.string x.name, .int .i64 x.at_] 61))
    (hne : v.ownBlock ≠ some vb) :
    Calls Try.prog 27 #[v, .int .i64 i, .slice (some ⟨vb, 0, none⟩) 1 1] w fun r w' => ∃ v', r = .returned v' ∧ OwnT w' base v' (insT i x l) ∧ w.grownBy w' v.ownBlock := by
  by_cases he : i = l.length
  · subst he
    have e : insT l.length x l = l ++ [x] := by simp [insT]
    rw [e]
    exact insert_end base v l hl64 x vb w h hbw hx
  · obtain ⟨g, cap, cur, rfl, hbg, hg, hnc, hcm, hsz, htk⟩ := h.block (by omega)
    have hob : (Value.slice (some ⟨g, 0, none⟩) l.length cap).ownBlock = some g := rfl
    rw [hob] at hne ⊢
    by_cases hr : l.length + 1 ≤ cap
    · exact insert_shift base l i g cap cur (by omega) hl64 x vb w hbg hg hr hcm hsz htk hx (fun e => hne (by rw [e]))
    · refine (insert_grow base l i g cap cur (by omega) hl64 x vb w hbw hg (by omega) hsz htk hx).mono ?_
      rintro r w' ⟨v', rfl, h1, h2⟩
      exact ⟨v', rfl, h1, ⟨h2.os, h2.tape, h2.output, h2.size, fun k hk _ => h2.block k hk (by simp)⟩⟩
end Go.Proofs.Ytpadbkplknnopaa
