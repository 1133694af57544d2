/-
  The walk over frame.Scan: the iterator over the frames that bytes begin with, and the loop that collects them.
-/
import Derived.RangeFuncNested
import Derived.RangeFuncBox
import Derived.RangeFuncBound
import Derived.RangeFuncCalls
import Derived.RangeFuncLeaves
import Derived.Shelf.Abstract
import Derived.Shelf.RegionOpen
import Derived.WalkKit
import Derived.OwnWalkIn
import Derived.TacticsInMore
import Derived.LoopNIn
import Derived.LoopIn
import Derived.Maps.AppendAt
import Derived.Test.YtebliglfofjafaaFrScan
namespace Go.Proofs.Ytebliglfofjafaa
open Go.RowKit Go.Shelf
attribute [local go_sem] Oper.semAt_some

/-- What the iterator hands on: each payload, and where its frame ends. -/
def evs : Nat → List (List UInt8) → List (ByteArray × Nat)
  | _, [] => []
  | b, p :: l => (bstr p, b + (8 + p.length)) :: evs (b + (8 + p.length)) l

def lastE (xs : List (ByteArray × Nat)) : Nat := match xs.getLast? with | some x => x.2 | none => 0
theorem lastE_snoc (xs : List (ByteArray × Nat)) (x : ByteArray × Nat) : lastE (xs ++ [x]) = x.2 := by simp [lastE]

theorem evs_map : ∀ (b : Nat) (l : List (List UInt8)), (evs b l).map (fun x => x.1.data.toList) = l
  | _, [] => rfl
  | b, p :: l => by rw [evs, List.map_cons, evs_map]; rfl
theorem evs_len (b : Nat) (l : List (List UInt8)) : (evs b l).length = l.length := by
  have := congrArg List.length (evs_map b l)
  simpa using this
theorem evs_last : ∀ (b : Nat) (l : List (List UInt8)), l ≠ [] → lastE (evs b l) = b + rowLen l
  | _, [], h => absurd rfl h
  | b, [p], _ => by simp [evs, lastE, rowLen]
  | b, p :: q :: l, _ => by
    have ih := evs_last (b + (8 + p.length)) (q :: l) (by simp)
    have e : lastE (evs b (p :: q :: l)) = lastE (evs (b + (8 + p.length)) (q :: l)) := by
      rw [evs, evs]; simp [lastE]
    rw [e, ih]; simp only [rowLen]; omega
theorem evs_last0 (l : List (List UInt8)) : lastE (evs 0 l) = rowLen l := by
  cases l with
  | nil => rfl
  | cons p l => rw [evs_last 0 _ (by simp)]; omega

theorem grown_of_below {w w' : World} (h : Below w.heap.size w w') : w.grownBy w' none := ⟨h.os, h.tape, h.output, h.size, fun k hk _ => h.block k hk⟩

set_option maxRecDepth 100000 in
set_option maxHeartbeats 2000000 in
theorem frames1_in (n : Nat) (hn : 1 ≤ n) (l Bs : Nat) (s : ByteArray) (hs : s.size ≤ 1000000000) (J Jx : List (ByteArray × Nat) → World → Prop)
    (W : World) (hJ : AbidesFrom W.heap.size J)
    (hY : ∀ pre x W1, J pre W1 → pre.length < (evs 0 (scanFr s.data.toList).1).length → YieldAt Fence.wide (n - 1) Try.prog l #[.string x.1, .int .i64 (x.2 : Int)] W1 fun e W' =>
      (e = .returned (.bool true) ∧ J (pre ++ [x]) W' ∧ W'.heap[Bs]? = W1.heap[Bs]?) ∨ (e = .returned (.bool false) ∧ Jx (pre ++ [x]) W'))
    (hBs : Boxed W Bs 9 (.string s)) (h0 : J [] W) :
    CallsIn Fence.wide n Try.prog 33 #[.func (.yield l) #[] #[], .pointer (some ⟨Bs, 0, none⟩)] W fun e W' => (∃ v, e = .returned v) ∧
      ((∃ ys, ys = evs 0 (scanFr s.data.toList).1 ∧ J ys W') ∨ (∃ pre, True ∧ Jx pre W')) := by
  have hc0 := hBs.cell
  refine callsIn_of_wp Try.func33 rfl trivial ?_ rfl
  simp only [Try.ntmps33, List.size_toArray, List.length_cons, List.length_nil, Nat.reduceAdd, Nat.reduceSub, Array.replicate_succ, Array.replicate_zero, List.push_toArray, List.append_toArray, List.nil_append, List.cons_append]
  gi_wp2
  gi_loopw [3, 4, 5, 6] (fun t3 _ _ _ wr => ∃ (pre : List (ByteArray × Nat)) (L : ByteArray) (b : Nat), t3 = .string L ∧ evs 0 (scanFr s.data.toList).1 = pre ++ evs b (scanFr L.data.toList).1 ∧ b + L.size = s.size ∧ J pre wr ∧ Boxed wr Bs 9 (.string s) ) (fun t _ _ _ _ => strLen t)
  case atStart => exact ⟨[], s, 0, rfl, rfl, by omega, h0, hBs⟩
  case round =>
    clear hc0
    obtain ⟨pre, L, b, rfl, hev, hlen, hJs, hbx⟩ := hrel
    have Hev := Lib.hid hev
    have hbd : b + L.size ≤ 1000000000 := by omega
    have Hlen := Lib.hid hlen
    clear hev hlen
    by_cases hok : (takeFr L.data.toList).2.2 = 0
    · obtain ⟨p, hp⟩ : ∃ p : ByteArray, p.data.toList = (takeFr L.data.toList).1 := ⟨bstr _, rfl⟩
      obtain ⟨r, hr⟩ : ∃ r : ByteArray, r.data.toList = (takeFr L.data.toList).2.1 := ⟨bstr _, rfl⟩
      have ht : takeFr L.data.toList = (p.data.toList, r.data.toList, 0) := by rw [hp, hr, ← hok]
      obtain ⟨hl1, hl2⟩ := takeFr_rest ht
      have hstep := scanFr_step ht
      have c1 := frTake_str L p r 0 ht (by unfold maxLen; omega) wr
      have e1 : L.data.toList.length = L.size := by simp
      have e2 : p.data.toList.length = p.size := by simp
      have e3 : r.data.toList.length = r.size := by simp
      rw [e1, e2, e3] at hl1
      rw [e2] at hl2
      have hev2 : evs 0 (scanFr s.data.toList).1 = (pre ++ [(p, b + (8 + p.size))]) ++ evs (b + (8 + p.size)) (scanFr r.data.toList).1 := by
        rw [Hev.out, hstep, evs, e2]; simp [bstr_of]
      have hpl : pre.length < (evs 0 (scanFr s.data.toList).1).length := by rw [hev2]; simp
      have hsub : (s.size : Int) - (r.size : Int) = ((b + (8 + p.size) : Nat) : Int) := by have := Hlen.out; omega
      have hrs : r.size < L.size := by omega
      obtain ⟨en, hen⟩ : ∃ en, b + (8 + p.size) = en := ⟨_, rfl⟩
      rw [hen] at hev2 hsub
      have hen2 : en + r.size = s.size := by have := Hlen.out; omega
      have C1 := Lib.hid c1
      have Hev2 := Lib.hid hev2
      have Hen2 := Lib.hid hen2
      have Hl1 := Lib.hid hl1
      have Hsub := Lib.hid hsub
      clear c1 ht hp hr hstep e1 e2 e3 hok hl1 hl2 hev2 hsub hen hen2
      gi_wp2
      refine ⟨trivial, (callsIn_wide.2 C1.out).mono ?_⟩
      rintro e w2 ⟨rfl, h2⟩
      have hJ2 := hJ pre wr w2 none hJs (grown_of_below h2) (fun r e => by cases e)
      have hbx2 : Boxed w2 Bs 9 (.string s) := (h2.block Bs hbx.lt).trans hbx
      have hc2 := hbx2.cell
      obtain ⟨fn, tmps, assign, body, hy, hR⟩ := hY pre (p, en) w2 hJ2 hpl
      dsimp only at hy
      have hsub2 := Hsub.out
      gi_wp2
      refine hR.mono ?_
      rintro e w3 (⟨rfl, hJ3, hk3⟩ | ⟨rfl, hJx3⟩)
      · gi_wp2
        go_roundw
        case rel => exact ⟨pre ++ [(p, en)], r, en, rfl, Hev2.out, Hen2.out, hJ3, hk3.trans hbx2⟩
        case measure => simp [strLen]; exact hrs
      · gi_wp2
        refine bodyPost_ret (results_none rfl _ _ _) rfl ?_
        exact ⟨⟨_, rfl⟩, .inr ⟨_, trivial, hJx3⟩⟩
    · have hw := takeFr_wrong hok
      have hstop := scanFr_stop hok
      have c1 := frTake_str L ⟨#[]⟩ ⟨#[]⟩ (takeFr L.data.toList).2.2 (by
        conv => lhs; rw [show takeFr L.data.toList = ((takeFr L.data.toList).1, (takeFr L.data.toList).2.1, (takeFr L.data.toList).2.2) from rfl, hw.1, hw.2]) (by unfold maxLen; omega) wr
      generalize (takeFr L.data.toList).2.2 = er at c1 hok
      have ge : ((er : Int) != 0) = true := by rw [bne_iff_ne]; omega
      have C1 := Lib.hid c1
      have Hstop := Lib.hid hstop
      clear c1 hw hstop hok
      gi_wp2
      refine ⟨trivial, (callsIn_wide.2 C1.out).mono ?_⟩
      rintro e w2 ⟨rfl, h2⟩
      have hJ2 := hJ pre wr w2 none hJs (grown_of_below h2) (fun r e => by cases e)
      gi_wp2
      refine ⟨fun _ h => (by cases h), ?_⟩
      gi_wp2
      refine bodyPost_ret (results_none rfl _ _ _) rfl ?_
      refine ⟨⟨_, rfl⟩, .inl ⟨_, rfl, ?_⟩⟩
      rw [Hev.out, Hstop.out, evs, List.append_nil]
      exact hJ2

theorem frames_in (n : Nat) (s : ByteArray) (w : World) :
    CallsIn Fence.wide n Try.prog 29 #[.string s] w fun e w' => e = .returned (.func (.func 33) #[] #[.pointer (some ⟨w.heap.size, 0, none⟩)]) ∧ w' = w.alloc (.cells #[.string s] 9) := by
  refine callsIn_of_wp Try.func29 rfl trivial ?_ rfl
  simp only [Try.ntmps29, List.size_toArray, List.length_cons, List.length_nil, Nat.reduceAdd, Nat.reduceSub, Array.replicate_succ, Array.replicate_zero, List.push_toArray, List.append_toArray, List.nil_append, List.cons_append]
  gi_wp2
  go_ret
  exact ⟨rfl, rfl⟩

/-- What a round keeps: the box of the bytes. -/
def KeepsBox (Bs : Nat) (W W' : World) : Prop := W'.heap[Bs]? = W.heap[Bs]?

theorem frames_stops (n : Nat) (hn : 1 ≤ n) (Bs : Nat) (s : ByteArray) (hs : s.size ≤ 1000000000) (w : World) (hb : Boxed w Bs 9 (.string s)) :
    SeqStopsK Fence.wide n Try.prog 33 #[.pointer (some ⟨Bs, 0, none⟩)] (fun x : ByteArray × Nat => #[.string x.1, .int .i64 (x.2 : Int)]) (KeepsBox Bs) (fun ys => ys = evs 0 (scanFr s.data.toList).1) (fun _ => True) (evs 0 (scanFr s.data.toList).1).length w :=
  fun l J Jx W hW hJ _ hY h0 => frames1_in n hn l Bs s hs J Jx W hJ hY ((hW.block Bs hb.lt).trans hb) h0

theorem rowLen_ge : ∀ l : List (List UInt8), l.length ≤ rowLen l
  | [] => by simp
  | p :: l => by have := rowLen_ge l; rw [rowLen, List.length_cons]; omega

theorem own_mono {w : World} {base base' : Nat} {e : TypeId} {size : Nat} {v : Value} {n : Nat} {xs : List Value} (h : w.ownsRow base e size v n xs) (hb : base' ≤ base) : w.ownsRow base' e size v n xs := by
  obtain ⟨h1, h2⟩ := h
  refine ⟨h1, ?_⟩
  rcases h2 with h2 | ⟨g, cap, cur, hv, hg, r⟩
  · exact .inl h2
  · exact .inr ⟨g, cap, cur, hv, Nat.le_trans hb hg, r⟩

theorem evs_cells (b : Nat) (l : List (List UInt8)) : (evs b l).map (fun x => Value.string x.1) = scells l := by
  have h := evs_map b l
  conv => rhs; rw [← h]
  simp [scells, bstr_of]

theorem evs_scells (pre : List (ByteArray × Nat)) : (pre.map (fun x => Value.string x.1)).length = pre.length := by simp

set_option maxRecDepth 100000 in
set_option maxHeartbeats 2000000 in
theorem scan_in (n : Nat) (hn : 3 ≤ n) (s : ByteArray) (w : World) (hs : s.size ≤ 1000000000) :
    CallsIn Fence.wide n Try.prog 17 #[.string s] w (ScanIs s w) := by
  have h1 : 1 ≤ n := by omega
  obtain ⟨i0, hi, hz0, hz1, hz2⟩ := info_parts Try.sinfo
  refine callsIn_of_wp_marks Try.func17 rfl trivial ?_ rfl
  simp only [Try.ntmps17, List.size_toArray, List.length_cons, List.length_nil, Nat.reduceAdd, Nat.reduceSub, Array.replicate_succ, Array.replicate_zero, List.push_toArray, List.append_toArray, List.nil_append, List.cons_append]
  gi_wp2
  refine ⟨trivial, (frames_in _ _ _).mono ?_⟩
  rintro e w' ⟨rfl, rfl⟩
  have bO := Boxed.new w 22 (.slice none 0 0)
  have bE := Boxed.new (w.alloc (.cells #[.slice none 0 0] 22)) 3 (.int .i64 0)
  rw [World.size_alloc] at bE
  have hB0 : Below w.heap.size w (((w.alloc (.cells #[.slice none 0 0] 22)).alloc (.cells #[.int .i64 0] 3)).alloc (.cells #[.string s] 9)) := (((Below.refl _ w).alloc (Nat.le_refl _) _).alloc (by simp) _).alloc (by simp; omega) _
  have bS := Boxed.new ((w.alloc (.cells #[.slice none 0 0] 22)).alloc (.cells #[.int .i64 0] 3)) 9 (.string s)
  rw [World.size_alloc, World.size_alloc] at bS
  gi_wp2
  have hcount : (evs 0 (scanFr s.data.toList).1).length ≤ s.size := by
    have h1 := scanFr_len s.data.toList
    have h2 := rowLen_ge (scanFr s.data.toList).1
    have h3 : s.data.toList.length = s.size := by simp
    rw [evs_len]; omega
  refine wpIn_rangeFunc_ownF rfl h1 (gf := 33) (lb := #[.pointer (some ⟨w.heap.size + 1 + 1, 0, none⟩)]) rfl trivial (enters_of Try.func33 (by kernel_rfl) rfl)
    (frames_stops (n - 1) (by omega) (w.heap.size + 1 + 1) s hs _ bS) (fun h k => Eq.trans k h) ?hKb (Below.refl _ _) (fun _ => rfl)
    (fun pre W => (∃ v, Boxed W w.heap.size 22 v ∧ W.ownsRow (w.heap.size + 3) 9 1 v pre.length (pre.map (fun x => Value.string x.1)) ∧ True) ∧ Boxed W (w.heap.size + 1) 3 (.int .i64 (lastE pre : Int)) ∧ Boxed W (w.heap.size + 1 + 1) 9 (.string s) ∧ Below w.heap.size w W)
    (fun _ _ _ => False)
    (OwnFrom.and (Own.from (holdsRow_own (w.heap.size + 3) w.heap.size 22 9 1 (fun pre : List (ByteArray × Nat) => pre.length) (fun pre => pre.map (fun x => Value.string x.1)) (fun _ _ => True)) _) (OwnFrom.and (Own.from (boxed_own (w.heap.size + 1) 3 (fun pre => Value.int .i64 (lastE pre : Int))) _) (OwnFrom.and (Own.from (boxed_own (w.heap.size + 1 + 1) 9 (fun _ => Value.string s)) _) (ownFrom_below (Nat.le_refl _) (by simp; omega)))))
    (fun _ _ _ _ _ hs _ _ => hs)
    ⟨⟨_, (bO.alloc _).alloc _, World.ownsRow_nil _ _ _ _, trivial⟩, bE.alloc _, bS, hB0⟩
    (fun x => { tmps := #[.string s, undef, .slice none 0 0, .int .i64 0, .pointer (some ⟨w.heap.size, 0, none⟩), .pointer (some ⟨w.heap.size + 1, 0, none⟩), .string x.1, .int .i64 (x.2 : Int), .string s, .func (.func 33) #[] #[.pointer (some ⟨w.heap.size + 1 + 1, 0, none⟩)], .string x.1, .int .i64 (x.2 : Int), undef, undef, undef, undef, undef, undef, undef], defers := [] }) ?assign ?body ?done ?stop
  case hKb =>
    intro W' l o o' hl hw _ _
    have hne : w.heap.size + 1 + 1 ≠ l := by simp at hl; omega
    exact (World.putObj_heap_other (by omega))
  case assign =>
    intro l x W K hK
    gi_wp2
    exact hK
  case body =>
    rintro l pre x W ⟨⟨v, hv, hrow, _⟩, hE, hS, hB⟩ hlt
    have hc := hv.cell
    have hSz := hS.lt
    have hBz := hB.size
    gi_wp2_with (gi_at_builtin; refine wpListIn_append_own _ rfl (.tmp 12) (.tmp 14) 22 rfl (w.heap.size + 3) 9 i0 (.string ⟨#[]⟩) 1 16 Try.underlying22 hi hz0 hz1 hz2 rfl (by decide) _ _ _ rfl (hrow.alloc _) ⟨W.heap.size, 0, none⟩ 1 1 [.string x.1] rfl rfl (cell_one_new _ _ _) (by simp [Value.oneCell']) (by unfold maxLen; omega) (by omega) (by simp; omega) ?_; intro v' w1 hown' hgrow _; have hgrow2 : (W.alloc (.cells #[.string x.1] 9)).grownBy w1 v.ownBlock := hgrow; obtain ⟨g', cap', rfl⟩ := ownsRow_succ hown'; have hv1 : Boxed w1 w.heap.size 22 v := (hv.alloc _).kept hgrow2 (fun e => by have := (hrow.lt _ e.symm).1; omega); have hE1 : Boxed w1 (w.heap.size + 1) 3 (.int .i64 (lastE pre : Int)) := (hE.alloc _).kept hgrow2 (fun e => by have := (hrow.lt _ e.symm).1; omega); have hc1 := hv1.cell; have hf1 := hv1.frozen; have hc2 := hE1.cell; have hf2 := hE1.frozen)
    have hS1 : Boxed w1 (w.heap.size + 1 + 1) 9 (.string s) := (hS.alloc _).kept hgrow2 (fun e => by have := (hrow.lt _ e.symm).1; omega)
    have hgl := (hown'.lt g' rfl).1
    refine ⟨?_, ?_, ⟨_, (hv1.set _).other (by omega) _, ?_, trivial⟩, ?_, (hS1.other (by omega) _).other (by omega) _, ?_⟩
    · refine ((((KeepsOthers.alloc W _).trans (KeepsOthers.of_grownBy hgrow2 fun j o ej hj => ?_)).trans (KeepsOthers.setCell _ _ _))).trans (KeepsOthers.setCell _ _ _)
      rcases (hrow.alloc (.cells #[.string x.1] 9)).2 with ⟨rfl, _⟩ | ⟨g, cap, cur, rfl, _, hgb, _⟩
      · simp [Value.ownBlock] at ej
      · obtain rfl : g = j := by simpa [Value.ownBlock] using ej
        rw [hgb] at hj; cases hj; rfl
    · exact ((hS1.other (by omega) _).other (by omega) _).trans hS.symm
    · have h2 := (hown'.kept (grownBy_setCell' w1 w.heap.size (.slice (some ⟨g', 0, none⟩) (pre.length + 1) cap')) (.inr (fun e => by have := (hown'.lt _ e).1; omega))).kept (grownBy_setCell' _ (w.heap.size + 1) (.int .i64 (x.2 : Int))) (.inr (fun e => by have := (hown'.lt _ e).1; omega))
      rw [List.length_append, List.map_append]
      exact h2
    · rw [lastE_snoc]
      exact (hE1.other (by omega) _).set _
    · exact (((hB.alloc hBz _).grown hgrow2 (by simp; omega) (fun j hj => by have := (hrow.lt _ hj).1; omega)).setCell (p := ⟨w.heap.size, 0, none⟩) (Nat.le_refl _) _).setCell (p := ⟨w.heap.size + 1, 0, none⟩) (by simp) _
  case done =>
    rintro D ys W hD rfl ⟨⟨v, hv, hrow, _⟩, hE, hS, hB⟩ hK
    have hc := hv.cell
    have hcE := hE.cell
    gi_wp2
    gi_region
    all_goals gi_wp2
    refine ⟨by simp, .inl ⟨_, _, rfl, run_takeDeferred (w := W.drew) hK, ?_⟩⟩
    refine ⟨_, results_tmp2 rfl _ _ _, v, ?_, ?_, ?_⟩
    · rw [← evs_last0]; rfl
    · have h2 := ownsRow_putObj (W := W.drew) hrow (.deferred none) hK rfl
      rw [evs_len, evs_cells] at h2
      exact own_mono h2 (by omega)
    · exact (hB.drew).trans (belowK_b (w := w) (Nat.le_refl _) W.drew D _ _ (by simp at hD; omega) hK rfl rfl)
  case stop =>
    rintro D c pre W _ _ h _
    exact h.elim
end Go.Proofs.Ytebliglfofjafaa
