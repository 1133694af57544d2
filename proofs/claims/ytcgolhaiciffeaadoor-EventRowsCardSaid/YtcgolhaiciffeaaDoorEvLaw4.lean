/-
  The walk of bucketlinelaw5.EventRows. Printed by gen_evlaw4.py of this claim's writer.
-/
import Derived.Test.YtcgolhaiciffeaaDoorEvSame
import Derived.Test.YtcgolhaiciffeaaDoorEvBack2
import Derived.Deep.DeepCutAuto
namespace Go.Proofs.YtcgolhaiciffeaaDoor
open Go.RowKit

/-- A slice of batches whose cells lie ahead of block B. -/
def IsBatches (B : Nat) (w : World) (v : Value) (l : List BW) : Prop :=
  ∃ (a : Option Addr) (cap : Nat), v = .slice a l.length cap ∧ l.length ≤ cap ∧ cap ≤ maxLen ∧
    (0 < l.length → ∃ b off, a = some ⟨b, off, none⟩ ∧ b < B ∧ ∀ i, (h : i < l.length) → w.cell? ⟨b, off + i * 5, none⟩ = some (.string l[i].stream) ∧ w.cell? ⟨b, off + i * 5 + 1, none⟩ = some (.int .i64 l[i].expect) ∧
      w.cell? ⟨b, off + i * 5 + 2, none⟩ = some (.int .i64 l[i].session) ∧ w.cell? ⟨b, off + i * 5 + 3, none⟩ = some (.int .i64 l[i].seq) ∧ ∃ lv, w.cell? ⟨b, off + i * 5 + 4, none⟩ = some lv ∧ IsEvents B w lv l[i].events)
theorem IsBatches.form {B : Nat} {w : World} {v : Value} {l : List BW} (h : IsBatches B w v l) : ∃ a cap, v = .slice a l.length cap := by
  obtain ⟨a, cap, rfl, _⟩ := h
  exact ⟨a, cap, rfl⟩
theorem IsBatches.get {B B' : Nat} {w w' : World} {v : Value} {l : List BW} (h : IsBatches B w v l) (hb : Below B' w w') (hB : B ≤ B') (i : Nat) (hi : i < l.length) : ∃ b off cap, v = .slice (some ⟨b, off, none⟩) l.length cap ∧ b < B ∧
    w'.cell? ⟨b, off + i * 5, none⟩ = some (.string l[i].stream) ∧ w'.cell? ⟨b, off + i * 5 + 1, none⟩ = some (.int .i64 l[i].expect) ∧
      w'.cell? ⟨b, off + i * 5 + 2, none⟩ = some (.int .i64 l[i].session) ∧ w'.cell? ⟨b, off + i * 5 + 3, none⟩ = some (.int .i64 l[i].seq) ∧ ∃ ea ec, w'.cell? ⟨b, off + i * 5 + 4, none⟩ = some (.slice ea l[i].events.length ec) ∧ IsEvents B w (.slice ea l[i].events.length ec) l[i].events := by
  obtain ⟨a, cap, rfl, h1, h2, h5⟩ := h
  obtain ⟨b, off, rfl, hlt, hc⟩ := h5 (by omega)
  obtain ⟨c0, c1, c2, c3, lv, c4, he⟩ := hc i hi
  obtain ⟨ea, ec, rfl⟩ := he.form
  have hk : ∀ o v, w.cell? ⟨b, o, none⟩ = some v → w'.cell? ⟨b, o, none⟩ = some v := fun o v hv => (hb.cell (p := ⟨b, o, none⟩) (Nat.lt_of_lt_of_le hlt hB)).trans hv
  exact ⟨b, off, cap, rfl, hlt, hk _ _ c0, hk _ _ c1, hk _ _ c2, hk _ _ c3, ea, ec, hk _ _ c4, he⟩

/-- Batches with their slices, as cells. -/
def pcells (P : List (BW × Value)) : List Value := P.flatMap (fun x => [.string x.1.stream, .int .i64 x.1.expect, .int .i64 x.1.session, .int .i64 x.1.seq, x.2])
theorem pcells_len : ∀ P : List (BW × Value), (pcells P).length = P.length * 5
  | [] => rfl
  | e :: l => by
    have h := pcells_len l
    unfold pcells at h ⊢
    rw [List.flatMap_cons, List.length_append, h, List.length_cons]
    simp
    omega
theorem pcells_append (l m : List (BW × Value)) : pcells (l ++ m) = pcells l ++ pcells m := by simp [pcells]
theorem pcells_at : ∀ (l : List (BW × Value)) (i : Nat) (h : i < l.length), (pcells l)[i * 5]? = some (.string l[i].1.stream) ∧ (pcells l)[i * 5 + 1]? = some (.int .i64 l[i].1.expect) ∧ (pcells l)[i * 5 + 2]? = some (.int .i64 l[i].1.session) ∧ (pcells l)[i * 5 + 3]? = some (.int .i64 l[i].1.seq) ∧ (pcells l)[i * 5 + 4]? = some l[i].2
  | [], i, h => absurd h (by simp)
  | e :: l, 0, _ => ⟨rfl, rfl, rfl, rfl, rfl⟩
  | e :: l, i + 1, h => by
    have h1 := pcells_at l i (by simpa using h)
    rw [show (i + 1) * 5 = i * 5 + 1 + 1 + 1 + 1 + 1 by omega, show pcells (e :: l) = .string e.1.stream :: .int .i64 e.1.expect :: .int .i64 e.1.session :: .int .i64 e.1.seq :: e.2 :: pcells l from rfl]
    simpa using h1
theorem own_pcells {w : World} {base : Nat} {e : TypeId} {v : Value} {P : List (BW × Value)} (h : w.ownsRow base e 5 v P.length (pcells P)) (i : Nat) (hi : i < P.length) : ∃ g cap, v = .slice (some ⟨g, 0, none⟩) P.length cap ∧ base ≤ g ∧ g < w.heap.size ∧
    w.cell? ⟨g, i * 5, none⟩ = some (.string P[i].1.stream) ∧ w.cell? ⟨g, i * 5 + 1, none⟩ = some (.int .i64 P[i].1.expect) ∧ w.cell? ⟨g, i * 5 + 2, none⟩ = some (.int .i64 P[i].1.session) ∧ w.cell? ⟨g, i * 5 + 3, none⟩ = some (.int .i64 P[i].1.seq) ∧ w.cell? ⟨g, i * 5 + 4, none⟩ = some P[i].2 := by
  rcases h.2 with ⟨rfl, h0⟩ | ⟨g, cap, cur, rfl, hb, hg, hn, hc, hsz, htk⟩
  · omega
  · have key : ∀ j u, (pcells P)[j]? = some u → w.cell? ⟨g, j, none⟩ = some u := fun j u hu => by
      have hj : j < P.length * 5 := by
        have := (List.getElem?_eq_some_iff.1 hu).1
        rwa [pcells_len] at this
      rw [Lib.cell_of_heap hg, ← Array.getElem?_toList]
      rw [← htk, List.getElem?_take_of_lt hj] at hu
      exact hu
    have h6 := pcells_at P i hi
    exact ⟨g, cap, rfl, hb, (Array.getElem?_eq_some_iff.1 hg).1, key _ _ h6.1, key _ _ h6.2.1, key _ _ h6.2.2.1, key _ _ h6.2.2.2.1, key _ _ h6.2.2.2.2⟩

theorem Tryd.bainfo : (Tryd.prog.info? 24).map (fun i => (i.zero, i.size, i.bytes)) = some (some (.agg #[.string ByteArray.empty, .int .i64 0, .int .i64 0, .int .i64 0, .slice none 0 0]), 5, 64) := by kernel_rfl

/-- The bytes of some batches. -/
def rowsL (l : List BW) : List UInt8 := l.flatMap (fun b => (putB b).data.toList)
theorem putB_sizeR {b : BW} (h : LightB b) : (putB b).size ≤ 20000 := by
  unfold putB
  split
  · rw [bstr_size, List.length_append, size_listE]
    have h1 := headB_size h
    have h2 := bodyL_size h.e
    have h3 := h.n
    omega
  · exact Nat.zero_le _
theorem rowsL_size : ∀ {l : List BW}, (∀ b ∈ l, fitsB b = 0) → (rowsL l).length ≤ 20000 * l.length
  | [], _ => by simp [rowsL]
  | b :: l, h => by
    have h1 := rowsL_size (l := l) (fun x hx => h x (List.mem_cons_of_mem _ hx))
    have h2 := putB_sizeR (fits_light (h b (List.mem_cons_self ..)))
    unfold rowsL at h1 ⊢
    rw [List.flatMap_cons, List.length_append, List.length_cons, size_listE]
    omega
theorem rowsL_append (l m : List BW) : rowsL (l ++ m) = rowsL l ++ rowsL m := by simp [rowsL]
theorem rowsL_one (b : BW) : rowsL [b] = (putB b).data.toList := by simp [rowsL]
theorem rowsL_drop {l : List BW} {k : Nat} (h : k < l.length) : rowsL (l.drop k) = (putB l[k]).data.toList ++ rowsL (l.drop (k + 1)) := by
  rw [List.drop_eq_getElem_cons h]
  unfold rowsL
  rw [List.flatMap_cons]
theorem boxB {w W : World} {a0 a1 a2 a3 a4 : Value} {t : TypeId} (hb : Below (w.heap.size + 1) (w.alloc (.cells #[a0, a1, a2, a3, a4] t)) W) :
    W.cell? ⟨w.heap.size, 0, none⟩ = some a0 ∧ W.cell? ⟨w.heap.size, 1, none⟩ = some a1 ∧ W.cell? ⟨w.heap.size, 2, none⟩ = some a2 ∧ W.cell? ⟨w.heap.size, 3, none⟩ = some a3 ∧ W.cell? ⟨w.heap.size, 4, none⟩ = some a4 := box5 hb

set_option maxRecDepth 100000 in
set_option maxHeartbeats 3200000 in
theorem walkEventRows (v : Value) (l : List BW) (W : World) (h : IsBatches W.heap.size W v l) (hT : Tabs W) :
    Calls Tryd.prog 7 #[v] W fun r w' => r = .returned (.bool true) ∧ Below W.heap.size W w' := by
  have HV := Lib.hid h
  have HT := Lib.hid hT
  obtain ⟨a, cap, rfl⟩ := h.form
  obtain ⟨i0, hi0, hz0, hz1, hz2⟩ := info_parts Tryd.bainfo
  clear h hT
  by_cases h0 : 20 < l.length
  · have g0 : (20 : Int) < (l.length : Int) := by omega
    go_enter Tryd.func7, Tryd.ntmps7
    go_wp2_with fail
    refine (shown_any _ HT.out).mono ?_
    rintro r w1 ⟨rfl, hb1⟩
    have HB1 := Lib.hid hb1
    go_wp2_with fail
    go_ret
    exact ⟨rfl, HB1.out⟩
  · have g0 : ¬ (20 : Int) < (l.length : Int) := by omega
    go_enter Tryd.func7, Tryd.ntmps7
    go_wp2_with fail
    refine (shown_any _ HT.out).mono ?_
    rintro r w1 ⟨rfl, hb1⟩
    have HB1 := Lib.hid hb1
    go_wp2_with fail
    go_loopw [4, 5, 6, 7] (fun t4 t5 t6 _ wr => ∃ (k : Nat) (P : List (BW × Value)), k ≤ l.length ∧ P.length ≤ k ∧ t6 = .int .i64 k ∧ t4 = .string (bstr (rowsL (P.map (·.1)))) ∧ wr.ownsRow w1.heap.size 24 5 t5 P.length (pcells P) ∧ (∀ i, (hi : i < P.length) → fitsB P[i].1 = 0 ∧ IsEvents W.heap.size W P[i].2 P[i].1.events) ∧ Below w1.heap.size w1 wr) (fun _ _ t6 _ _ => l.length - (intOf t6).toNat)
    case atStart => exact ⟨0, [], Nat.zero_le _, Nat.le_refl _, rfl, rfl, World.ownsRow_nil _ _ _ _, fun i hi => absurd hi (by simp), Below.refl _ _⟩
    case round =>
      obtain ⟨k, P, hk, hpk, rfl, rfl, hown, hP, hbr⟩ := hrel
      have HOWN := Lib.hid hown
      have HP := Lib.hid hP
      have HBr := Lib.hid hbr
      clear hown hP
      by_cases hlt : k < l.length
      · have i1 : (0 : Int) ≤ (k : Int) := by omega
        have i2 : (k : Int) < (l.length : Int) := by omega
        have hbW := bstep HB1.out hbr
        obtain ⟨bb, off, cap', he, hblk, c0, c1, c2, c3, ea, ec, c4, hev⟩ := HV.out.get hbW (Nat.le_refl _) k hlt
        obtain ⟨rfl, -, rfl⟩ : a = some ⟨bb, off, none⟩ ∧ l.length = l.length ∧ cap = cap' := by injection he with e1 e2 e3; exact ⟨e1, e2, e3⟩
        clear he
        obtain ⟨y, hy⟩ : ∃ y, l[k] = y := ⟨_, rfl⟩
        rw [hy] at c0 c1 c2 c3 c4 hev
        obtain ⟨q, hq⟩ := lightQ y
        obtain ⟨c, hc⟩ : ∃ c, fitsB y = c := ⟨_, rfl⟩
        have HEV := Lib.hid hev
        have CL := Lib.hid (light_any W.heap.size (.agg #[.string y.stream, .int .i64 y.expect, .int .i64 y.session, .int .i64 y.seq, .slice ea y.events.length ec]) y q hq wr ⟨_, rfl, hev.keep hbW (Nat.le_refl _)⟩ hbW.size)
        have CF := Lib.hid (fun (X : World) (hX : Below wr.heap.size wr X) => fits_any W.heap.size (.agg #[.string y.stream, .int .i64 y.expect, .int .i64 y.session, .int .i64 y.seq, .slice ea y.events.length ec]) y c hc X ⟨_, rfl, HEV.out.keep (bstep hbW hX) (Nat.le_refl _)⟩ (bstep hbW hX).size (tabs_below HT.out (bstep hbW hX)))
        clear hy hev
        cases q with
        | false =>
          clear hq hc
          go_wp2_with fail
          refine CL.out.mono ?_
          rintro r w2 ⟨rfl, hb2⟩
          go_wp2_with fail
          go_ret
          exact ⟨rfl, bstep hbW hb2⟩
        | true =>
          have LY := Lib.hid (hq.1 rfl)
          clear hq
          have KC := Lib.hid (fun (X : World) (hX : Below wr.heap.size wr X) (o : Nat) (v : Value) (hv : wr.cell? ⟨bb, o, none⟩ = some v) => (hX.cell (p := ⟨bb, o, none⟩) (Nat.lt_of_lt_of_le hblk hbW.size)).trans hv)
          by_cases hc0 : c = 0
          · subst hc0
            have CP := Lib.hid (fun (X : World) (hX : Below wr.heap.size wr X) => putB_any W.heap.size (.agg #[.string y.stream, .int .i64 y.expect, .int .i64 y.session, .int .i64 y.seq, .slice ea y.events.length ec]) y (putB y) rfl X ⟨_, rfl, HEV.out.keep (bstep hbW hX) (Nat.le_refl _)⟩ (bstep hbW hX).size (tabs_below HT.out (bstep hbW hX)) LY.out)
            have hs1 := putB_sizeR LY.out
            have hz2' := rowsL_size (l := P.map (·.1)) (fun b hb => by
              simp only [List.mem_map] at hb
              obtain ⟨x, hx, rfl⟩ := hb
              obtain ⟨i, hi, rfl⟩ := List.getElem_of_mem hx
              exact (HP.out i hi).1)
            rw [List.length_map] at hz2'
            have hrs : rowsL ((P ++ [(y, Value.slice ea y.events.length ec)]).map (·.1)) = rowsL (P.map (·.1)) ++ (putB y).data.toList := by
              rw [List.map_append, rowsL_append]
              simp [rowsL_one]
            obtain ⟨S1, hS1⟩ : ∃ z, rowsL (P.map (·.1)) = z := ⟨_, rfl⟩
            obtain ⟨py, hpy⟩ : ∃ z, putB y = z := ⟨_, rfl⟩
            rw [hS1] at hz2' hrs ⊢
            rw [hpy] at hs1 hrs CP
            have a1 : ∀ X : World, (Op.stringOp .add (bstr S1) py).run Tryd.prog X = .ok (.string (bstr (S1 ++ py.data.toList))) X := fun X => by
              rw [show bstr (S1 ++ py.data.toList) = bstr S1 ++ py from ext_listE (by rw [list_addE, bstr_list, bstr_list])]
              exact run_string_add_sum (P := Tryd.prog) (w := X) _ _ (by rw [bstr_size]; omega)
            have HRS := Lib.hid hrs
            have HFY := Lib.hid hc
            clear hrs hc hS1 hpy
            go_wp2_with fail
            refine CL.out.mono ?_
            rintro r w2 ⟨rfl, hb2⟩
            have d0 := KC.out w2 hb2 _ _ c0
            have d1 := KC.out w2 hb2 _ _ c1
            have d2 := KC.out w2 hb2 _ _ c2
            have d3 := KC.out w2 hb2 _ _ c3
            have d4 := KC.out w2 hb2 _ _ c4
            go_wp2_with fail
            refine (CF.out _ hb2).mono ?_
            rintro r w3 ⟨rfl, hb3⟩
            have hb3' := bstep hb2 hb3
            have e0 := KC.out w3 hb3' _ _ c0
            have e1 := KC.out w3 hb3' _ _ c1
            have e2 := KC.out w3 hb3' _ _ c2
            have e3 := KC.out w3 hb3' _ _ c3
            have e4 := KC.out w3 hb3' _ _ c4
            go_wp2_with fail
            refine (CP.out _ hb3').mono ?_
            rintro r w4 ⟨rfl, hb4⟩
            have hb4' := bstep hb3' hb4
            have f0 := KC.out w4 hb4' _ _ c0
            have f1 := KC.out w4 hb4' _ _ c1
            have f2 := KC.out w4 hb4' _ _ c2
            have f3 := KC.out w4 hb4' _ _ c3
            have f4 := KC.out w4 hb4' _ _ c4
            have hown4 := own_below (hb4'.trans (((Below.refl w4.heap.size w4).alloc (Nat.le_refl _) (.cells #[.string y.stream, .int .i64 y.expect, .int .i64 y.session, .int .i64 y.seq, .slice ea y.events.length ec] 24)).mono hb4'.size)) HOWN.out
            have HO4 := Lib.hid hown4
            have hs4 : w1.heap.size ≤ w4.heap.size := (bstep HBr.out hb4').size
            clear hown4 d0 d1 d2 d3 d4 e0 e1 e2 e3 e4 c0 c1 c2 c3 c4
            go_wp2_with (at_builtin; refine wpList_append_lies _ rfl _ _ 42 rfl w1.heap.size 24 i0 _ 5 64 Tryd.underlying42 hi0 hz0 hz1 hz2 rfl (by omega) _ _ _ rfl HO4.out ⟨w4.heap.size, 0, none⟩ 1 1 [.string y.stream, .int .i64 y.expect, .int .i64 y.session, .int .i64 y.seq, .slice ea y.events.length ec] rfl rfl (World.news_of_block (heap_alloc_new w4 _)) (by simp [Value.oneCell']) (by omega) (by unfold maxLen; omega) (by omega) (by simp only [World.size_alloc]; omega) _ rfl ?_; intro gg cap2 w8 hown8 hgrow hat hlt8)
            go_roundw
            case rel =>
              refine ⟨k + 1, P ++ [(y, .slice ea y.events.length ec)], by omega, by rw [List.length_append]; simp only [List.length_cons, List.length_nil]; omega, by go_num, by rw [HRS.out], ?_, fun i hi => ?_, ?_⟩
              · rw [pcells_append, List.length_append]
                exact hown8
              · by_cases hi2 : i < P.length
                · rw [List.getElem_append_left hi2]
                  exact HP.out i hi2
                · rw [List.length_append] at hi
                  simp only [List.length_cons, List.length_nil] at hi
                  obtain rfl : i = P.length := by omega
                  simp only [List.getElem_append_right (Nat.le_refl _), Nat.sub_self, List.getElem_cons_zero]
                  exact ⟨HFY.out, HEV.out⟩
              · exact ((bstep HBr.out hb4').alloc hs4 _).grown hgrow (by simp only [World.size_alloc]; omega) (fun j hj => (HO4.out.lt j hj).1)
            case measure => simp [intOf]; omega
          · have gc : ((c : Int) == 0) = false := by simp; omega
            clear hc
            go_wp2_with fail
            refine CL.out.mono ?_
            rintro r w2 ⟨rfl, hb2⟩
            have d0 := KC.out w2 hb2 _ _ c0
            have d1 := KC.out w2 hb2 _ _ c1
            have d2 := KC.out w2 hb2 _ _ c2
            have d3 := KC.out w2 hb2 _ _ c3
            have d4 := KC.out w2 hb2 _ _ c4
            go_wp2_with fail
            refine (CF.out _ hb2).mono ?_
            rintro r w3 ⟨rfl, hb3⟩
            have hb3' := bstep hb2 hb3
            have hown3 := own_below hb3' HOWN.out
            go_wp2_with fail
            go_roundw
            case rel => exact ⟨k + 1, P, by omega, by omega, by go_num, rfl, hown3, HP.out, bstep HBr.out hb3'⟩
            case measure => simp [intOf]; omega
      · have i2 : ¬ (k : Int) < (l.length : Int) := by omega
        obtain ⟨ra, rc0, hform⟩ : ∃ ra rc, u5 = .slice ra P.length rc := by
          rcases HOWN.out.2 with ⟨hv, h0⟩ | ⟨g, cap, cur, hv, _⟩
          · exact ⟨none, 0, by rw [hv, h0]⟩
          · exact ⟨_, _, hv⟩
        subst hform
        go_wp2_with fail
        go_loopw [4, 8, 9, 10, 11] (fun t4 t8 _ _ _ wr2 => ∃ k : Nat, k ≤ P.length ∧ t8 = .int .i64 k ∧ t4 = .string (bstr (rowsL ((P.map (·.1)).drop k))) ∧ Below wr.heap.size wr wr2) (fun _ t8 _ _ _ _ => P.length - (intOf t8).toNat)
        case atStart => exact ⟨0, Nat.zero_le _, rfl, by rw [List.drop_zero], Below.refl _ _⟩
        case round =>
          obtain ⟨k, hk2, rfl, rfl, hbk⟩ := hrel
          by_cases hlt2 : k < P.length
          · obtain ⟨g, rc, hrv, hg1, hg2, d0, d1, d2, d3, d4⟩ := own_pcells (own_below hbk HOWN.out) k hlt2
            obtain ⟨rfl, rfl⟩ : ra = some ⟨g, 0, none⟩ ∧ rc0 = rc := by injection hrv with e1 e2 e3; exact ⟨e1, e3⟩
            clear hrv
            obtain ⟨hfx, hex⟩ := HP.out k hlt2
            have hdr : rowsL ((P.map (·.1)).drop k) = (putB P[k].1).data.toList ++ rowsL ((P.map (·.1)).drop (k + 1)) := by
              rw [rowsL_drop (by simpa using hlt2)]
              simp
            obtain ⟨ea, ec, hs⟩ := hex.form
            have hsz := rowsL_size (l := (P.map (·.1)).drop k) (fun b hb => by
              have h2 := List.mem_of_mem_drop hb
              simp only [List.mem_map] at h2
              obtain ⟨x, hx, rfl⟩ := h2
              obtain ⟨i, hi, rfl⟩ := List.getElem_of_mem hx
              exact (HP.out i hi).1)
            rw [List.length_drop, List.length_map] at hsz
            rw [hs] at d4 hex
            obtain ⟨y, hy⟩ : ∃ y, P[k].1 = y := ⟨_, rfl⟩
            rw [hy] at d0 d1 d2 d3 d4 hfx hex hdr
            obtain ⟨S1, hS1⟩ : ∃ z, rowsL ((P.map (·.1)).drop k) = z := ⟨_, rfl⟩
            obtain ⟨S2, hS2⟩ : ∃ z, rowsL ((P.map (·.1)).drop (k + 1)) = z := ⟨_, rfl⟩
            rw [hS1, hS2] at hdr
            rw [hS1] at hsz ⊢
            have HS2 := Lib.hid hS2
            have CT := Lib.hid (takeB_any S1 y S2 0 (by rw [hdr]; exact takeB_put hfx _) (by unfold maxLen; omega) wr (tabs_below HT.out (bstep (bstep HB1.out HBr.out) hbk)))
            have HEX := Lib.hid hex
            have i1 : (0 : Int) ≤ (k : Int) := by omega
            have i2 : (k : Int) < (P.length : Int) := by omega
            clear hy hfx hdr hsz hS1 hS2 hs hex
            go_wp2_with fail
            refine CT.out.mono ?_
            rintro r w5 ⟨tv, rfl, htv, hb5⟩
            have HTV := Lib.hid htv
            obtain ⟨ta, tc, rfl⟩ := htv.form
            clear htv
            have hb5' := bstep hbk hb5
            have bx5 := bx_new (w := w5) (.cells #[.string y.stream, .int .i64 y.expect, .int .i64 y.session, .int .i64 y.seq, .slice ta y.events.length tc] 24)
            have hg5 : g < w5.heap.size := Nat.lt_of_lt_of_le hg2 hb5.size
            have hrow : ∀ X, Below (w5.heap.size + 1) (w5.alloc (.cells #[.string y.stream, .int .i64 y.expect, .int .i64 y.session, .int .i64 y.seq, .slice ta y.events.length tc] 24)) X → (X.cell? ⟨w5.heap.size, 0, none⟩ = some (.string y.stream) ∧ X.cell? ⟨w5.heap.size, 1, none⟩ = some (.int .i64 y.expect) ∧ X.cell? ⟨w5.heap.size, 2, none⟩ = some (.int .i64 y.session) ∧ X.cell? ⟨w5.heap.size, 3, none⟩ = some (.int .i64 y.seq) ∧ X.cell? ⟨w5.heap.size, 4, none⟩ = some (.slice ta y.events.length tc) ∧ X.cell? ⟨g, k * 5, none⟩ = some (.string y.stream) ∧ X.cell? ⟨g, k * 5 + 1, none⟩ = some (.int .i64 y.expect) ∧ X.cell? ⟨g, k * 5 + 2, none⟩ = some (.int .i64 y.session) ∧ X.cell? ⟨g, k * 5 + 3, none⟩ = some (.int .i64 y.seq) ∧ X.cell? ⟨g, k * 5 + 4, none⟩ = some (.slice ea y.events.length ec) ∧ Below (w5.heap.size + 1) (w5.alloc (.cells #[.string y.stream, .int .i64 y.expect, .int .i64 y.session, .int .i64 y.seq, .slice ta y.events.length tc] 24)) X) := fun X hX => by
              obtain ⟨u0, u1, u2, u3, u4⟩ := box5 hX
              have hX2 := hb5.trans ((bx_below hX).mono hb5.size)
              have hc : ∀ o v, wr.cell? ⟨g, o, none⟩ = some v → X.cell? ⟨g, o, none⟩ = some v := fun o v hv => (hX2.cell (p := ⟨g, o, none⟩) hg2).trans hv
              exact ⟨u0, u1, u2, u3, u4, hc _ _ d0, hc _ _ d1, hc _ _ d2, hc _ _ d3, hc _ _ d4, hX⟩
            have HROW := Lib.hid hrow
            have hkeep : ∀ X X', (X.cell? ⟨w5.heap.size, 0, none⟩ = some (.string y.stream) ∧ X.cell? ⟨w5.heap.size, 1, none⟩ = some (.int .i64 y.expect) ∧ X.cell? ⟨w5.heap.size, 2, none⟩ = some (.int .i64 y.session) ∧ X.cell? ⟨w5.heap.size, 3, none⟩ = some (.int .i64 y.seq) ∧ X.cell? ⟨w5.heap.size, 4, none⟩ = some (.slice ta y.events.length tc) ∧ X.cell? ⟨g, k * 5, none⟩ = some (.string y.stream) ∧ X.cell? ⟨g, k * 5 + 1, none⟩ = some (.int .i64 y.expect) ∧ X.cell? ⟨g, k * 5 + 2, none⟩ = some (.int .i64 y.session) ∧ X.cell? ⟨g, k * 5 + 3, none⟩ = some (.int .i64 y.seq) ∧ X.cell? ⟨g, k * 5 + 4, none⟩ = some (.slice ea y.events.length ec) ∧ Below (w5.heap.size + 1) (w5.alloc (.cells #[.string y.stream, .int .i64 y.expect, .int .i64 y.session, .int .i64 y.seq, .slice ta y.events.length tc] 24)) X) → Below X.heap.size X X' → (X'.cell? ⟨w5.heap.size, 0, none⟩ = some (.string y.stream) ∧ X'.cell? ⟨w5.heap.size, 1, none⟩ = some (.int .i64 y.expect) ∧ X'.cell? ⟨w5.heap.size, 2, none⟩ = some (.int .i64 y.session) ∧ X'.cell? ⟨w5.heap.size, 3, none⟩ = some (.int .i64 y.seq) ∧ X'.cell? ⟨w5.heap.size, 4, none⟩ = some (.slice ta y.events.length tc) ∧ X'.cell? ⟨g, k * 5, none⟩ = some (.string y.stream) ∧ X'.cell? ⟨g, k * 5 + 1, none⟩ = some (.int .i64 y.expect) ∧ X'.cell? ⟨g, k * 5 + 2, none⟩ = some (.int .i64 y.session) ∧ X'.cell? ⟨g, k * 5 + 3, none⟩ = some (.int .i64 y.seq) ∧ X'.cell? ⟨g, k * 5 + 4, none⟩ = some (.slice ea y.events.length ec) ∧ Below (w5.heap.size + 1) (w5.alloc (.cells #[.string y.stream, .int .i64 y.expect, .int .i64 y.session, .int .i64 y.seq, .slice ta y.events.length tc] 24)) X') := fun X X' h k => HROW.out X' (bx_more h.2.2.2.2.2.2.2.2.2.2 k)
            have HKEEP := Lib.hid hkeep
            have hlow : ∀ X, (X.cell? ⟨w5.heap.size, 0, none⟩ = some (.string y.stream) ∧ X.cell? ⟨w5.heap.size, 1, none⟩ = some (.int .i64 y.expect) ∧ X.cell? ⟨w5.heap.size, 2, none⟩ = some (.int .i64 y.session) ∧ X.cell? ⟨w5.heap.size, 3, none⟩ = some (.int .i64 y.seq) ∧ X.cell? ⟨w5.heap.size, 4, none⟩ = some (.slice ta y.events.length tc) ∧ X.cell? ⟨g, k * 5, none⟩ = some (.string y.stream) ∧ X.cell? ⟨g, k * 5 + 1, none⟩ = some (.int .i64 y.expect) ∧ X.cell? ⟨g, k * 5 + 2, none⟩ = some (.int .i64 y.session) ∧ X.cell? ⟨g, k * 5 + 3, none⟩ = some (.int .i64 y.seq) ∧ X.cell? ⟨g, k * 5 + 4, none⟩ = some (.slice ea y.events.length ec) ∧ Below (w5.heap.size + 1) (w5.alloc (.cells #[.string y.stream, .int .i64 y.expect, .int .i64 y.session, .int .i64 y.seq, .slice ta y.events.length tc] 24)) X) → Below w5.heap.size w5 X := fun X h => bx_below h.2.2.2.2.2.2.2.2.2.2
            have HLOW := Lib.hid hlow
            have CS1 := Lib.hid (fun (X : World) (hX : Below w5.heap.size w5 X) => same_any w5.heap.size (.agg #[.string y.stream, .int .i64 y.expect, .int .i64 y.session, .int .i64 y.seq, .slice ta y.events.length tc]) (.agg #[.string y.stream, .int .i64 y.expect, .int .i64 y.session, .int .i64 y.seq, .slice ea y.events.length ec]) y y true ⟨fun _ => rfl, fun _ => rfl⟩ X ⟨_, rfl, HTV.out.keep hX (Nat.le_refl _)⟩ ⟨_, rfl, (HEX.out.keep (bstep (bstep HB1.out HBr.out) (bstep hb5' hX)) (Nat.le_refl _)).up (Nat.le_trans (bstep HB1.out HBr.out).size hb5'.size)⟩ hX.size)
            have CS2 := Lib.hid (fun (X : World) (hX : Below w5.heap.size w5 X) => same_any w5.heap.size (.agg #[.string y.stream, .int .i64 y.expect, .int .i64 y.session, .int .i64 y.seq, .slice ea y.events.length ec]) (.agg #[.string y.stream, .int .i64 y.expect, .int .i64 y.session, .int .i64 y.seq, .slice ta y.events.length tc]) y y true ⟨fun _ => rfl, fun _ => rfl⟩ X ⟨_, rfl, (HEX.out.keep (bstep (bstep HB1.out HBr.out) (bstep hb5' hX)) (Nat.le_refl _)).up (Nat.le_trans (bstep HB1.out HBr.out).size hb5'.size)⟩ ⟨_, rfl, HTV.out.keep hX (Nat.le_refl _)⟩ hX.size)
            have hh := HROW.out _ bx5.drew
            clear hrow hkeep hlow d0 d1 d2 d3 d4
            go_wp2_with fail
            go_region_held3 (fun X => X.cell? ⟨w5.heap.size, 0, none⟩ = some (.string y.stream) ∧ X.cell? ⟨w5.heap.size, 1, none⟩ = some (.int .i64 y.expect) ∧ X.cell? ⟨w5.heap.size, 2, none⟩ = some (.int .i64 y.session) ∧ X.cell? ⟨w5.heap.size, 3, none⟩ = some (.int .i64 y.seq) ∧ X.cell? ⟨w5.heap.size, 4, none⟩ = some (.slice ta y.events.length tc) ∧ X.cell? ⟨g, k * 5, none⟩ = some (.string y.stream) ∧ X.cell? ⟨g, k * 5 + 1, none⟩ = some (.int .i64 y.expect) ∧ X.cell? ⟨g, k * 5 + 2, none⟩ = some (.int .i64 y.session) ∧ X.cell? ⟨g, k * 5 + 3, none⟩ = some (.int .i64 y.seq) ∧ X.cell? ⟨g, k * 5 + 4, none⟩ = some (.slice ea y.events.length ec) ∧ Below (w5.heap.size + 1) (w5.alloc (.cells #[.string y.stream, .int .i64 y.expect, .int .i64 y.session, .int .i64 y.seq, .slice ta y.events.length tc] 24)) X) (first | exact hh | exact HKEEP.out _ _ (by assumption) (by assumption))
              (first
                | ((with_reducible refine (CS1.out _ ?_).mono ?_); exact HLOW.out _ (by assumption); rintro r w6 ⟨rfl, hb6⟩)
                | ((with_reducible refine (CS2.out _ ?_).mono ?_); exact HLOW.out _ (by assumption); rintro r w7 ⟨rfl, hb7⟩))
            go_wp2_with fail
            go_roundw
            case rel => exact ⟨k + 1, by omega, by go_num, by rw [HS2.out], bstep hb5' (HLOW.out _ (by assumption))⟩
            case measure => simp [intOf]; omega
          · have i2 : ¬ (k : Int) < (P.length : Int) := by omega
            have hnil : rowsL ((P.map (·.1)).drop k) = [] := by
              rw [List.drop_of_length_le (by simp; omega)]
              rfl
            rw [hnil]
            have gE : (bstr []).toList.isEmpty = true := by rw [ByteArray.toList_eq]; rfl
            clear hnil
            go_wp2_with fail
            go_ret
            exact ⟨rfl, bstep (bstep HB1.out HBr.out) hbk⟩
end Go.Proofs.YtcgolhaiciffeaaDoor
