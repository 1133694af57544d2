/-
  The walk of bucketlinelaw5.EventBack. Printed by gen_evlaw5.py of this claim's writer.
-/
import Derived.Test.YtcgolhaiciffeaaDoorEvSame
import Derived.Test.YtcgolhaiciffeaaDoorEvBack2
namespace Go.Proofs.YtcgolhaiciffeaaDoor
open Go.RowKit

theorem box25 {w X : World} {a0 a1 a2 a3 a4 c0 c1 : Value} {t t' : TypeId} (hb : Below (w.heap.size + 2) ((w.alloc (.cells #[c0, c1] t')).alloc (.cells #[a0, a1, a2, a3, a4] t)) X) :
    (X.cell? ⟨w.heap.size + 1, 0, none⟩ = some a0 ∧ X.cell? ⟨w.heap.size + 1, 1, none⟩ = some a1 ∧ X.cell? ⟨w.heap.size + 1, 2, none⟩ = some a2 ∧ X.cell? ⟨w.heap.size + 1, 3, none⟩ = some a3 ∧ X.cell? ⟨w.heap.size + 1, 4, none⟩ = some a4) ∧
    X.cell? ⟨w.heap.size, 0, none⟩ = some c0 ∧ X.cell? ⟨w.heap.size, 1, none⟩ = some c1 :=
  ⟨⟨(hb.cell (p := ⟨w.heap.size + 1, 0, none⟩) (by simp)).trans (by simp), (hb.cell (p := ⟨w.heap.size + 1, 1, none⟩) (by simp)).trans (by simp), (hb.cell (p := ⟨w.heap.size + 1, 2, none⟩) (by simp)).trans (by simp),
    (hb.cell (p := ⟨w.heap.size + 1, 3, none⟩) (by simp)).trans (by simp), (hb.cell (p := ⟨w.heap.size + 1, 4, none⟩) (by simp)).trans (by simp)⟩,
    (hb.cell (p := ⟨w.heap.size, 0, none⟩) (by simp)).trans (by simp), (hb.cell (p := ⟨w.heap.size, 1, none⟩) (by simp)).trans (by simp)⟩
theorem bz_alloc {w X : World} {o o' : Obj} (h : Below (w.heap.size + 2) ((w.alloc o).alloc o') X) (o2 : Obj) : Below (w.heap.size + 2) ((w.alloc o).alloc o') (X.alloc o2) := h.alloc (bz_size h) o2
theorem takeE_str (s : ByteArray) (l : List UInt8) (hs : s.data.toList = l) (v : EV) (l' : List UInt8) (e' : Nat) (h : takeE l = (v, l', e')) (hl : l.length ≤ maxLen) (w : World) (hT : Tabs w) :
    Calls Tryd.prog 22 #[.string s] w fun r w' => r = .returned (.tuple #[.agg #[.string v.kind, .string v.data], .string (bstr l'), .int .i64 e']) ∧ Below w.heap.size w w' := by
  have e : s = bstr l := by rw [← hs]; rfl
  rw [e]
  exact takeE_any l v l' e' h hl w hT
theorem takeB_str (s : ByteArray) (l : List UInt8) (hs : s.data.toList = l) (v : BW) (l' : List UInt8) (e' : Nat) (h : takeB l = (v, l', e')) (hl : l.length ≤ maxLen) (w : World) (hT : Tabs w) :
    Calls Tryd.prog 21 #[.string s] w fun r w' => ∃ lv, r = .returned (.tuple #[.agg #[.string v.stream, .int .i64 v.expect, .int .i64 v.session, .int .i64 v.seq, lv], .string (bstr l'), .int .i64 e']) ∧ IsEvents w'.heap.size w' lv v.events ∧ Below w.heap.size w w' := by
  have e : s = bstr l := by rw [← hs]; rfl
  rw [e]
  exact takeB_any l v l' e' h hl w hT
theorem less_one {p : ByteArray} (h : 0 < p.size) (h2 : p.size ≤ 1000000) : ∃ k : Nat, (p.size : Int) - 1 = (k : Int) ∧ IntKind.i64.wrap (k : Int) = (k : Int) ∧ (0 : Int) ≤ (k : Int) ∧ (k : Int) ≤ (p.size : Int) ∧ p.extract 0 k = bstr p.data.toList.dropLast := by
  have e1 : (p.size : Int) - 1 = ((p.size - 1 : Nat) : Int) := by omega
  refine ⟨p.size - 1, e1, by rw [IntKind.wrap_i64]; omega, by omega, by omega, ?_⟩
  have h3 := bstr_take p.data.toList (p.size - 1)
  rw [bstr_of] at h3
  rw [h3, List.dropLast_eq_take, size_listE]
theorem putE_ne {v : EV} (h : rightE v = true) : 0 < (putE v).size := by
  rw [putE, if_pos h, ← size_listE]
  exact List.length_pos_iff.2 (bytesE_ne v)
theorem putB_ne {b : BW} (h : fitsB b = 0) : 0 < (putB b).size := by
  rw [← size_listE, putB_list h]
  have h5 := (wrong_not (fits0' h).1).2.2.2.2.2
  have h6 := bodyL_ne (l := b.events) (by intro e; rw [e] at h5; simp at h5)
  have h7 := List.length_pos_iff.2 h6
  rw [List.length_append]
  omega
theorem putB_size {b : BW} (h : LightB b) : (putB b).size ≤ 20000 := by
  unfold putB
  split
  · rw [bstr_size, List.length_append, size_listE]
    have h1 := headB_size h
    have h2 := bodyL_size h.e
    have h3 := h.n
    omega
  · exact Nat.zero_le _
theorem putE_size {v : EV} (h : LightE v) : (putE v).size ≤ 812 := by
  unfold putE
  split
  · exact bytesE_size h
  · exact Nat.zero_le _

set_option maxRecDepth 100000 in
set_option maxHeartbeats 3200000 in
theorem walkEventBack (B : Nat) (v : Value) (b : BW) (e : EV) (more : ByteArray) (W : World) (h : IsBatch B W v b) (hB : B ≤ W.heap.size) (hT : Tabs W) :
    Calls Tryd.prog 8 #[.agg #[.string e.kind, .string e.data], v, .string more] W fun r w' => r = .returned (.bool true) ∧ Below W.heap.size W w' := by
  have HV := Lib.hid h
  obtain ⟨lv, rfl, hl⟩ := h
  have HL := Lib.hid hl
  obtain ⟨a, cap, rfl⟩ := hl.form
  have bz0 : Below (W.heap.size + 2) ((W.alloc (.cells #[.string e.kind, .string e.data] 26)).alloc (.cells #[.string b.stream, .int .i64 b.expect, .int .i64 b.session, .int .i64 b.seq, .slice a b.events.length cap] 24)) ((W.alloc (.cells #[.string e.kind, .string e.data] 26)).alloc (.cells #[.string b.stream, .int .i64 b.expect, .int .i64 b.session, .int .i64 b.seq, .slice a b.events.length cap] 24)) := Below.refl _ _
  have BZ0 := Lib.hid bz0
  have HT := Lib.hid hT
  obtain ⟨q, hq⟩ := lightQ b
  have CL := Lib.hid (fun (X : World) (hX : Below W.heap.size W X) => light_any B _ b q hq X (HV.out.keep hX hB) (Nat.le_trans hB hX.size))
  clear hl bz0 hT
  cases q with
  | false =>
    clear hq
    go_enter Tryd.func8, Tryd.ntmps8
    go_wp2_with fail
    refine (shown_any _ (tabs_below HT.out (bz_below BZ0.out))).mono ?_
    rintro r w1 ⟨rfl, hb1⟩
    have bz1 := bz_more BZ0.out hb1
    obtain ⟨⟨y0, y1, y2, y3, y4⟩, x0, x1⟩ := box25 bz1
    go_wp2_with fail
    refine (CL.out _ (bz_below bz1)).mono ?_
    rintro r w2 ⟨rfl, hb2⟩
    have bz2 := bz_more bz1 hb2
    clear y0 y1 y2 y3 y4 x0 x1
    obtain ⟨⟨y0, y1, y2, y3, y4⟩, x0, x1⟩ := box25 bz2
    go_wp2_with fail
    go_ret
    exact ⟨rfl, bz_below bz2⟩
  | true =>
    have hLB := hq.1 rfl
    clear hq
    by_cases h1 : 300 < e.kind.size
    · have g1 : (300 : Int) < (e.kind.size : Int) := by omega
      clear hLB
      go_enter Tryd.func8, Tryd.ntmps8
      go_wp2_with fail
      refine (shown_any _ (tabs_below HT.out (bz_below BZ0.out))).mono ?_
      rintro r w1 ⟨rfl, hb1⟩
      have bz1 := bz_more BZ0.out hb1
      obtain ⟨⟨y0, y1, y2, y3, y4⟩, x0, x1⟩ := box25 bz1
      go_wp2_with fail
      refine (CL.out _ (bz_below bz1)).mono ?_
      rintro r w2 ⟨rfl, hb2⟩
      have bz2 := bz_more bz1 hb2
      clear y0 y1 y2 y3 y4 x0 x1
      obtain ⟨⟨y0, y1, y2, y3, y4⟩, x0, x1⟩ := box25 bz2
      go_wp2_with fail
      go_ret
      exact ⟨rfl, bz_below bz2⟩
    · have g1 : ¬ (300 : Int) < (e.kind.size : Int) := by omega
      by_cases h2 : 500 < e.data.size
      · have g2 : (500 : Int) < (e.data.size : Int) := by omega
        clear hLB
        go_enter Tryd.func8, Tryd.ntmps8
        go_wp2_with fail
        refine (shown_any _ (tabs_below HT.out (bz_below BZ0.out))).mono ?_
        rintro r w1 ⟨rfl, hb1⟩
        have bz1 := bz_more BZ0.out hb1
        obtain ⟨⟨y0, y1, y2, y3, y4⟩, x0, x1⟩ := box25 bz1
        go_wp2_with fail
        refine (CL.out _ (bz_below bz1)).mono ?_
        rintro r w2 ⟨rfl, hb2⟩
        have bz2 := bz_more bz1 hb2
        clear y0 y1 y2 y3 y4 x0 x1
        obtain ⟨⟨y0, y1, y2, y3, y4⟩, x0, x1⟩ := box25 bz2
        go_wp2_with fail
        go_ret
        exact ⟨rfl, bz_below bz2⟩
      · have g2 : ¬ (500 : Int) < (e.data.size : Int) := by omega
        by_cases h3 : 300 < more.size
        · have g3 : (300 : Int) < (more.size : Int) := by omega
          clear hLB
          go_enter Tryd.func8, Tryd.ntmps8
          go_wp2_with fail
          refine (shown_any _ (tabs_below HT.out (bz_below BZ0.out))).mono ?_
          rintro r w1 ⟨rfl, hb1⟩
          have bz1 := bz_more BZ0.out hb1
          obtain ⟨⟨y0, y1, y2, y3, y4⟩, x0, x1⟩ := box25 bz1
          go_wp2_with fail
          refine (CL.out _ (bz_below bz1)).mono ?_
          rintro r w2 ⟨rfl, hb2⟩
          have bz2 := bz_more bz1 hb2
          clear y0 y1 y2 y3 y4 x0 x1
          obtain ⟨⟨y0, y1, y2, y3, y4⟩, x0, x1⟩ := box25 bz2
          go_wp2_with fail
          go_ret
          exact ⟨rfl, bz_below bz2⟩
        · have g3 : ¬ (300 : Int) < (more.size : Int) := by omega
          have hLE : LightE e := ⟨by omega, by omega⟩
          obtain ⟨c, hc⟩ : ∃ c, fitsB b = c := ⟨_, rfl⟩
          obtain ⟨pb, hpb⟩ : ∃ c, putB b = c := ⟨_, rfl⟩
          obtain ⟨q, hq⟩ : ∃ c, rightE e = c := ⟨_, rfl⟩
          obtain ⟨pe, hpe⟩ : ∃ c, putE e = c := ⟨_, rfl⟩
          have CF := Lib.hid (fun (X : World) (hX : Below W.heap.size W X) => fits_any B _ b c hc X (HV.out.keep hX hB) (Nat.le_trans hB hX.size) (tabs_below HT.out hX))
          have CPB := Lib.hid (fun (X : World) (hX : Below W.heap.size W X) => putB_any B _ b pb hpb X (HV.out.keep hX hB) (Nat.le_trans hB hX.size) (tabs_below HT.out hX) hLB)
          have CR := Lib.hid (fun (X : World) (hX : Below W.heap.size W X) => right_any e q hq X (tabs_below HT.out hX))
          have CPE := Lib.hid (fun (X : World) (hX : Below W.heap.size W X) => putE_any e hLE pe hpe X (tabs_below HT.out hX))
          have sb := putB_size hLB
          have se := putE_size hLE
          rw [hpb] at sb
          rw [hpe] at se
          by_cases hc0 : c = 0
          · subst hc0
            obtain ⟨kb, j1, j2, j3, j4, hyb⟩ := less_one (p := pb) (by rw [← hpb]; exact putB_ne hc) (by omega)
            obtain ⟨⟨yv, yr, ye⟩, hy⟩ : ∃ x, takeB pb.data.toList.dropLast = x := ⟨_, rfl⟩
            obtain rfl : ye = 3 := by have := takeB_short hc; rw [hpb, hy] at this; exact this
            have aB : ∀ X : World, (Op.stringOp .add pb more).run Tryd.prog X = .ok (.string (pb ++ more)) X := fun X => run_string_add_sum (P := Tryd.prog) (w := X) _ _ (by omega)
            have hbm : bstr more.data.toList = more := rfl
            have CB1 := Lib.hid (fun (X : World) (hX : Below W.heap.size W X) => takeB_str (pb ++ more) (pb.data.toList ++ more.data.toList) (list_addE _ _) b more.data.toList 0 (by rw [← hpb]; exact takeB_put hc _) (by rw [List.length_append, size_listE, size_listE]; unfold maxLen; omega) X (tabs_below HT.out hX))
            have CB2 := Lib.hid (fun (X : World) (hX : Below W.heap.size W X) => takeB_str (pb.extract 0 kb) pb.data.toList.dropLast (by rw [hyb]; rfl) yv yr 3 hy (by rw [List.length_dropLast, size_listE]; unfold maxLen; omega) X (tabs_below HT.out hX))
            cases q with
            | false =>
              clear hLB hLE hpb hpe hc hq hy hyb sb se h1 h2 h3
              go_enter Tryd.func8, Tryd.ntmps8
              go_wp2_with fail
              refine (shown_any _ (tabs_below HT.out (bz_below BZ0.out))).mono ?_
              rintro r w1 ⟨rfl, hb1⟩
              have bz1 := bz_more BZ0.out hb1
              obtain ⟨⟨y0, y1, y2, y3, y4⟩, x0, x1⟩ := box25 bz1
              go_wp2_with fail
              refine (CL.out _ (bz_below bz1)).mono ?_
              rintro r w2 ⟨rfl, hb2⟩
              have bz2 := bz_more bz1 hb2
              clear y0 y1 y2 y3 y4 x0 x1
              obtain ⟨⟨y0, y1, y2, y3, y4⟩, x0, x1⟩ := box25 bz2
              go_wp2_with fail
              refine (CR.out _ (bz_below bz2)).mono ?_
              rintro r w3 ⟨rfl, hb3⟩
              have bz3 := bz_more bz2 hb3
              clear y0 y1 y2 y3 y4 x0 x1
              obtain ⟨⟨y0, y1, y2, y3, y4⟩, x0, x1⟩ := box25 bz3
              go_wp2_with fail
              refine (CF.out _ (bz_below bz3)).mono ?_
              rintro r w4 ⟨rfl, hb4⟩
              have bz4 := bz_more bz3 hb4
              clear y0 y1 y2 y3 y4 x0 x1
              obtain ⟨⟨y0, y1, y2, y3, y4⟩, x0, x1⟩ := box25 bz4
              go_wp2_with fail
              refine (CPB.out _ (bz_below bz4)).mono ?_
              rintro r w5 ⟨rfl, hb5⟩
              have bz5 := bz_more bz4 hb5
              clear y0 y1 y2 y3 y4 x0 x1
              obtain ⟨⟨y0, y1, y2, y3, y4⟩, x0, x1⟩ := box25 bz5
              go_wp2_with fail
              refine (CB1.out _ (bz_below bz5)).mono ?_
              rintro r w6 ⟨lv, rfl, hlv, hb6⟩
              have bz6' := bz_more bz5 hb6
              have HLV := Lib.hid hlv
              obtain ⟨la, lc, rfl⟩ := hlv.form
              clear hlv
              have bz6 := bz_alloc bz6' (.cells #[.string b.stream, .int .i64 b.expect, .int .i64 b.session, .int .i64 b.seq, .slice la b.events.length lc] 24)
              have bn6 := bx_new (w := w6) (.cells #[.string b.stream, .int .i64 b.expect, .int .i64 b.session, .int .i64 b.seq, .slice la b.events.length lc] 24)
              clear y0 y1 y2 y3 y4 x0 x1
              go_wp2_with fail
              refine (CB2.out _ (bz_below bz6)).mono ?_
              rintro r w7 ⟨lu, rfl, hlu, hb7⟩
              obtain ⟨ua, uc, rfl⟩ := hlu.form
              clear hlu
              have bz7' := bz_more bz6 hb7
              have bn7' := bx_more bn6 hb7
              have bz7 := bz_alloc bz7' (.cells #[.string yv.stream, .int .i64 yv.expect, .int .i64 yv.session, .int .i64 yv.seq, .slice ua yv.events.length uc] 24)
              have bn7 := bx_alloc bn7' (.cells #[.string yv.stream, .int .i64 yv.expect, .int .i64 yv.session, .int .i64 yv.seq, .slice ua yv.events.length uc] 24)
              obtain ⟨u0, u1, u2, u3, u4⟩ := box5 bn7'
              have lt6 := bx_lt bn7'
              obtain ⟨⟨y0, y1, y2, y3, y4⟩, x0, x1⟩ := box25 bz7'
              have ls6 := bz_size bz7'
              have ln16 : W.heap.size < w7.heap.size := by omega
              have ln26 : W.heap.size + 1 < w7.heap.size := by omega
              have ln36 : W.heap.size ≠ w7.heap.size := by omega
              have ln46 : W.heap.size + 1 ≠ w7.heap.size := by omega
              have ln56 : w6.heap.size ≠ w7.heap.size := by omega
              have CS1 := Lib.hid (fun (X : World) (hX : Below w6.heap.size w6 X) (hX0 : Below W.heap.size W X) => sameBatch_any w6.heap.size (.agg #[.string b.stream, .int .i64 b.expect, .int .i64 b.session, .int .i64 b.seq, .slice la b.events.length lc]) _ b b true ⟨fun _ => rfl, fun _ => rfl⟩ X ⟨_, rfl, HLV.out.keep hX (Nat.le_refl _)⟩ ((HV.out.keep hX0 hB).up (Nat.le_trans hB (bz_below bz6').size)) hX.size)
              have CS2 := Lib.hid (fun (X : World) (hX : Below w6.heap.size w6 X) (hX0 : Below W.heap.size W X) => same_any w6.heap.size (.agg #[.string b.stream, .int .i64 b.expect, .int .i64 b.session, .int .i64 b.seq, .slice la b.events.length lc]) _ b b true ⟨fun _ => rfl, fun _ => rfl⟩ X ⟨_, rfl, HLV.out.keep hX (Nat.le_refl _)⟩ ((HV.out.keep hX0 hB).up (Nat.le_trans hB (bz_below bz6').size)) hX.size)
              go_wp2_with fail
              refine (CS1.out _ (bx_below bn7) (bz_below bz7)).mono ?_
              rintro r w8 ⟨rfl, hb8⟩
              have bz8 := bz_more bz7 hb8
              have bn8 := bx_more bn7 hb8
              clear u0 u1 u2 u3 u4
              clear y0 y1 y2 y3 y4 x0 x1
              obtain ⟨⟨y0, y1, y2, y3, y4⟩, x0, x1⟩ := box25 bz8
              obtain ⟨u0, u1, u2, u3, u4⟩ := box5 bn8
              go_wp2_with fail
              refine (CS2.out _ (bx_below bn8) (bz_below bz8)).mono ?_
              rintro r w9 ⟨rfl, hb9⟩
              have bz9 := bz_more bz8 hb9
              go_wp2_with fail
              go_ret
              exact ⟨rfl, bz_below bz9⟩
            | true =>
              obtain ⟨ke, i1, i2, i3, i4, hxe⟩ := less_one (p := pe) (by rw [← hpe]; exact putE_ne hq) (by omega)
              obtain ⟨⟨xv, xr, xe⟩, hx⟩ : ∃ x, takeE pe.data.toList.dropLast = x := ⟨_, rfl⟩
              obtain rfl : xe = 3 := by have := takeE_short hq; rw [hpe, hx] at this; exact this
              have aE : ∀ X : World, (Op.stringOp .add pe more).run Tryd.prog X = .ok (.string (pe ++ more)) X := fun X => run_string_add_sum (P := Tryd.prog) (w := X) _ _ (by omega)
              have hbm : bstr more.data.toList = more := rfl
              have CE1 := Lib.hid (fun (X : World) (hX : Below W.heap.size W X) => takeE_str (pe ++ more) (pe.data.toList ++ more.data.toList) (list_addE _ _) e more.data.toList 0 (by rw [← hpe]; exact takeE_put hq _) (by rw [List.length_append, size_listE, size_listE]; unfold maxLen; omega) X (tabs_below HT.out hX))
              have CE2 := Lib.hid (fun (X : World) (hX : Below W.heap.size W X) => takeE_str (pe.extract 0 ke) pe.data.toList.dropLast (by rw [hxe]; rfl) xv xr 3 hx (by rw [List.length_dropLast, size_listE]; unfold maxLen; omega) X (tabs_below HT.out hX))
              clear hLB hLE hpb hpe hc hq hy hyb hx hxe sb se h1 h2 h3
              go_enter Tryd.func8, Tryd.ntmps8
              go_wp2_with fail
              refine (shown_any _ (tabs_below HT.out (bz_below BZ0.out))).mono ?_
              rintro r w1 ⟨rfl, hb1⟩
              have bz1 := bz_more BZ0.out hb1
              obtain ⟨⟨y0, y1, y2, y3, y4⟩, x0, x1⟩ := box25 bz1
              go_wp2_with fail
              refine (CL.out _ (bz_below bz1)).mono ?_
              rintro r w2 ⟨rfl, hb2⟩
              have bz2 := bz_more bz1 hb2
              clear y0 y1 y2 y3 y4 x0 x1
              obtain ⟨⟨y0, y1, y2, y3, y4⟩, x0, x1⟩ := box25 bz2
              go_wp2_with fail
              refine (CR.out _ (bz_below bz2)).mono ?_
              rintro r w3 ⟨rfl, hb3⟩
              have bz3 := bz_more bz2 hb3
              clear y0 y1 y2 y3 y4 x0 x1
              obtain ⟨⟨y0, y1, y2, y3, y4⟩, x0, x1⟩ := box25 bz3
              go_wp2_with fail
              refine (CPE.out _ (bz_below bz3)).mono ?_
              rintro r w4 ⟨rfl, hb4⟩
              have bz4 := bz_more bz3 hb4
              clear y0 y1 y2 y3 y4 x0 x1
              obtain ⟨⟨y0, y1, y2, y3, y4⟩, x0, x1⟩ := box25 bz4
              go_wp2_with fail
              refine (CE1.out _ (bz_below bz4)).mono ?_
              rintro r w5 ⟨rfl, hb5⟩
              have bz5' := bz_more bz4 hb5
              have bz5 := bz_alloc bz5' (.cells #[.string e.kind, .string e.data] 26)
              have bn5 := bx_new (w := w5) (.cells #[.string e.kind, .string e.data] 26)
              clear y0 y1 y2 y3 y4 x0 x1
              go_wp2_with fail
              refine (CE2.out _ (bz_below bz5)).mono ?_
              rintro r w6 ⟨rfl, hb6⟩
              have bz6' := bz_more bz5 hb6
              have bn6' := bx_more bn5 hb6
              have bz6 := bz_alloc bz6' (.cells #[.string xv.kind, .string xv.data] 26)
              have bn6 := bx_alloc bn6' (.cells #[.string xv.kind, .string xv.data] 26)
              obtain ⟨u0, u1⟩ := box2 bn6'
              have lt5 := bx_lt bn6'
              obtain ⟨⟨y0, y1, y2, y3, y4⟩, x0, x1⟩ := box25 bz6'
              have ls5 := bz_size bz6'
              have ln15 : W.heap.size < w6.heap.size := by omega
              have ln25 : W.heap.size + 1 < w6.heap.size := by omega
              have ln35 : W.heap.size ≠ w6.heap.size := by omega
              have ln45 : W.heap.size + 1 ≠ w6.heap.size := by omega
              have ln55 : w5.heap.size ≠ w6.heap.size := by omega
              go_wp2_with fail
              clear u0 u1
              clear y0 y1 y2 y3 y4 x0 x1
              obtain ⟨⟨y0, y1, y2, y3, y4⟩, x0, x1⟩ := box25 bz6
              refine (CF.out _ (bz_below bz6)).mono ?_
              rintro r w7 ⟨rfl, hb7⟩
              have bz7 := bz_more bz6 hb7
              clear y0 y1 y2 y3 y4 x0 x1
              obtain ⟨⟨y0, y1, y2, y3, y4⟩, x0, x1⟩ := box25 bz7
              go_wp2_with fail
              refine (CPB.out _ (bz_below bz7)).mono ?_
              rintro r w8 ⟨rfl, hb8⟩
              have bz8 := bz_more bz7 hb8
              clear y0 y1 y2 y3 y4 x0 x1
              obtain ⟨⟨y0, y1, y2, y3, y4⟩, x0, x1⟩ := box25 bz8
              go_wp2_with fail
              refine (CB1.out _ (bz_below bz8)).mono ?_
              rintro r w9 ⟨lv, rfl, hlv, hb9⟩
              have bz9' := bz_more bz8 hb9
              have HLV := Lib.hid hlv
              obtain ⟨la, lc, rfl⟩ := hlv.form
              clear hlv
              have bz9 := bz_alloc bz9' (.cells #[.string b.stream, .int .i64 b.expect, .int .i64 b.session, .int .i64 b.seq, .slice la b.events.length lc] 24)
              have bn9 := bx_new (w := w9) (.cells #[.string b.stream, .int .i64 b.expect, .int .i64 b.session, .int .i64 b.seq, .slice la b.events.length lc] 24)
              clear y0 y1 y2 y3 y4 x0 x1
              go_wp2_with fail
              refine (CB2.out _ (bz_below bz9)).mono ?_
              rintro r w10 ⟨lu, rfl, hlu, hb10⟩
              obtain ⟨ua, uc, rfl⟩ := hlu.form
              clear hlu
              have bz10' := bz_more bz9 hb10
              have bn10' := bx_more bn9 hb10
              have bz10 := bz_alloc bz10' (.cells #[.string yv.stream, .int .i64 yv.expect, .int .i64 yv.session, .int .i64 yv.seq, .slice ua yv.events.length uc] 24)
              have bn10 := bx_alloc bn10' (.cells #[.string yv.stream, .int .i64 yv.expect, .int .i64 yv.session, .int .i64 yv.seq, .slice ua yv.events.length uc] 24)
              obtain ⟨u0, u1, u2, u3, u4⟩ := box5 bn10'
              have lt9 := bx_lt bn10'
              obtain ⟨⟨y0, y1, y2, y3, y4⟩, x0, x1⟩ := box25 bz10'
              have ls9 := bz_size bz10'
              have ln19 : W.heap.size < w10.heap.size := by omega
              have ln29 : W.heap.size + 1 < w10.heap.size := by omega
              have ln39 : W.heap.size ≠ w10.heap.size := by omega
              have ln49 : W.heap.size + 1 ≠ w10.heap.size := by omega
              have ln59 : w9.heap.size ≠ w10.heap.size := by omega
              have CS1 := Lib.hid (fun (X : World) (hX : Below w9.heap.size w9 X) (hX0 : Below W.heap.size W X) => sameBatch_any w9.heap.size (.agg #[.string b.stream, .int .i64 b.expect, .int .i64 b.session, .int .i64 b.seq, .slice la b.events.length lc]) _ b b true ⟨fun _ => rfl, fun _ => rfl⟩ X ⟨_, rfl, HLV.out.keep hX (Nat.le_refl _)⟩ ((HV.out.keep hX0 hB).up (Nat.le_trans hB (bz_below bz9').size)) hX.size)
              have CS2 := Lib.hid (fun (X : World) (hX : Below w9.heap.size w9 X) (hX0 : Below W.heap.size W X) => same_any w9.heap.size (.agg #[.string b.stream, .int .i64 b.expect, .int .i64 b.session, .int .i64 b.seq, .slice la b.events.length lc]) _ b b true ⟨fun _ => rfl, fun _ => rfl⟩ X ⟨_, rfl, HLV.out.keep hX (Nat.le_refl _)⟩ ((HV.out.keep hX0 hB).up (Nat.le_trans hB (bz_below bz9').size)) hX.size)
              go_wp2_with fail
              refine (CS1.out _ (bx_below bn10) (bz_below bz10)).mono ?_
              rintro r w11 ⟨rfl, hb11⟩
              have bz11 := bz_more bz10 hb11
              have bn11 := bx_more bn10 hb11
              clear u0 u1 u2 u3 u4
              clear y0 y1 y2 y3 y4 x0 x1
              obtain ⟨⟨y0, y1, y2, y3, y4⟩, x0, x1⟩ := box25 bz11
              obtain ⟨u0, u1, u2, u3, u4⟩ := box5 bn11
              go_wp2_with fail
              refine (CS2.out _ (bx_below bn11) (bz_below bz11)).mono ?_
              rintro r w12 ⟨rfl, hb12⟩
              have bz12 := bz_more bz11 hb12
              go_wp2_with fail
              go_ret
              exact ⟨rfl, bz_below bz12⟩
          · have gc : ((c : Int) != 0) = true := by simp; omega
            obtain rfl : ⟨#[]⟩ = pb := by rw [← hpb, putB, if_neg (by rw [hc]; exact hc0)]
            cases q with
            | false =>
              clear hLB hLE hpb hpe hc hq sb se h1 h2 h3
              go_enter Tryd.func8, Tryd.ntmps8
              go_wp2_with fail
              refine (shown_any _ (tabs_below HT.out (bz_below BZ0.out))).mono ?_
              rintro r w1 ⟨rfl, hb1⟩
              have bz1 := bz_more BZ0.out hb1
              obtain ⟨⟨y0, y1, y2, y3, y4⟩, x0, x1⟩ := box25 bz1
              go_wp2_with fail
              refine (CL.out _ (bz_below bz1)).mono ?_
              rintro r w2 ⟨rfl, hb2⟩
              have bz2 := bz_more bz1 hb2
              clear y0 y1 y2 y3 y4 x0 x1
              obtain ⟨⟨y0, y1, y2, y3, y4⟩, x0, x1⟩ := box25 bz2
              go_wp2_with fail
              refine (CR.out _ (bz_below bz2)).mono ?_
              rintro r w3 ⟨rfl, hb3⟩
              have bz3 := bz_more bz2 hb3
              clear y0 y1 y2 y3 y4 x0 x1
              obtain ⟨⟨y0, y1, y2, y3, y4⟩, x0, x1⟩ := box25 bz3
              go_wp2_with fail
              refine (CF.out _ (bz_below bz3)).mono ?_
              rintro r w4 ⟨rfl, hb4⟩
              have bz4 := bz_more bz3 hb4
              clear y0 y1 y2 y3 y4 x0 x1
              obtain ⟨⟨y0, y1, y2, y3, y4⟩, x0, x1⟩ := box25 bz4
              go_wp2_with fail
              refine (CPB.out _ (bz_below bz4)).mono ?_
              rintro r w5 ⟨rfl, hb5⟩
              have bz5 := bz_more bz4 hb5
              clear y0 y1 y2 y3 y4 x0 x1
              obtain ⟨⟨y0, y1, y2, y3, y4⟩, x0, x1⟩ := box25 bz5
              go_wp2_with fail
              go_ret
              exact ⟨rfl, bz_below bz5⟩
            | true =>
              obtain ⟨ke, i1, i2, i3, i4, hxe⟩ := less_one (p := pe) (by rw [← hpe]; exact putE_ne hq) (by omega)
              obtain ⟨⟨xv, xr, xe⟩, hx⟩ : ∃ x, takeE pe.data.toList.dropLast = x := ⟨_, rfl⟩
              obtain rfl : xe = 3 := by have := takeE_short hq; rw [hpe, hx] at this; exact this
              have aE : ∀ X : World, (Op.stringOp .add pe more).run Tryd.prog X = .ok (.string (pe ++ more)) X := fun X => run_string_add_sum (P := Tryd.prog) (w := X) _ _ (by omega)
              have hbm : bstr more.data.toList = more := rfl
              have CE1 := Lib.hid (fun (X : World) (hX : Below W.heap.size W X) => takeE_str (pe ++ more) (pe.data.toList ++ more.data.toList) (list_addE _ _) e more.data.toList 0 (by rw [← hpe]; exact takeE_put hq _) (by rw [List.length_append, size_listE, size_listE]; unfold maxLen; omega) X (tabs_below HT.out hX))
              have CE2 := Lib.hid (fun (X : World) (hX : Below W.heap.size W X) => takeE_str (pe.extract 0 ke) pe.data.toList.dropLast (by rw [hxe]; rfl) xv xr 3 hx (by rw [List.length_dropLast, size_listE]; unfold maxLen; omega) X (tabs_below HT.out hX))
              clear hLB hLE hpb hpe hc hq hx hxe sb se h1 h2 h3
              go_enter Tryd.func8, Tryd.ntmps8
              go_wp2_with fail
              refine (shown_any _ (tabs_below HT.out (bz_below BZ0.out))).mono ?_
              rintro r w1 ⟨rfl, hb1⟩
              have bz1 := bz_more BZ0.out hb1
              obtain ⟨⟨y0, y1, y2, y3, y4⟩, x0, x1⟩ := box25 bz1
              go_wp2_with fail
              refine (CL.out _ (bz_below bz1)).mono ?_
              rintro r w2 ⟨rfl, hb2⟩
              have bz2 := bz_more bz1 hb2
              clear y0 y1 y2 y3 y4 x0 x1
              obtain ⟨⟨y0, y1, y2, y3, y4⟩, x0, x1⟩ := box25 bz2
              go_wp2_with fail
              refine (CR.out _ (bz_below bz2)).mono ?_
              rintro r w3 ⟨rfl, hb3⟩
              have bz3 := bz_more bz2 hb3
              clear y0 y1 y2 y3 y4 x0 x1
              obtain ⟨⟨y0, y1, y2, y3, y4⟩, x0, x1⟩ := box25 bz3
              go_wp2_with fail
              refine (CPE.out _ (bz_below bz3)).mono ?_
              rintro r w4 ⟨rfl, hb4⟩
              have bz4 := bz_more bz3 hb4
              clear y0 y1 y2 y3 y4 x0 x1
              obtain ⟨⟨y0, y1, y2, y3, y4⟩, x0, x1⟩ := box25 bz4
              go_wp2_with fail
              refine (CE1.out _ (bz_below bz4)).mono ?_
              rintro r w5 ⟨rfl, hb5⟩
              have bz5' := bz_more bz4 hb5
              have bz5 := bz_alloc bz5' (.cells #[.string e.kind, .string e.data] 26)
              have bn5 := bx_new (w := w5) (.cells #[.string e.kind, .string e.data] 26)
              clear y0 y1 y2 y3 y4 x0 x1
              go_wp2_with fail
              refine (CE2.out _ (bz_below bz5)).mono ?_
              rintro r w6 ⟨rfl, hb6⟩
              have bz6' := bz_more bz5 hb6
              have bn6' := bx_more bn5 hb6
              have bz6 := bz_alloc bz6' (.cells #[.string xv.kind, .string xv.data] 26)
              have bn6 := bx_alloc bn6' (.cells #[.string xv.kind, .string xv.data] 26)
              obtain ⟨u0, u1⟩ := box2 bn6'
              have lt5 := bx_lt bn6'
              obtain ⟨⟨y0, y1, y2, y3, y4⟩, x0, x1⟩ := box25 bz6'
              have ls5 := bz_size bz6'
              have ln15 : W.heap.size < w6.heap.size := by omega
              have ln25 : W.heap.size + 1 < w6.heap.size := by omega
              have ln35 : W.heap.size ≠ w6.heap.size := by omega
              have ln45 : W.heap.size + 1 ≠ w6.heap.size := by omega
              have ln55 : w5.heap.size ≠ w6.heap.size := by omega
              go_wp2_with fail
              clear u0 u1
              clear y0 y1 y2 y3 y4 x0 x1
              obtain ⟨⟨y0, y1, y2, y3, y4⟩, x0, x1⟩ := box25 bz6
              refine (CF.out _ (bz_below bz6)).mono ?_
              rintro r w7 ⟨rfl, hb7⟩
              have bz7 := bz_more bz6 hb7
              clear y0 y1 y2 y3 y4 x0 x1
              obtain ⟨⟨y0, y1, y2, y3, y4⟩, x0, x1⟩ := box25 bz7
              go_wp2_with fail
              refine (CPB.out _ (bz_below bz7)).mono ?_
              rintro r w8 ⟨rfl, hb8⟩
              have bz8 := bz_more bz7 hb8
              clear y0 y1 y2 y3 y4 x0 x1
              obtain ⟨⟨y0, y1, y2, y3, y4⟩, x0, x1⟩ := box25 bz8
              go_wp2_with fail
              go_ret
              exact ⟨rfl, bz_below bz8⟩
end Go.Proofs.YtcgolhaiciffeaaDoor
