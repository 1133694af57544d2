/-
  The walk of bucketlinelaw5.EventOnce. Printed by gen_evlaw3.py of this claim's writer.
-/
import Derived.Test.YtcgolhaiciffeaaDoorEvShown
import Derived.Test.YtcgolhaiciffeaaDoorEvBack2
import Derived.Laws.StructEq
namespace Go.Proofs.YtcgolhaiciffeaaDoor
open Go.RowKit

theorem back_add {p : ByteArray} {l r : List UInt8} (h : l = p.data.toList ++ r) : p ++ bstr r = bstr l := by
  apply ext_listE
  rw [list_addE, bstr_list, bstr_list, h]
theorem box1b {w W : World} {a0 a1 a2 a3 a4 : Value} {t : TypeId} (hb : Below (w.heap.size + 1) (w.alloc (.cells #[a0, a1, a2, a3, a4] t)) W) :
    W.cell? ⟨w.heap.size, 0, none⟩ = some a0 ∧ W.cell? ⟨w.heap.size, 1, none⟩ = some a1 ∧ W.cell? ⟨w.heap.size, 2, none⟩ = some a2 ∧ W.cell? ⟨w.heap.size, 3, none⟩ = some a3 ∧ W.cell? ⟨w.heap.size, 4, none⟩ = some a4 := box5 hb

set_option maxRecDepth 100000 in
set_option maxHeartbeats 3200000 in
theorem walkEventOnce (l : List UInt8) (hl : l.length ≤ maxLen) (W : World) (hT : Tabs W) :
    Calls Tryd.prog 6 #[.string (bstr l)] W fun r w' => r = .returned (.bool true) ∧ Below W.heap.size W w' := by
  have HT := Lib.hid hT
  have hsz := bstr_size l
  by_cases h0 : 3000 < l.length
  · have g0 : (3000 : Int) < ((bstr l).size : Int) := by omega
    clear hT hsz
    go_enter Tryd.func6, Tryd.ntmps6
    go_wp2_with fail
    refine (shown_any _ HT.out).mono ?_
    rintro r w1 ⟨rfl, hb1⟩
    go_wp2_with fail
    go_ret
    exact ⟨rfl, hb1⟩
  · have g0 : ¬ (3000 : Int) < ((bstr l).size : Int) := by omega
    obtain ⟨⟨b, rb, eb⟩, hb⟩ : ∃ x, takeB l = x := ⟨_, rfl⟩
    obtain ⟨⟨v, re, ee⟩, he⟩ : ∃ x, takeE l = x := ⟨_, rfl⟩
    have CB := Lib.hid (fun (X : World) (hX : Below W.heap.size W X) => takeB_any l b rb eb hb hl X (tabs_below HT.out hX))
    have CE := Lib.hid (fun (X : World) (hX : Below W.heap.size W X) => takeE_any l v re ee he hl X (tabs_below HT.out hX))
    have HSZ := Lib.hid hsz
    obtain ⟨pb, hpb⟩ : ∃ x, putB b = x := ⟨_, rfl⟩
    obtain ⟨pe, hpe⟩ : ∃ x, putE v = x := ⟨_, rfl⟩
    clear hT hsz
    by_cases k1 : eb = 0
    · subst k1
      obtain ⟨f1, f2⟩ := takeB_ok hb
      rw [hpb] at f2
      have a1 : ∀ X : World, (Op.stringOp .add pb (bstr rb)).run Tryd.prog X = .ok (.string (bstr l)) X := fun X => by
        rw [← back_add f2]
        exact run_string_add_sum (P := Tryd.prog) (w := X) _ _ (by rw [bstr_size]; have := congrArg List.length f2; simp only [List.length_append, size_listE] at this; omega)
      have HFB := Lib.hid f1
      have HPB := Lib.hid hpb
      clear f1 f2 hpb hb
      by_cases k2 : ee = 0
      · subst k2
        obtain ⟨f1, f2⟩ := takeE_ok he
        rw [hpe] at f2
        have a2 : ∀ X : World, (Op.stringOp .add pe (bstr re)).run Tryd.prog X = .ok (.string (bstr l)) X := fun X => by
          rw [← back_add f2]
          exact run_string_add_sum (P := Tryd.prog) (w := X) _ _ (by rw [bstr_size]; have := congrArg List.length f2; simp only [List.length_append, size_listE] at this; omega)
        have HRE := Lib.hid f1
        have HPE := Lib.hid hpe
        have LE := Lib.hid (show LightE v from ⟨by have := (rightE_size f1).1; omega, by have := (rightE_size f1).2; omega⟩)
        clear f1 f2 hpe he
        go_enter Tryd.func6, Tryd.ntmps6
        go_wp2_with fail
        refine (shown_any _ HT.out).mono ?_
        rintro r w1 ⟨rfl, hb1⟩
        go_wp2_with fail
        refine (CB.out _ hb1).mono ?_
        rintro r w2 ⟨lv, rfl, hlv, hb2⟩
        have hb2' := bstep hb1 hb2
        have HLV := Lib.hid hlv
        obtain ⟨la, lc, rfl⟩ := hlv.form
        clear hlv
        go_wp2_with fail
        have CF := Lib.hid (fun (X : World) (hX : Below w2.heap.size w2 X) => fits_any w2.heap.size (.agg #[.string b.stream, .int .i64 b.expect, .int .i64 b.session, .int .i64 b.seq, .slice la b.events.length lc]) b 0 HFB.out X ⟨_, rfl, HLV.out.keep hX (Nat.le_refl _)⟩ hX.size (tabs_below HT.out (bstep hb2' hX)))
        have CP := Lib.hid (fun (X : World) (hX : Below w2.heap.size w2 X) => putB_any w2.heap.size (.agg #[.string b.stream, .int .i64 b.expect, .int .i64 b.session, .int .i64 b.seq, .slice la b.events.length lc]) b pb HPB.out X ⟨_, rfl, HLV.out.keep hX (Nat.le_refl _)⟩ hX.size (tabs_below HT.out (bstep hb2' hX)) (fits_light HFB.out))
        have bx2 := bx_new (w := w2) (.cells #[.string b.stream, .int .i64 b.expect, .int .i64 b.session, .int .i64 b.seq, .slice la b.events.length lc] 24)
        refine (CF.out _ (bx_below bx2)).mono ?_
        rintro r w3 ⟨rfl, hb3⟩
        have bx3 := bx_more bx2 hb3
        obtain ⟨y0, y1, y2, y3, y4⟩ := box5 bx3
        go_wp2_with fail
        refine (CP.out _ (bx_below bx3)).mono ?_
        rintro r w4 ⟨rfl, hb4⟩
        have bx4 := bx_more bx3 hb4
        have hbt := bstep hb2' (bx_below bx4)
        clear y0 y1 y2 y3 y4
        go_wp2_with fail
        refine (CE.out _ hbt).mono ?_
        rintro r w5 ⟨rfl, hb5⟩
        have hb5' := bstep hbt hb5
        have hbx := hb5'.alloc (show W.heap.size ≤ w5.heap.size from hb5'.size) (.cells #[.string v.kind, .string v.data] 26)
        go_wp2_with fail
        have CR := Lib.hid (fun (X : World) (hX : Below W.heap.size W X) => right_any v true HRE.out X (tabs_below HT.out hX))
        have CPE := Lib.hid (fun (X : World) (hX : Below W.heap.size W X) => putE_any v LE.out pe HPE.out X (tabs_below HT.out hX))
        refine (CR.out _ hbx).mono ?_
        rintro r w6 ⟨rfl, hb6⟩
        have u0 := (hb6.cell (p := ⟨w5.heap.size, 0, none⟩) (by simp)).trans (show _ = some (.string v.kind) by simp)
        have u1 := (hb6.cell (p := ⟨w5.heap.size, 1, none⟩) (by simp)).trans (show _ = some (.string v.data) by simp)
        go_wp2_with fail
        refine (CPE.out _ (bstep hbx hb6)).mono ?_
        rintro r w7 ⟨rfl, hb7⟩
        go_wp2_with fail
        go_ret
        exact ⟨rfl, bstep (bstep hbx hb6) hb7⟩
      · obtain ⟨rfl, rfl⟩ := takeE_bad he k2
        have g2 : ((ee : Int) != 0) = true := by simp; omega
        have g3 : ((ee : Int) == 0) = false := by simp; omega
        have gE : (bstr []).toList.isEmpty = true := by rw [ByteArray.toList_eq]; rfl
        clear he hpe
        go_enter Tryd.func6, Tryd.ntmps6
        go_wp2_with fail
        refine (shown_any _ HT.out).mono ?_
        rintro r w1 ⟨rfl, hb1⟩
        go_wp2_with fail
        refine (CB.out _ hb1).mono ?_
        rintro r w2 ⟨lv, rfl, hlv, hb2⟩
        have hb2' := bstep hb1 hb2
        have HLV := Lib.hid hlv
        obtain ⟨la, lc, rfl⟩ := hlv.form
        clear hlv
        go_wp2_with fail
        have CF := Lib.hid (fun (X : World) (hX : Below w2.heap.size w2 X) => fits_any w2.heap.size (.agg #[.string b.stream, .int .i64 b.expect, .int .i64 b.session, .int .i64 b.seq, .slice la b.events.length lc]) b 0 HFB.out X ⟨_, rfl, HLV.out.keep hX (Nat.le_refl _)⟩ hX.size (tabs_below HT.out (bstep hb2' hX)))
        have CP := Lib.hid (fun (X : World) (hX : Below w2.heap.size w2 X) => putB_any w2.heap.size (.agg #[.string b.stream, .int .i64 b.expect, .int .i64 b.session, .int .i64 b.seq, .slice la b.events.length lc]) b pb HPB.out X ⟨_, rfl, HLV.out.keep hX (Nat.le_refl _)⟩ hX.size (tabs_below HT.out (bstep hb2' hX)) (fits_light HFB.out))
        have bx2 := bx_new (w := w2) (.cells #[.string b.stream, .int .i64 b.expect, .int .i64 b.session, .int .i64 b.seq, .slice la b.events.length lc] 24)
        refine (CF.out _ (bx_below bx2)).mono ?_
        rintro r w3 ⟨rfl, hb3⟩
        have bx3 := bx_more bx2 hb3
        obtain ⟨y0, y1, y2, y3, y4⟩ := box5 bx3
        go_wp2_with fail
        refine (CP.out _ (bx_below bx3)).mono ?_
        rintro r w4 ⟨rfl, hb4⟩
        have bx4 := bx_more bx3 hb4
        have hbt := bstep hb2' (bx_below bx4)
        clear y0 y1 y2 y3 y4
        go_wp2_with fail
        refine (CE.out _ hbt).mono ?_
        rintro r w5 ⟨rfl, hb5⟩
        have hb5' := bstep hbt hb5
        have hbx := hb5'.alloc (show W.heap.size ≤ w5.heap.size from hb5'.size) (.cells #[.string ⟨#[]⟩, .string ⟨#[]⟩] 26)
        go_wp2_with fail
        go_ret
        exact ⟨rfl, hbx⟩
    · have g1 : ((eb : Int) == 0) = false := by simp; omega
      clear hb hpb
      by_cases k2 : ee = 0
      · subst k2
        obtain ⟨f1, f2⟩ := takeE_ok he
        rw [hpe] at f2
        have a2 : ∀ X : World, (Op.stringOp .add pe (bstr re)).run Tryd.prog X = .ok (.string (bstr l)) X := fun X => by
          rw [← back_add f2]
          exact run_string_add_sum (P := Tryd.prog) (w := X) _ _ (by rw [bstr_size]; have := congrArg List.length f2; simp only [List.length_append, size_listE] at this; omega)
        have HRE := Lib.hid f1
        have HPE := Lib.hid hpe
        have LE := Lib.hid (show LightE v from ⟨by have := (rightE_size f1).1; omega, by have := (rightE_size f1).2; omega⟩)
        clear f1 f2 hpe he
        go_enter Tryd.func6, Tryd.ntmps6
        go_wp2_with fail
        refine (shown_any _ HT.out).mono ?_
        rintro r w1 ⟨rfl, hb1⟩
        go_wp2_with fail
        refine (CB.out _ hb1).mono ?_
        rintro r w2 ⟨lv, rfl, hlv, hb2⟩
        have hb2' := bstep hb1 hb2
        have HLV := Lib.hid hlv
        obtain ⟨la, lc, rfl⟩ := hlv.form
        clear hlv
        go_wp2_with fail
        have hbt := bstep hb2' ((Below.refl w2.heap.size w2).alloc (Nat.le_refl _) (.cells #[.string b.stream, .int .i64 b.expect, .int .i64 b.session, .int .i64 b.seq, .slice la b.events.length lc] 24))
        refine (CE.out _ hbt).mono ?_
        rintro r w5 ⟨rfl, hb5⟩
        have hb5' := bstep hbt hb5
        have hbx := hb5'.alloc (show W.heap.size ≤ w5.heap.size from hb5'.size) (.cells #[.string v.kind, .string v.data] 26)
        go_wp2_with fail
        have CR := Lib.hid (fun (X : World) (hX : Below W.heap.size W X) => right_any v true HRE.out X (tabs_below HT.out hX))
        have CPE := Lib.hid (fun (X : World) (hX : Below W.heap.size W X) => putE_any v LE.out pe HPE.out X (tabs_below HT.out hX))
        refine (CR.out _ hbx).mono ?_
        rintro r w6 ⟨rfl, hb6⟩
        have u0 := (hb6.cell (p := ⟨w5.heap.size, 0, none⟩) (by simp)).trans (show _ = some (.string v.kind) by simp)
        have u1 := (hb6.cell (p := ⟨w5.heap.size, 1, none⟩) (by simp)).trans (show _ = some (.string v.data) by simp)
        go_wp2_with fail
        refine (CPE.out _ (bstep hbx hb6)).mono ?_
        rintro r w7 ⟨rfl, hb7⟩
        go_wp2_with fail
        go_ret
        exact ⟨rfl, bstep (bstep hbx hb6) hb7⟩
      · obtain ⟨rfl, rfl⟩ := takeE_bad he k2
        have g2 : ((ee : Int) != 0) = true := by simp; omega
        have g3 : ((ee : Int) == 0) = false := by simp; omega
        have gE : (bstr []).toList.isEmpty = true := by rw [ByteArray.toList_eq]; rfl
        clear he hpe
        go_enter Tryd.func6, Tryd.ntmps6
        go_wp2_with fail
        refine (shown_any _ HT.out).mono ?_
        rintro r w1 ⟨rfl, hb1⟩
        go_wp2_with fail
        refine (CB.out _ hb1).mono ?_
        rintro r w2 ⟨lv, rfl, hlv, hb2⟩
        have hb2' := bstep hb1 hb2
        have HLV := Lib.hid hlv
        obtain ⟨la, lc, rfl⟩ := hlv.form
        clear hlv
        go_wp2_with fail
        have hbt := bstep hb2' ((Below.refl w2.heap.size w2).alloc (Nat.le_refl _) (.cells #[.string b.stream, .int .i64 b.expect, .int .i64 b.session, .int .i64 b.seq, .slice la b.events.length lc] 24))
        refine (CE.out _ hbt).mono ?_
        rintro r w5 ⟨rfl, hb5⟩
        have hb5' := bstep hbt hb5
        have hbx := hb5'.alloc (show W.heap.size ≤ w5.heap.size from hb5'.size) (.cells #[.string ⟨#[]⟩, .string ⟨#[]⟩] 26)
        go_wp2_with fail
        go_ret
        exact ⟨rfl, hbx⟩
end Go.Proofs.YtcgolhaiciffeaaDoor
