/-
  The walk of bucketlinelaw5.EventFits. Printed by gen_evlaw1.py of this claim's writer.
-/
import Derived.Test.YtcgolhaiciffeaaDoorEvShown
import Derived.Test.YtcgolhaiciffeaaDoorEvApp
import Derived.Test.YtcgolhaiciffeaaDoorRegInv
import Derived.Deep.DeepCutAuto
namespace Go.Proofs.YtcgolhaiciffeaaDoor
open Go.RowKit

/-! ### plainly -/
theorem fits0 {b : BW} (h : fitsB b = 0) : ¬ wrongB b ∧ b.events.length ≤ 8 ∧ b.events.any (fun e => !rightE e) = false := by
  unfold fitsB at h
  by_cases h1 : wrongB b
  · rw [if_pos h1] at h; cases h
  · rw [if_neg h1] at h
    by_cases h2 : 8 < b.events.length
    · rw [if_pos h2] at h; cases h
    · rw [if_neg h2] at h
      cases h3 : b.events.any (fun e => !rightE e) with
      | true => rw [h3, if_pos rfl] at h; cases h
      | false => exact ⟨h1, by omega, rfl⟩
/-- The same batch with other events. -/
def withE (b : BW) (l : List EV) : BW := ⟨b.stream, b.expect, b.session, b.seq, l⟩
theorem wrong_withE {b : BW} (h : ¬ wrongB b) (l : List EV) : wrongB (withE b l) ↔ l.length = 0 := by
  unfold wrongB at h ⊢
  constructor
  · rintro (h1 | h1 | h1 | h1 | h1 | h1)
    · exact absurd (.inl h1) h
    · exact absurd (.inr (.inl h1)) h
    · exact absurd (.inr (.inr (.inl h1))) h
    · exact absurd (.inr (.inr (.inr (.inl h1)))) h
    · exact absurd (.inr (.inr (.inr (.inr (.inl h1))))) h
    · exact h1
  · exact fun h1 => .inr (.inr (.inr (.inr (.inr h1))))
theorem fits_none {b : BW} (h : fitsB b = 0) : fitsB (withE b []) = 1 := by
  rw [fitsB, if_pos ((wrong_withE (fits0 h).1 []).2 rfl)]
theorem fits_take {b : BW} (h : fitsB b = 0) (k : Nat) (h0 : 0 < k) (hk : k ≤ b.events.length) : fitsB (withE b (b.events.take k)) = 0 := by
  obtain ⟨h1, h2, h3⟩ := fits0 h
  have hl : (b.events.take k).length = k := by rw [List.length_take]; omega
  rw [fitsB, if_neg (fun hw => by have := (wrong_withE h1 _).1 hw; omega)]
  rw [show (withE b (b.events.take k)).events = b.events.take k from rfl, if_neg (by omega), if_neg]
  rw [Bool.not_eq_true, List.any_eq_false] at *
  exact fun x hx => h3 x (List.mem_of_mem_take hx)
theorem fits_more {b : BW} (h : fitsB b = 0) (e : EV) : fitsB (withE b (b.events ++ [e])) = if 8 < b.events.length + 1 then 4 else if rightE e = false then 1 else 0 := by
  obtain ⟨h1, h2, h3⟩ := fits0 h
  rw [fitsB, if_neg (fun hw => by have := (wrong_withE h1 _).1 hw; rw [List.length_append] at this; simp at this)]
  rw [show (withE b (b.events ++ [e])).events = b.events ++ [e] from rfl, List.length_append, List.any_append, h3]
  cases hr : rightE e <;> simp [hr]

theorem light_take {b : BW} (h : LightB b) (k : Nat) : ∀ x ∈ b.events.take k, LightE x := fun x hx => h.e x (List.mem_of_mem_take hx)

theorem block_set5 {w : World} {g : Nat} {a0 a1 a2 a3 a4 : Value} {t : TypeId} (h : w.heap[g]? = some (.cells #[a0, a1, a2, a3, a4] t)) (x : Value) :
    (w.setCell ⟨g, 4, none⟩ x).heap[g]? = some (.cells #[a0, a1, a2, a3, x] t) := by
  simp [World.setCell, Array.getElem?_modify, h]
/-- A slice of events, behind a store into another block. -/
theorem hev_set {B : Nat} {w : World} {a : Option Addr} {n cap : Nat} {l : List EV} (h : IsEvents B w (.slice a n cap) l) {g : Nat} {i : Nat} (x : Value) (ha : ∀ r, a = some r → r.block ≠ g) : IsEvents B (w.setCell ⟨g, i, none⟩ x) (.slice a n cap) l := by
  obtain ⟨a', cap', he, h1, h2, h3, h5⟩ := h
  obtain ⟨rfl, rfl, rfl⟩ : a = a' ∧ n = l.length ∧ cap = cap' := by injection he with e1 e2 e3; exact ⟨e1, e2, e3⟩
  refine ⟨a, cap, rfl, h1, h2, h3, fun hp => ?_⟩
  obtain ⟨b, off, rfl, hlt, hc⟩ := h5 hp
  have hne := ha _ rfl
  simp only at hne
  refine ⟨b, off, rfl, hlt, fun j hj => ⟨?_, ?_⟩⟩
  · rw [World.cell?_setCell_other _ _ _ _ (by intro e0; injection e0 with e1; exact hne e1.symm)]; exact (hc j hj).1
  · rw [World.cell?_setCell_other _ _ _ _ (by intro e0; injection e0 with e1; exact hne e1.symm)]; exact (hc j hj).2
theorem cells5 {w : World} {g : Nat} {a0 a1 a2 a3 a4 : Value} {t : TypeId} {fr : Nat × Nat} (h : w.heap[g]? = some (.cells #[a0, a1, a2, a3, a4] t fr)) :
    w.cell? ⟨g, 0, none⟩ = some a0 ∧ w.cell? ⟨g, 1, none⟩ = some a1 ∧ w.cell? ⟨g, 2, none⟩ = some a2 ∧ w.cell? ⟨g, 3, none⟩ = some a3 ∧ w.cell? ⟨g, 4, none⟩ = some a4 :=
  ⟨by rw [Lib.cell_of_heap h]; rfl, by rw [Lib.cell_of_heap h]; rfl, by rw [Lib.cell_of_heap h]; rfl, by rw [Lib.cell_of_heap h]; rfl, by rw [Lib.cell_of_heap h]; rfl⟩
theorem box52 {w X : World} {a0 a1 a2 a3 a4 c0 c1 : Value} {t t' : TypeId} (hb : Below (w.heap.size + 2) ((w.alloc (.cells #[a0, a1, a2, a3, a4] t)).alloc (.cells #[c0, c1] t')) X) :
    (X.cell? ⟨w.heap.size, 0, none⟩ = some a0 ∧ X.cell? ⟨w.heap.size, 1, none⟩ = some a1 ∧ X.cell? ⟨w.heap.size, 2, none⟩ = some a2 ∧ X.cell? ⟨w.heap.size, 3, none⟩ = some a3 ∧ X.cell? ⟨w.heap.size, 4, none⟩ = some a4) ∧
    X.cell? ⟨w.heap.size + 1, 0, none⟩ = some c0 ∧ X.cell? ⟨w.heap.size + 1, 1, none⟩ = some c1 :=
  ⟨⟨(hb.cell (p := ⟨w.heap.size, 0, none⟩) (by simp)).trans (by simp), (hb.cell (p := ⟨w.heap.size, 1, none⟩) (by simp)).trans (by simp), (hb.cell (p := ⟨w.heap.size, 2, none⟩) (by simp)).trans (by simp),
    (hb.cell (p := ⟨w.heap.size, 3, none⟩) (by simp)).trans (by simp), (hb.cell (p := ⟨w.heap.size, 4, none⟩) (by simp)).trans (by simp)⟩,
    (hb.cell (p := ⟨w.heap.size + 1, 0, none⟩) (by simp)).trans (by simp), (hb.cell (p := ⟨w.heap.size + 1, 1, none⟩) (by simp)).trans (by simp)⟩
theorem bz_below {w X : World} {o o' : Obj} (h : Below (w.heap.size + 2) ((w.alloc o).alloc o') X) : Below w.heap.size w X := (((Below.refl _ _).alloc (Nat.le_refl _) o).alloc (by rw [World.size_alloc]; omega) o').trans (h.mono (by omega))
theorem bz_size {w X : World} {o o' : Obj} (h : Below (w.heap.size + 2) ((w.alloc o).alloc o') X) : w.heap.size + 2 ≤ X.heap.size := by have := h.size; simpa using this
theorem bz_more {w X X' : World} {o o' : Obj} (h : Below (w.heap.size + 2) ((w.alloc o).alloc o') X) (k : Below X.heap.size X X') : Below (w.heap.size + 2) ((w.alloc o).alloc o') X' := h.trans (k.mono (bz_size h))

set_option maxRecDepth 100000 in
set_option maxHeartbeats 6400000 in
theorem walkEventFits (B : Nat) (v : Value) (b : BW) (e : EV) (W : World) (h : IsBatch B W v b) (hB : B ≤ W.heap.size) (hT : Tabs W) :
    Calls Tryd.prog 3 #[v, .agg #[.string e.kind, .string e.data]] W fun r w' => r = .returned (.bool true) ∧ Below W.heap.size W w' := by
  have HV := Lib.hid h
  obtain ⟨lv, rfl, hl⟩ := h
  have HL := Lib.hid hl
  obtain ⟨a, cap, rfl⟩ := hl.form
  have hcap : b.events.length ≤ cap := by obtain ⟨_, _, he, h1, _⟩ := HL.out; injection he with e1 e2 e3; omega
  obtain ⟨i0, hi0, hz0, hz1, hz2⟩ := info_parts Tryd.evinfo
  have bz0 : Below (W.heap.size + 2) ((W.alloc (.cells #[.string b.stream, .int .i64 b.expect, .int .i64 b.session, .int .i64 b.seq, .slice a b.events.length cap] 24)).alloc (.cells #[.string e.kind, .string e.data] 26)) ((W.alloc (.cells #[.string b.stream, .int .i64 b.expect, .int .i64 b.session, .int .i64 b.seq, .slice a b.events.length cap] 24)).alloc (.cells #[.string e.kind, .string e.data] 26)) := Below.refl _ _
  have BZ0 := Lib.hid bz0
  have HT := Lib.hid hT
  obtain ⟨q, hq⟩ := lightQ b
  have CL := Lib.hid (fun (X : World) (hX : Below W.heap.size W X) => light_any B _ b q hq X (HV.out.keep hX hB) (Nat.le_trans hB hX.size))
  obtain ⟨c, hc⟩ : ∃ c, fitsB b = c := ⟨_, rfl⟩
  have C0 := Lib.hid (fun (X : World) (hX : Below W.heap.size W X) => fits_any B _ b c hc X (HV.out.keep hX hB) (Nat.le_trans hB hX.size) (tabs_below HT.out hX))
  have HF := Lib.hid hc
  have HQ := Lib.hid hq
  clear hl bz0 hT hc hq
  cases q with
  | false =>
    go_enter Tryd.func3, Tryd.ntmps3
    go_wp2_with fail
    refine (shown_any _ (tabs_below HT.out (bz_below BZ0.out))).mono ?_
    rintro r w1 ⟨rfl, hb1⟩
    have bz1 := bz_more BZ0.out hb1
    obtain ⟨⟨y0, y1, y2, y3, y4⟩, x0, x1⟩ := box52 bz1
    go_wp2_with fail
    refine (CL.out _ (bz_below bz1)).mono ?_
    rintro r w2 ⟨rfl, hb2⟩
    have bz2 := bz_more bz1 hb2
    clear y0 y1 y2 y3 y4 x0 x1
    obtain ⟨⟨y0, y1, y2, y3, y4⟩, x0, x1⟩ := box52 bz2
    go_wp2_with fail
    go_ret
    exact ⟨rfl, bz_below bz2⟩
  | true =>
    by_cases h1 : 300 < e.kind.size
    · have g1 : (300 : Int) < (e.kind.size : Int) := by omega
      go_enter Tryd.func3, Tryd.ntmps3
      go_wp2_with fail
      refine (shown_any _ (tabs_below HT.out (bz_below BZ0.out))).mono ?_
      rintro r w1 ⟨rfl, hb1⟩
      have bz1 := bz_more BZ0.out hb1
      obtain ⟨⟨y0, y1, y2, y3, y4⟩, x0, x1⟩ := box52 bz1
      go_wp2_with fail
      refine (CL.out _ (bz_below bz1)).mono ?_
      rintro r w2 ⟨rfl, hb2⟩
      have bz2 := bz_more bz1 hb2
      clear y0 y1 y2 y3 y4 x0 x1
      obtain ⟨⟨y0, y1, y2, y3, y4⟩, x0, x1⟩ := box52 bz2
      go_wp2_with fail
      go_ret
      exact ⟨rfl, bz_below bz2⟩
    · have g1 : ¬ (300 : Int) < (e.kind.size : Int) := by omega
      by_cases h2 : 500 < e.data.size
      · have g2 : (500 : Int) < (e.data.size : Int) := by omega
        go_enter Tryd.func3, Tryd.ntmps3
        go_wp2_with fail
        refine (shown_any _ (tabs_below HT.out (bz_below BZ0.out))).mono ?_
        rintro r w1 ⟨rfl, hb1⟩
        have bz1 := bz_more BZ0.out hb1
        obtain ⟨⟨y0, y1, y2, y3, y4⟩, x0, x1⟩ := box52 bz1
        go_wp2_with fail
        refine (CL.out _ (bz_below bz1)).mono ?_
        rintro r w2 ⟨rfl, hb2⟩
        have bz2 := bz_more bz1 hb2
        clear y0 y1 y2 y3 y4 x0 x1
        obtain ⟨⟨y0, y1, y2, y3, y4⟩, x0, x1⟩ := box52 bz2
        go_wp2_with fail
        go_ret
        exact ⟨rfl, bz_below bz2⟩
      · have g2 : ¬ (500 : Int) < (e.data.size : Int) := by omega
        by_cases h3 : c = 0
        · subst h3
          go_enter Tryd.func3, Tryd.ntmps3
          go_wp2_with fail
          refine (shown_any _ (tabs_below HT.out (bz_below BZ0.out))).mono ?_
          rintro r w1 ⟨rfl, hb1⟩
          have bz1 := bz_more BZ0.out hb1
          obtain ⟨⟨y0, y1, y2, y3, y4⟩, x0, x1⟩ := box52 bz1
          go_wp2_with fail
          refine (CL.out _ (bz_below bz1)).mono ?_
          rintro r w2 ⟨rfl, hb2⟩
          have bz2 := bz_more bz1 hb2
          clear y0 y1 y2 y3 y4 x0 x1
          obtain ⟨⟨y0, y1, y2, y3, y4⟩, x0, x1⟩ := box52 bz2
          go_wp2_with fail
          refine (C0.out _ (bz_below bz2)).mono ?_
          rintro r w3 ⟨rfl, hb3⟩
          have bz3 := bz_more bz2 hb3
          clear y0 y1 y2 y3 y4 x0 x1
          obtain ⟨⟨y0, y1, y2, y3, y4⟩, x0, x1⟩ := box52 bz3
          go_wp2_with fail
          have hn8 := (fits0 HF.out).2.1
          go_loopw [7, 8] (fun t7 _ wr => ∃ k : Nat, k ≤ b.events.length + 1 ∧ t7 = .int .i64 k ∧ Below (W.heap.size + 2) ((W.alloc (.cells #[.string b.stream, .int .i64 b.expect, .int .i64 b.session, .int .i64 b.seq, .slice a b.events.length cap] 24)).alloc (.cells #[.string e.kind, .string e.data] 26)) wr) (fun t7 _ _ => b.events.length + 1 - (intOf t7).toNat)
          case atStart => exact ⟨0, Nat.zero_le _, rfl, bz3⟩
          case round =>
            obtain ⟨k, hk1, rfl, bz⟩ := hrel
            have hsz := bz_size bz
            have hlt1 : W.heap.size < wr.heap.size := by omega
            have hne1 : W.heap.size ≠ wr.heap.size := by omega
            have hne2 : wr.heap.size ≠ W.heap.size := by omega
            clear y0 y1 y2 y3 y4 x0 x1
            obtain ⟨⟨y0, y1, y2, y3, y4⟩, x0, x1⟩ := box52 bz
            by_cases hkl : k ≤ b.events.length
            · have i1 : (k : Int) ≤ (b.events.length : Int) := by omega
              have i0 : (0 : Int) ≤ (k : Int) := by omega
              have i2 : (k : Int) ≤ (cap : Int) := by omega
              by_cases hk0 : 0 < k
              · have g0 : (0 : Int) < (k : Int) := by omega
                have CK := Lib.hid (fun (X : World) (hX : Below W.heap.size W X) => fits_any B (.agg #[.string b.stream, .int .i64 b.expect, .int .i64 b.session, .int .i64 b.seq, .slice a k cap]) (withE b (b.events.take k)) _ (fits_take HF.out k hk0 hkl) X ⟨_, rfl, (HL.out.keep hX hB).take k hkl⟩ (Nat.le_trans hB hX.size) (tabs_below HT.out hX))
                have bzs : Below (W.heap.size + 2) ((W.alloc (.cells #[.string b.stream, .int .i64 b.expect, .int .i64 b.session, .int .i64 b.seq, .slice a b.events.length cap] 24)).alloc (.cells #[.string e.kind, .string e.data] 26)) (wr.alloc (.cells #[.string b.stream, .int .i64 b.expect, .int .i64 b.session, .int .i64 b.seq, .slice a k cap] 24)) := bz.alloc (by omega) _
                go_wp2_with fail
                refine (CK.out _ (bz_below bzs)).mono ?_
                rintro r w4 ⟨rfl, hb4⟩
                have bz4 := bz_more bzs hb4
                go_wp2_with fail
                go_roundw
                case rel => exact ⟨k + 1, by omega, by go_num, bz4⟩
                case measure => simp [intOf]; omega
              · have g0 : ¬ (0 : Int) < (k : Int) := by omega
                have hf : fitsB (withE b (b.events.take k)) = 1 := by rw [show k = 0 by omega, List.take_zero]; exact fits_none HF.out
                have CK := Lib.hid (fun (X : World) (hX : Below W.heap.size W X) => fits_any B (.agg #[.string b.stream, .int .i64 b.expect, .int .i64 b.session, .int .i64 b.seq, .slice a k cap]) (withE b (b.events.take k)) _ hf X ⟨_, rfl, (HL.out.keep hX hB).take k hkl⟩ (Nat.le_trans hB hX.size) (tabs_below HT.out hX))
                have bzs : Below (W.heap.size + 2) ((W.alloc (.cells #[.string b.stream, .int .i64 b.expect, .int .i64 b.session, .int .i64 b.seq, .slice a b.events.length cap] 24)).alloc (.cells #[.string e.kind, .string e.data] 26)) (wr.alloc (.cells #[.string b.stream, .int .i64 b.expect, .int .i64 b.session, .int .i64 b.seq, .slice a k cap] 24)) := bz.alloc (by omega) _
                go_wp2_with fail
                refine (CK.out _ (bz_below bzs)).mono ?_
                rintro r w4 ⟨rfl, hb4⟩
                have bz4 := bz_more bzs hb4
                go_wp2_with fail
                go_roundw
                case rel => exact ⟨k + 1, by omega, by go_num, bz4⟩
                case measure => simp [intOf]; omega
            · have i1 : ¬ (k : Int) ≤ (b.events.length : Int) := by omega
              have hlen : 0 < b.events.length := by
                have := (fits0 HF.out).1
                rcases Nat.eq_zero_or_pos b.events.length with h0 | h0
                · exact absurd (.inr (.inr (.inr (.inr (.inr h0))))) this
                · exact h0
              go_upto_region 13 with fail
              go_cut [] (fun wx => ∃ r, wx.heap[wr.heap.size]? = some (.cells #[.string b.stream, .int .i64 b.expect, .int .i64 b.session, .int .i64 b.seq, r] 24) ∧ IsEvents wx.heap.size wx r (b.events ++ [e]) ∧ Below wr.heap.size wr wx)
              case first => as_aux_lemma =>
                have mkS : ∀ X : World, wr.heap.size + 1 ≤ X.heap.size → Below wr.heap.size wr X → X.cell? ⟨W.heap.size, 4, none⟩ = some (.slice a b.events.length cap) ∧ X.cell? ⟨W.heap.size + 1, 0, none⟩ = some (.string e.kind) ∧ X.cell? ⟨W.heap.size + 1, 1, none⟩ = some (.string e.data) ∧ wr.heap.size + 1 ≤ X.heap.size ∧ Below wr.heap.size wr X := fun X hz hX => by
                  obtain ⟨⟨_, _, _, _, u4⟩, u5, u6⟩ := box52 (bz.trans (hX.mono hsz))
                  exact ⟨u4, u5, u6, hz, hX⟩
                have keep : ∀ X X' : World, (X.cell? ⟨W.heap.size, 4, none⟩ = some (.slice a b.events.length cap) ∧ X.cell? ⟨W.heap.size + 1, 0, none⟩ = some (.string e.kind) ∧ X.cell? ⟨W.heap.size + 1, 1, none⟩ = some (.string e.data) ∧ wr.heap.size + 1 ≤ X.heap.size ∧ Below wr.heap.size wr X) → Below X.heap.size X X' → X'.cell? ⟨W.heap.size, 4, none⟩ = some (.slice a b.events.length cap) ∧ X'.cell? ⟨W.heap.size + 1, 0, none⟩ = some (.string e.kind) ∧ X'.cell? ⟨W.heap.size + 1, 1, none⟩ = some (.string e.data) ∧ wr.heap.size + 1 ≤ X'.heap.size ∧ Below wr.heap.size wr X' := fun X X' h k => mkS X' (Nat.le_trans h.2.2.2.1 k.size) (h.2.2.2.2.trans (k.mono (by have := h.2.2.2.1; omega)))
                have MKS := Lib.hid mkS
                have KEEP := Lib.hid keep
                clear mkS keep
                have hgw0 : (wr.alloc (.cells #[.string b.stream, .int .i64 b.expect, .int .i64 b.session, .int .i64 b.seq, .slice a b.events.length cap] 24)).drew.heap[wr.heap.size]? = some (.cells #[.string b.stream, .int .i64 b.expect, .int .i64 b.session, .int .i64 b.seq, .slice a b.events.length cap] 24) := heap_alloc_new wr _
                have hSw0 := MKS.out (wr.alloc (.cells #[.string b.stream, .int .i64 b.expect, .int .i64 b.session, .int .i64 b.seq, .slice a b.events.length cap] 24)).drew (by simp) (((Below.refl _ _).alloc (Nat.le_refl _) _).drew)
                generalize (wr.alloc (.cells #[.string b.stream, .int .i64 b.expect, .int .i64 b.session, .int .i64 b.seq, .slice a b.events.length cap] 24)) = wg at *
                refine region_begin (S := fun X => X.cell? ⟨W.heap.size, 4, none⟩ = some (.slice a b.events.length cap) ∧ X.cell? ⟨W.heap.size + 1, 0, none⟩ = some (.string e.kind) ∧ X.cell? ⟨W.heap.size + 1, 1, none⟩ = some (.string e.data) ∧ wr.heap.size + 1 ≤ X.heap.size ∧ Below wr.heap.size wr X) 9 rfl (by kernel_rfl) hSw0 (fun hH0 => ?_)
                refine wpAnyH_take (i := 1) (oi := ?ot1) (v := ?vt1) ?hit1 (by kernel_rfl) (by kernel_rfl) (by kernel_rfl) ?hQt1 ?hyt1 hH0 ?_
                case hit1 => simp only [List.getElem?_toArray, List.getElem?_cons_zero, List.getElem?_cons_succ]; rfl
                case hQt1 => exact fun _ _ _ h => h
                case hyt1 => refine Or.inl ⟨by rfl, ?_⟩; intro W hSw; (try dsimp only at hSw); go_simp; try with_reducible rfl
                simp only [Act.put, List.setIfInBounds_toArray, List.set_cons_zero, List.set_cons_succ]
                refine wpAnyH_take (i := 2) (oi := ?ot2) (v := ?vt2) ?hit2 (by kernel_rfl) (by kernel_rfl) (by kernel_rfl) ?hQt2 ?hyt2 hH0 ?_
                case hit2 => simp only [List.getElem?_toArray, List.getElem?_cons_zero, List.getElem?_cons_succ]; rfl
                case hQt2 => exact fun _ _ _ h => h
                case hyt2 => refine Or.inl ⟨by rfl, ?_⟩; intro W hSw; (try dsimp only at hSw); go_simp; try with_reducible rfl
                simp only [Act.put, List.setIfInBounds_toArray, List.set_cons_zero, List.set_cons_succ]
                refine wpAnyH_take (i := 4) (oi := ?ot4) (v := ?vt4) ?hit4 (by kernel_rfl) (by kernel_rfl) (by kernel_rfl) ?hQt4 ?hyt4 hH0 ?_
                case hit4 => simp only [List.getElem?_toArray, List.getElem?_cons_zero, List.getElem?_cons_succ]; rfl
                case hQt4 => exact fun _ _ _ h => h
                case hyt4 => refine Or.inl ⟨by rfl, ?_⟩; intro W hSw; (try dsimp only at hSw); go_simp; try with_reducible rfl
                simp only [Act.put, List.setIfInBounds_toArray, List.set_cons_zero, List.set_cons_succ]
                clear hH0
                generalize wg.drew = w0 at *
                refine wpAnyH_ready (rs := [0, 5]) (by kernel_rfl) (by simp) ?_
                refine AllReadyH.cons (o := ?ow0a) ?how0a (fun K' hK => ?_) (AllReadyH.cons (o := ?ow0b) ?how0b (fun K' hK => ?_) AllReadyH.nil)
                case how0a => simp only [List.getElem?_toArray, List.getElem?_cons_zero]; rfl
                case how0b => simp only [List.getElem?_toArray, List.getElem?_cons_zero, List.getElem?_cons_succ]; rfl
                · go_simp
                  have hbne1 : Below w0.heap.size w0 (w0.alloc (.cells #[] 26)) := (Below.refl _ _).alloc (Nat.le_refl _) _
                  have hse1 : w0.heap.size < (w0.alloc (.cells #[] 26)).heap.size := by rw [World.size_alloc]; omega
                  have hie1 : (w0.alloc (.cells #[] 26)).heap[w0.heap.size]? = some (.cells #[] 26) := heap_alloc_new _ _
                  have hSe1 := KEEP.out _ _ hSw0 hbne1
                  have hge1 := (hbne1.block wr.heap.size hSw0.2.2.2.1).trans hgw0
                  refine hK.out _ _ hSe1 (fun hSx => ?_)
                  clear hK K'
                  (try simp only [Act.put, List.setIfInBounds_toArray, List.set_cons_zero, List.set_cons_succ])
                  generalize w0.alloc (.cells #[] 26) = e1 at *
                  clear hSx
                  refine wpAnyH_ready (rs := [3, 5]) (by kernel_rfl) (by simp) ?_
                  refine AllReadyH.cons (o := ?ow3a) ?how3a (fun K' hK => ?_) (AllReadyH.cons (o := ?ow3b) ?how3b (fun K' hK => ?_) AllReadyH.nil)
                  case how3a => simp only [List.getElem?_toArray, List.getElem?_cons_zero, List.getElem?_cons_succ]; rfl
                  case how3b => simp only [List.getElem?_toArray, List.getElem?_cons_zero, List.getElem?_cons_succ]; rfl
                  · refine step_append_emptyE e1 (by rfl) _ _ _ (by rfl) 26 i0 _ 32 Tryd.underlying22 hi0 hz0 hz1 hz2 rfl ⟨w0.heap.size, 0, none⟩ (by rfl) B _ b.events (by rfl) (HL.out.keep (bz_below (bz.trans (hSe1.2.2.2.2.mono hsz))) hB) hlen (by unfold maxLen; omega) (by omega) ?_
                    intro cap1 w7 hown hbnw7
                    have hSw7 := KEEP.out _ _ hSe1 hbnw7
                    have hgw7 := (hbnw7.block wr.heap.size hSe1.2.2.2.1).trans hge1
                    refine hK.out _ _ hSw7 (fun hSx => ?_)
                    clear hK K'
                    (try simp only [Act.put, List.setIfInBounds_toArray, List.set_cons_zero, List.set_cons_succ])
                    clear hSx
                    refine wpAnyH_ready (rs := [5]) (by kernel_rfl) (by simp) ?_
                    refine AllReadyH.cons (o := ?oa1l) ?hoa1l (fun K' hK => ?_) AllReadyH.nil
                    case hoa1l => simp only [List.getElem?_toArray, List.getElem?_cons_zero, List.getElem?_cons_succ]; rfl
                    go_simp
                    have hbnl1 : Below w7.heap.size w7 (w7.alloc (.cells #[.string e.kind, .string e.data] 26)) := (Below.refl _ _).alloc (Nat.le_refl _) _
                    have hsl1 : w7.heap.size < (w7.alloc (.cells #[.string e.kind, .string e.data] 26)).heap.size := by rw [World.size_alloc]; omega
                    have hil1 : (w7.alloc (.cells #[.string e.kind, .string e.data] 26)).heap[w7.heap.size]? = some (.cells #[.string e.kind, .string e.data] 26) := heap_alloc_new _ _
                    have hSl1 := KEEP.out _ _ hSw7 hbnl1
                    have hgl1 := (hbnl1.block wr.heap.size hSw7.2.2.2.1).trans hgw7
                    refine hK.out _ _ hSl1 (fun hSx => ?_)
                    clear hK K'
                    (try simp only [Act.put, List.setIfInBounds_toArray, List.set_cons_zero, List.set_cons_succ])
                    generalize w7.alloc (.cells #[.string e.kind, .string e.data] 26) = l1 at *
                    clear hSx
                    have hrow := own_less (show wr.heap.size + 1 ≤ e1.heap.size by omega) (own_below hbnl1 hown)
                    have hlit := hil1
                    have hrow1 : ∀ j, (Value.slice (some ⟨e1.heap.size, 0, none⟩) b.events.length cap1).ownBlock = some j → wr.heap.size + 1 ≤ j := by
                      intro j hj
                      simp only [Value.ownBlock, Option.some.injEq] at hj
                      subst hj
                      omega
                    refine wpAnyH_ready (rs := [6]) (by kernel_rfl) (by simp) ?_
                    refine AllReadyH.cons (o := ?oa1t) ?hoa1t (fun K' hK => ?_) AllReadyH.nil
                    case hoa1t => simp only [List.getElem?_toArray, List.getElem?_cons_zero, List.getElem?_cons_succ]; rfl
                    refine step_append_lies _ (by rfl) _ _ _ (by rfl) (wr.heap.size + 1) 26 i0 _ 2 32 Tryd.underlying22 hi0 hz0 hz1 hz2 rfl (by omega) _ _ _ (by rfl) hrow ⟨w7.heap.size, 0, none⟩ 1 1 [.string e.kind, .string e.data] (by rfl) (by rfl) (World.news_of_block hlit) (by simp [Value.oneCell']) (by omega) (by unfold maxLen; omega) (by omega) hSl1.2.2.2.1 _ rfl ?_
                    intro gg cap2 w9 hown9 hgrow hat hlt9
                    have hgb9 := (hgrow.block wr.heap.size hSl1.2.2.2.1 (fun e0 => by have := hrow1 _ e0.symm; omega)).trans hgl1
                    have hb9 := hSl1.2.2.2.2.grown hgrow (Nat.le_of_succ_le hSl1.2.2.2.1) (fun j hj => Nat.le_of_succ_le (hrow1 j hj))
                    have hz9 : wr.heap.size + 1 ≤ w9.heap.size := Nat.le_trans hSl1.2.2.2.1 hgrow.size
                    have hS9 := MKS.out _ hz9 hb9
                    have hc9 : w9.cell? ⟨wr.heap.size, 4, none⟩ = some (.slice a b.events.length cap) := by rw [Lib.cell_of_heap hgb9]; rfl
                    have hf9 : w9.frozen? ⟨wr.heap.size, 4, none⟩ = false := Lib.frozen_of_heap hgb9 4
                    have hl9 : gg ≠ wr.heap.size := by
                      rcases hat with h1 | h1
                      · have := hrow1 _ h1; omega
                      · have := hSl1.2.2.2.1; omega
                    have HOWN := Lib.hid hown9
                    have HG9 := Lib.hid hgb9
                    have HB9 := Lib.hid hb9
                    clear hown9 hgb9 hb9
                    refine hK.out _ _ hS9 (fun hS9' => ?_)
                    clear hK K'
                    (try simp only [Act.put, List.setIfInBounds_toArray, List.set_cons_zero, List.set_cons_succ])
                    refine wpAnyH_take (i := 7) (oi := ?oa1tp) (v := ?va1tp) ?hia1tp (by kernel_rfl) (by kernel_rfl) (by kernel_rfl) ?hQa1tp ?hya1tp hS9' ?_
                    case hia1tp => simp only [List.getElem?_toArray, List.getElem?_cons_zero, List.getElem?_cons_succ]; rfl
                    case hQa1tp => exact fun _ _ _ h => h
                    case hya1tp => refine Or.inl ⟨by rfl, ?_⟩; intro W hSw; (try dsimp only at hSw); go_simp; try with_reducible rfl
                    simp only [Act.put, List.setIfInBounds_toArray, List.set_cons_zero, List.set_cons_succ]
                    refine wpAnyH_ready (rs := [8]) (by kernel_rfl) (by simp) ?_
                    refine AllReadyH.cons (o := ?oa1ts) ?hoa1ts (fun K' hK => ?_) AllReadyH.nil
                    case hoa1ts => simp only [List.getElem?_toArray, List.getElem?_cons_zero, List.getElem?_cons_succ]; rfl
                    go_simp
                    refine hK.out _ _ (MKS.out _ (by rw [World.size_setCell]; exact hz9) (HB9.out.setCell (p := ⟨wr.heap.size, 4, none⟩) (Nat.le_refl _) _)) (fun hSx => ?_)
                    clear hK K'
                    (try simp only [Act.put, List.setIfInBounds_toArray, List.set_cons_zero, List.set_cons_succ])
                    refine wpAnyH_done (by kernel_rfl) ?_ _
                    go_wp2
                    go_meet
                    case rel =>
                      have hev := events_own (l := b.events ++ [e]) (by rw [ecells_append, ecells_one, List.length_append]; exact HOWN.out) (by rw [List.length_append]; unfold maxLen; simp only [List.length_cons, List.length_nil]; omega)
                      refine ⟨.slice (some ⟨gg, 0, none⟩) (b.events.length + 1) cap2, ?_, ?_, ?_⟩
                      rotate_left
                      · rw [World.size_setCell]; exact hev_set hev _ (by intro r hr; injection hr with hr; subst hr; exact hl9)
                      · exact HB9.out.setCell (p := ⟨wr.heap.size, 4, none⟩) (Nat.le_refl _) _
                      · exact block_set5 HG9.out _
                  · go_simp
                    have hbnl1 : Below e1.heap.size e1 (e1.alloc (.cells #[.string e.kind, .string e.data] 26)) := (Below.refl _ _).alloc (Nat.le_refl _) _
                    have hsl1 : e1.heap.size < (e1.alloc (.cells #[.string e.kind, .string e.data] 26)).heap.size := by rw [World.size_alloc]; omega
                    have hil1 : (e1.alloc (.cells #[.string e.kind, .string e.data] 26)).heap[e1.heap.size]? = some (.cells #[.string e.kind, .string e.data] 26) := heap_alloc_new _ _
                    have hSl1 := KEEP.out _ _ hSe1 hbnl1
                    have hgl1 := (hbnl1.block wr.heap.size hSe1.2.2.2.1).trans hge1
                    refine hK.out _ _ hSl1 (fun hSx => ?_)
                    clear hK K'
                    (try simp only [Act.put, List.setIfInBounds_toArray, List.set_cons_zero, List.set_cons_succ])
                    generalize e1.alloc (.cells #[.string e.kind, .string e.data] 26) = l1 at *
                    clear hSx
                    refine wpAnyH_ready (rs := [3]) (by kernel_rfl) (by simp) ?_
                    refine AllReadyH.cons (o := ?oa2) ?hoa2 (fun K' hK => ?_) AllReadyH.nil
                    case hoa2 => simp only [List.getElem?_toArray, List.getElem?_cons_zero, List.getElem?_cons_succ]; rfl
                    refine step_append_emptyE l1 (by rfl) _ _ _ (by rfl) 26 i0 _ 32 Tryd.underlying22 hi0 hz0 hz1 hz2 rfl ⟨w0.heap.size, 0, none⟩ (by rfl) B _ b.events (by rfl) (HL.out.keep (bz_below (bz.trans (hSl1.2.2.2.2.mono hsz))) hB) hlen (by unfold maxLen; omega) (by omega) ?_
                    intro cap1 w7 hown hbnw7
                    have hSw7 := KEEP.out _ _ hSl1 hbnw7
                    have hgw7 := (hbnw7.block wr.heap.size hSl1.2.2.2.1).trans hgl1
                    refine hK.out _ _ hSw7 (fun hSx => ?_)
                    clear hK K'
                    (try simp only [Act.put, List.setIfInBounds_toArray, List.set_cons_zero, List.set_cons_succ])
                    clear hSx
                    have hrow := own_less (show wr.heap.size + 1 ≤ l1.heap.size by omega) hown
                    have hlit := (hbnw7.block e1.heap.size (by omega)).trans hil1
                    have hrow1 : ∀ j, (Value.slice (some ⟨l1.heap.size, 0, none⟩) b.events.length cap1).ownBlock = some j → wr.heap.size + 1 ≤ j := by
                      intro j hj
                      simp only [Value.ownBlock, Option.some.injEq] at hj
                      subst hj
                      omega
                    refine wpAnyH_ready (rs := [6]) (by kernel_rfl) (by simp) ?_
                    refine AllReadyH.cons (o := ?oa2t) ?hoa2t (fun K' hK => ?_) AllReadyH.nil
                    case hoa2t => simp only [List.getElem?_toArray, List.getElem?_cons_zero, List.getElem?_cons_succ]; rfl
                    refine step_append_lies _ (by rfl) _ _ _ (by rfl) (wr.heap.size + 1) 26 i0 _ 2 32 Tryd.underlying22 hi0 hz0 hz1 hz2 rfl (by omega) _ _ _ (by rfl) hrow ⟨e1.heap.size, 0, none⟩ 1 1 [.string e.kind, .string e.data] (by rfl) (by rfl) (World.news_of_block hlit) (by simp [Value.oneCell']) (by omega) (by unfold maxLen; omega) (by omega) hSw7.2.2.2.1 _ rfl ?_
                    intro gg cap2 w9 hown9 hgrow hat hlt9
                    have hgb9 := (hgrow.block wr.heap.size hSw7.2.2.2.1 (fun e0 => by have := hrow1 _ e0.symm; omega)).trans hgw7
                    have hb9 := hSw7.2.2.2.2.grown hgrow (Nat.le_of_succ_le hSw7.2.2.2.1) (fun j hj => Nat.le_of_succ_le (hrow1 j hj))
                    have hz9 : wr.heap.size + 1 ≤ w9.heap.size := Nat.le_trans hSw7.2.2.2.1 hgrow.size
                    have hS9 := MKS.out _ hz9 hb9
                    have hc9 : w9.cell? ⟨wr.heap.size, 4, none⟩ = some (.slice a b.events.length cap) := by rw [Lib.cell_of_heap hgb9]; rfl
                    have hf9 : w9.frozen? ⟨wr.heap.size, 4, none⟩ = false := Lib.frozen_of_heap hgb9 4
                    have hl9 : gg ≠ wr.heap.size := by
                      rcases hat with h1 | h1
                      · have := hrow1 _ h1; omega
                      · have := hSw7.2.2.2.1; omega
                    have HOWN := Lib.hid hown9
                    have HG9 := Lib.hid hgb9
                    have HB9 := Lib.hid hb9
                    clear hown9 hgb9 hb9
                    refine hK.out _ _ hS9 (fun hS9' => ?_)
                    clear hK K'
                    (try simp only [Act.put, List.setIfInBounds_toArray, List.set_cons_zero, List.set_cons_succ])
                    refine wpAnyH_take (i := 7) (oi := ?oa2tp) (v := ?va2tp) ?hia2tp (by kernel_rfl) (by kernel_rfl) (by kernel_rfl) ?hQa2tp ?hya2tp hS9' ?_
                    case hia2tp => simp only [List.getElem?_toArray, List.getElem?_cons_zero, List.getElem?_cons_succ]; rfl
                    case hQa2tp => exact fun _ _ _ h => h
                    case hya2tp => refine Or.inl ⟨by rfl, ?_⟩; intro W hSw; (try dsimp only at hSw); go_simp; try with_reducible rfl
                    simp only [Act.put, List.setIfInBounds_toArray, List.set_cons_zero, List.set_cons_succ]
                    refine wpAnyH_ready (rs := [8]) (by kernel_rfl) (by simp) ?_
                    refine AllReadyH.cons (o := ?oa2ts) ?hoa2ts (fun K' hK => ?_) AllReadyH.nil
                    case hoa2ts => simp only [List.getElem?_toArray, List.getElem?_cons_zero, List.getElem?_cons_succ]; rfl
                    go_simp
                    refine hK.out _ _ (MKS.out _ (by rw [World.size_setCell]; exact hz9) (HB9.out.setCell (p := ⟨wr.heap.size, 4, none⟩) (Nat.le_refl _) _)) (fun hSx => ?_)
                    clear hK K'
                    (try simp only [Act.put, List.setIfInBounds_toArray, List.set_cons_zero, List.set_cons_succ])
                    refine wpAnyH_done (by kernel_rfl) ?_ _
                    go_wp2
                    go_meet
                    case rel =>
                      have hev := events_own (l := b.events ++ [e]) (by rw [ecells_append, ecells_one, List.length_append]; exact HOWN.out) (by rw [List.length_append]; unfold maxLen; simp only [List.length_cons, List.length_nil]; omega)
                      refine ⟨.slice (some ⟨gg, 0, none⟩) (b.events.length + 1) cap2, ?_, ?_, ?_⟩
                      rotate_left
                      · rw [World.size_setCell]; exact hev_set hev _ (by intro r hr; injection hr with hr; subst hr; exact hl9)
                      · exact HB9.out.setCell (p := ⟨wr.heap.size, 4, none⟩) (Nat.le_refl _) _
                      · exact block_set5 HG9.out _
                · go_simp
                  have hbnl1 : Below w0.heap.size w0 (w0.alloc (.cells #[.string e.kind, .string e.data] 26)) := (Below.refl _ _).alloc (Nat.le_refl _) _
                  have hsl1 : w0.heap.size < (w0.alloc (.cells #[.string e.kind, .string e.data] 26)).heap.size := by rw [World.size_alloc]; omega
                  have hil1 : (w0.alloc (.cells #[.string e.kind, .string e.data] 26)).heap[w0.heap.size]? = some (.cells #[.string e.kind, .string e.data] 26) := heap_alloc_new _ _
                  have hSl1 := KEEP.out _ _ hSw0 hbnl1
                  have hgl1 := (hbnl1.block wr.heap.size hSw0.2.2.2.1).trans hgw0
                  refine hK.out _ _ hSl1 (fun hSx => ?_)
                  clear hK K'
                  (try simp only [Act.put, List.setIfInBounds_toArray, List.set_cons_zero, List.set_cons_succ])
                  generalize w0.alloc (.cells #[.string e.kind, .string e.data] 26) = l1 at *
                  clear hSx
                  refine wpAnyH_ready (rs := [0]) (by kernel_rfl) (by simp) ?_
                  refine AllReadyH.cons (o := ?obe) ?hobe (fun K' hK => ?_) AllReadyH.nil
                  case hobe => simp only [List.getElem?_toArray, List.getElem?_cons_zero]; rfl
                  go_simp
                  have hbne1 : Below l1.heap.size l1 (l1.alloc (.cells #[] 26)) := (Below.refl _ _).alloc (Nat.le_refl _) _
                  have hse1 : l1.heap.size < (l1.alloc (.cells #[] 26)).heap.size := by rw [World.size_alloc]; omega
                  have hie1 : (l1.alloc (.cells #[] 26)).heap[l1.heap.size]? = some (.cells #[] 26) := heap_alloc_new _ _
                  have hSe1 := KEEP.out _ _ hSl1 hbne1
                  have hge1 := (hbne1.block wr.heap.size hSl1.2.2.2.1).trans hgl1
                  refine hK.out _ _ hSe1 (fun hSx => ?_)
                  clear hK K'
                  (try simp only [Act.put, List.setIfInBounds_toArray, List.set_cons_zero, List.set_cons_succ])
                  generalize l1.alloc (.cells #[] 26) = e1 at *
                  clear hSx
                  refine wpAnyH_ready (rs := [3]) (by kernel_rfl) (by simp) ?_
                  refine AllReadyH.cons (o := ?ob1) ?hob1 (fun K' hK => ?_) AllReadyH.nil
                  case hob1 => simp only [List.getElem?_toArray, List.getElem?_cons_zero, List.getElem?_cons_succ]; rfl
                  refine step_append_emptyE e1 (by rfl) _ _ _ (by rfl) 26 i0 _ 32 Tryd.underlying22 hi0 hz0 hz1 hz2 rfl ⟨l1.heap.size, 0, none⟩ (by rfl) B _ b.events (by rfl) (HL.out.keep (bz_below (bz.trans (hSe1.2.2.2.2.mono hsz))) hB) hlen (by unfold maxLen; omega) (by omega) ?_
                  intro cap1 w7 hown hbnw7
                  have hSw7 := KEEP.out _ _ hSe1 hbnw7
                  have hgw7 := (hbnw7.block wr.heap.size hSe1.2.2.2.1).trans hge1
                  refine hK.out _ _ hSw7 (fun hSx => ?_)
                  clear hK K'
                  (try simp only [Act.put, List.setIfInBounds_toArray, List.set_cons_zero, List.set_cons_succ])
                  clear hSx
                  have hrow := own_less (show wr.heap.size + 1 ≤ e1.heap.size by omega) hown
                  have hlit := (hbnw7.block w0.heap.size (by omega)).trans ((hbne1.block w0.heap.size (by omega)).trans hil1)
                  have hrow1 : ∀ j, (Value.slice (some ⟨e1.heap.size, 0, none⟩) b.events.length cap1).ownBlock = some j → wr.heap.size + 1 ≤ j := by
                    intro j hj
                    simp only [Value.ownBlock, Option.some.injEq] at hj
                    subst hj
                    omega
                  refine wpAnyH_ready (rs := [6]) (by kernel_rfl) (by simp) ?_
                  refine AllReadyH.cons (o := ?obt) ?hobt (fun K' hK => ?_) AllReadyH.nil
                  case hobt => simp only [List.getElem?_toArray, List.getElem?_cons_zero, List.getElem?_cons_succ]; rfl
                  refine step_append_lies _ (by rfl) _ _ _ (by rfl) (wr.heap.size + 1) 26 i0 _ 2 32 Tryd.underlying22 hi0 hz0 hz1 hz2 rfl (by omega) _ _ _ (by rfl) hrow ⟨w0.heap.size, 0, none⟩ 1 1 [.string e.kind, .string e.data] (by rfl) (by rfl) (World.news_of_block hlit) (by simp [Value.oneCell']) (by omega) (by unfold maxLen; omega) (by omega) hSw7.2.2.2.1 _ rfl ?_
                  intro gg cap2 w9 hown9 hgrow hat hlt9
                  have hgb9 := (hgrow.block wr.heap.size hSw7.2.2.2.1 (fun e0 => by have := hrow1 _ e0.symm; omega)).trans hgw7
                  have hb9 := hSw7.2.2.2.2.grown hgrow (Nat.le_of_succ_le hSw7.2.2.2.1) (fun j hj => Nat.le_of_succ_le (hrow1 j hj))
                  have hz9 : wr.heap.size + 1 ≤ w9.heap.size := Nat.le_trans hSw7.2.2.2.1 hgrow.size
                  have hS9 := MKS.out _ hz9 hb9
                  have hc9 : w9.cell? ⟨wr.heap.size, 4, none⟩ = some (.slice a b.events.length cap) := by rw [Lib.cell_of_heap hgb9]; rfl
                  have hf9 : w9.frozen? ⟨wr.heap.size, 4, none⟩ = false := Lib.frozen_of_heap hgb9 4
                  have hl9 : gg ≠ wr.heap.size := by
                    rcases hat with h1 | h1
                    · have := hrow1 _ h1; omega
                    · have := hSw7.2.2.2.1; omega
                  have HOWN := Lib.hid hown9
                  have HG9 := Lib.hid hgb9
                  have HB9 := Lib.hid hb9
                  clear hown9 hgb9 hb9
                  refine hK.out _ _ hS9 (fun hS9' => ?_)
                  clear hK K'
                  (try simp only [Act.put, List.setIfInBounds_toArray, List.set_cons_zero, List.set_cons_succ])
                  refine wpAnyH_take (i := 7) (oi := ?obtp) (v := ?vbtp) ?hibtp (by kernel_rfl) (by kernel_rfl) (by kernel_rfl) ?hQbtp ?hybtp hS9' ?_
                  case hibtp => simp only [List.getElem?_toArray, List.getElem?_cons_zero, List.getElem?_cons_succ]; rfl
                  case hQbtp => exact fun _ _ _ h => h
                  case hybtp => refine Or.inl ⟨by rfl, ?_⟩; intro W hSw; (try dsimp only at hSw); go_simp; try with_reducible rfl
                  simp only [Act.put, List.setIfInBounds_toArray, List.set_cons_zero, List.set_cons_succ]
                  refine wpAnyH_ready (rs := [8]) (by kernel_rfl) (by simp) ?_
                  refine AllReadyH.cons (o := ?obts) ?hobts (fun K' hK => ?_) AllReadyH.nil
                  case hobts => simp only [List.getElem?_toArray, List.getElem?_cons_zero, List.getElem?_cons_succ]; rfl
                  go_simp
                  refine hK.out _ _ (MKS.out _ (by rw [World.size_setCell]; exact hz9) (HB9.out.setCell (p := ⟨wr.heap.size, 4, none⟩) (Nat.le_refl _) _)) (fun hSx => ?_)
                  clear hK K'
                  (try simp only [Act.put, List.setIfInBounds_toArray, List.set_cons_zero, List.set_cons_succ])
                  refine wpAnyH_done (by kernel_rfl) ?_ _
                  go_wp2
                  go_meet
                  case rel =>
                    have hev := events_own (l := b.events ++ [e]) (by rw [ecells_append, ecells_one, List.length_append]; exact HOWN.out) (by rw [List.length_append]; unfold maxLen; simp only [List.length_cons, List.length_nil]; omega)
                    refine ⟨.slice (some ⟨gg, 0, none⟩) (b.events.length + 1) cap2, ?_, ?_, ?_⟩
                    rotate_left
                    · rw [World.size_setCell]; exact hev_set hev _ (by intro r hr; injection hr with hr; subst hr; exact hl9)
                    · exact HB9.out.setCell (p := ⟨wr.heap.size, 4, none⟩) (Nat.le_refl _) _
                    · exact block_set5 HG9.out _
              case rest =>
                obtain ⟨r, hgc, hev, hbc⟩ := hcut
                obtain ⟨a', cap', rfl⟩ := hev.form
                have hll : (b.events ++ [e]).length = b.events.length + 1 := by simp
                have hltc := Nat.lt_of_lt_of_le (Nat.lt_of_lt_of_le (Nat.lt_succ_self _) (show wr.heap.size + 1 ≤ wc.heap.size from (Array.getElem?_eq_some_iff.1 hgc).1)) (Nat.le_refl _)
                have HEV := Lib.hid hev
                rw [hll] at hgc HEV
                have bzc := bz.trans (hbc.mono hsz)
                have CF := Lib.hid (fun (c : Nat) (hc : fitsB (withE b (b.events ++ [e])) = c) (X : World) (hX : Below wc.heap.size wc X) => fits_any wc.heap.size (.agg #[.string b.stream, .int .i64 b.expect, .int .i64 b.session, .int .i64 b.seq, .slice a' (b.events.length + 1) cap']) (withE b (b.events ++ [e])) c hc X ⟨_, rfl, HEV.out.keep hX (Nat.le_refl _)⟩ hX.size (tabs_below HT.out ((bz_below bzc).trans (hX.mono (bz_below bzc).size))))
                have CR := Lib.hid (fun (q : Bool) (hq : rightE e = q) => right_any e q hq wc (tabs_below HT.out (bz_below bzc)))
                have HMO := Lib.hid (fits_more HF.out e)
                have HGC := Lib.hid hgc
                clear y0 y1 y2 y3 y4 x0 x1 hev hll hgc
                obtain ⟨⟨y0, y1, y2, y3, y4⟩, x0, x1⟩ := box52 bzc
                by_cases h8 : 8 < b.events.length + 1
                · have g8 : (8 : Int) < (b.events.length : Int) + 1 := by omega
                  have CF4 := Lib.hid (CF.out 4 (by rw [HMO.out, if_pos h8]))
                  cases hr : rightE e with
                  | false =>
                    have CR1 := Lib.hid (CR.out _ hr)
                    clear hr
                    go_wp2_with fail
                    refine CR1.out.mono ?_
                    rintro r w5 ⟨rfl, hb5⟩
                    obtain ⟨c0, c1, c2, c3, c4⟩ := cells5 ((hb5.block wr.heap.size hltc).trans HGC.out)
                    go_wp2_with fail
                    refine (CF4.out _ hb5).mono ?_
                    rintro r w6 ⟨rfl, hb6⟩
                    go_wp2_with fail
                    go_ret
                    exact ⟨rfl, bz_below (bz_more (bz_more bzc hb5) hb6)⟩
                  | true =>
                    have CR1 := Lib.hid (CR.out _ hr)
                    clear hr
                    go_wp2_with fail
                    refine CR1.out.mono ?_
                    rintro r w5 ⟨rfl, hb5⟩
                    obtain ⟨c0, c1, c2, c3, c4⟩ := cells5 ((hb5.block wr.heap.size hltc).trans HGC.out)
                    go_wp2_with fail
                    refine (CF4.out _ hb5).mono ?_
                    rintro r w6 ⟨rfl, hb6⟩
                    go_wp2_with fail
                    go_ret
                    exact ⟨rfl, bz_below (bz_more (bz_more bzc hb5) hb6)⟩
                · have g8 : ¬ (8 : Int) < (b.events.length : Int) + 1 := by omega
                  cases hr : rightE e with
                  | false =>
                    have CR1 := Lib.hid (CR.out _ hr)
                    have CF4 := Lib.hid (CF.out 1 (by rw [HMO.out, if_neg h8, hr]; rfl))
                    clear hr
                    go_wp2_with fail
                    refine CR1.out.mono ?_
                    rintro r w5 ⟨rfl, hb5⟩
                    obtain ⟨c0, c1, c2, c3, c4⟩ := cells5 ((hb5.block wr.heap.size hltc).trans HGC.out)
                    go_wp2_with fail
                    refine (CF4.out _ hb5).mono ?_
                    rintro r w6 ⟨rfl, hb6⟩
                    go_wp2_with fail
                    go_ret
                    exact ⟨rfl, bz_below (bz_more (bz_more bzc hb5) hb6)⟩
                  | true =>
                    have CR1 := Lib.hid (CR.out _ hr)
                    have CF4 := Lib.hid (CF.out 0 (by rw [HMO.out, if_neg h8, hr]; rfl))
                    clear hr
                    go_wp2_with fail
                    refine CR1.out.mono ?_
                    rintro r w5 ⟨rfl, hb5⟩
                    obtain ⟨c0, c1, c2, c3, c4⟩ := cells5 ((hb5.block wr.heap.size hltc).trans HGC.out)
                    go_wp2_with fail
                    refine (CF4.out _ hb5).mono ?_
                    rintro r w6 ⟨rfl, hb6⟩
                    go_wp2_with fail
                    go_ret
                    exact ⟨rfl, bz_below (bz_more (bz_more bzc hb5) hb6)⟩
        · have g3 : ((c : Int) != 0) = true := by simp; omega
          go_enter Tryd.func3, Tryd.ntmps3
          go_wp2_with fail
          refine (shown_any _ (tabs_below HT.out (bz_below BZ0.out))).mono ?_
          rintro r w1 ⟨rfl, hb1⟩
          have bz1 := bz_more BZ0.out hb1
          obtain ⟨⟨y0, y1, y2, y3, y4⟩, x0, x1⟩ := box52 bz1
          go_wp2_with fail
          refine (CL.out _ (bz_below bz1)).mono ?_
          rintro r w2 ⟨rfl, hb2⟩
          have bz2 := bz_more bz1 hb2
          clear y0 y1 y2 y3 y4 x0 x1
          obtain ⟨⟨y0, y1, y2, y3, y4⟩, x0, x1⟩ := box52 bz2
          go_wp2_with fail
          refine (C0.out _ (bz_below bz2)).mono ?_
          rintro r w3 ⟨rfl, hb3⟩
          have bz3 := bz_more bz2 hb3
          clear y0 y1 y2 y3 y4 x0 x1
          obtain ⟨⟨y0, y1, y2, y3, y4⟩, x0, x1⟩ := box52 bz3
          go_wp2_with fail
          go_ret
          exact ⟨rfl, bz_below bz3⟩
end Go.Proofs.YtcgolhaiciffeaaDoor
