/-
  The walks of bucketlineref5.Right, Fits, bytes, Put and PutBatch. Printed by gen_evref5.py of this claim's writer.
-/
import Derived.Test.YtcgolhaiciffeaaDoorEvShown
import Derived.Test.YtcgolhaiciffeaaDoorEvNumRef
import Derived.Test.YtcgolhaiciffeaaDoorEvRunes
namespace Go.Proofs.YtcgolhaiciffeaaDoor
open Go.RowKit

theorem rT_any (s : ByteArray) (hs : s.size ≤ 4611686018427387904) (w : World) : Calls Tryd.prog 35 #[.string s] w fun e w' => e = .returned (.string (pT s)) ∧ Below w.heap.size w w' := refPutText_any s w hs
theorem rN_any (n : Int) (w : World) : Calls Tryd.prog 37 #[.int .i64 n] w fun e w' => e = .returned (.string (pN n)) ∧ Below w.heap.size w w' := refPut_any n w
theorem rI_any (n : Int) (w : World) : Calls Tryd.prog 36 #[.int .i64 n] w fun e w' => e = .returned (.string (pI n)) ∧ Below w.heap.size w w' := refPutInt_any n w

set_option maxHeartbeats 1600000 in
theorem refRight_any (e : EV) (he : LightE e) (b : Bool) (hb : rightE e = b) (w : World) :
    Calls Tryd.prog 13 #[.agg #[.string e.kind, .string e.data]] w fun r w' => r = .returned (.bool b) ∧ Below w.heap.size w w' := by
  have hb0 := bx_new (w := w) (.cells #[.string e.kind, .string e.data] 26)
  obtain ⟨nb, hn⟩ : ∃ x, nameB e.kind = x := ⟨_, rfl⟩
  have C := Lib.hid (refName_any e.kind (by have := he.k; omega) nb hn)
  cases nb with
  | false =>
    obtain rfl : false = b := by rw [← hb, rightE, hn, Bool.and_false]
    clear hb hn
    go_enter Tryd.func13, Tryd.ntmps13
    go_wp2_with fail
    refine (C.out _).mono ?_
    rintro r w1 ⟨rfl, hb1⟩
    go_wp2_with fail
    go_ret
    exact ⟨rfl, bx_below (bx_more hb0 hb1)⟩
  | true =>
    have HB := Lib.hid hb
    have HN := Lib.hid hn
    clear hb hn
    go_enter Tryd.func13, Tryd.ntmps13
    go_wp2_with fail
    refine (C.out _).mono ?_
    rintro r w1 ⟨rfl, hb1⟩
    have bx1 := bx_more hb0 hb1
    obtain ⟨y0, y1⟩ := box2 bx1
    go_wp2_with fail
    go_ret
    refine ⟨ret_bool ?_, bx_below bx1⟩
    rw [← HB.out, rightE, HN.out, Bool.and_true, decide_eq_decide]
    omega

set_option maxRecDepth 100000 in
set_option maxHeartbeats 3200000 in
theorem refFits_any (B : Nat) (v : Value) (b : BW) (c : Nat) (hc : fitsB b = c) (hLB : LightB b) (w : World) (h : IsBatch B w v b) (hB : B ≤ w.heap.size) :
    Calls Tryd.prog 16 #[v] w fun r w' => r = .returned (.int .i64 c) ∧ Below w.heap.size w w' := by
  obtain ⟨lv, rfl, hl⟩ := h
  have HL := Lib.hid hl
  obtain ⟨a, cap, rfl⟩ := hl.form
  have hmax : b.events.length ≤ 20 := hLB.n
  obtain ⟨nb, hn⟩ : ∃ x, nameB b.stream = x := ⟨_, rfl⟩
  have C1 := Lib.hid (refName_any b.stream (by have := hLB.s; omega) nb hn)
  have HC := Lib.hid hc
  have HN := Lib.hid hn
  have LL := Lib.hid hLB
  have HBB := Lib.hid hB
  have bx0 := bx_new (w := w) (.cells #[.string b.stream, .int .i64 b.expect, .int .i64 b.session, .int .i64 b.seq, .slice a b.events.length cap] 24)
  clear hl hn hc hLB hB
  cases nb with
  | false =>
    obtain rfl : 1 = c := by rw [← HC.out, fitsB, if_pos (show wrongB b from (.inl HN.out))]
    go_enter Tryd.func16, Tryd.ntmps16
    go_wp2_with fail
    refine (C1.out _).mono ?_
    rintro r w1 ⟨rfl, hb1⟩
    have bx1 := bx_more bx0 hb1
    obtain ⟨y0, y1, y2, y3, y4⟩ := box5 bx1
    go_wp2_with fail
    go_ret
    exact ⟨rfl, bx_below bx1⟩
  | true =>
    by_cases e0 : b.expect < (-1 : Int)
    · obtain rfl : 1 = c := by rw [← HC.out, fitsB, if_pos (show wrongB b from (.inr (.inl e0)))]
      go_enter Tryd.func16, Tryd.ntmps16
      go_wp2_with fail
      refine (C1.out _).mono ?_
      rintro r w1 ⟨rfl, hb1⟩
      have bx1 := bx_more bx0 hb1
      obtain ⟨y0, y1, y2, y3, y4⟩ := box5 bx1
      go_wp2_with fail
      go_ret
      exact ⟨rfl, bx_below bx1⟩
    · by_cases e1 : (274877906944 : Int) < b.expect
      · obtain rfl : 1 = c := by rw [← HC.out, fitsB, if_pos (show wrongB b from (.inr (.inr (.inl e1))))]
        go_enter Tryd.func16, Tryd.ntmps16
        go_wp2_with fail
        refine (C1.out _).mono ?_
        rintro r w1 ⟨rfl, hb1⟩
        have bx1 := bx_more bx0 hb1
        obtain ⟨y0, y1, y2, y3, y4⟩ := box5 bx1
        go_wp2_with fail
        go_ret
        exact ⟨rfl, bx_below bx1⟩
      · by_cases e2 : b.session < (1 : Int)
        · obtain rfl : 1 = c := by rw [← HC.out, fitsB, if_pos (show wrongB b from (.inr (.inr (.inr (.inl (by rw [numB, decide_eq_false (show ¬ 1 ≤ b.session by omega), Bool.false_and]))))))]
          go_enter Tryd.func16, Tryd.ntmps16
          go_wp2_with fail
          refine (C1.out _).mono ?_
          rintro r w1 ⟨rfl, hb1⟩
          have bx1 := bx_more bx0 hb1
          obtain ⟨y0, y1, y2, y3, y4⟩ := box5 bx1
          go_wp2_with fail
          go_ret
          exact ⟨rfl, bx_below bx1⟩
        · by_cases e3 : (274877906944 : Int) < b.session
          · obtain rfl : 1 = c := by rw [← HC.out, fitsB, if_pos (show wrongB b from (.inr (.inr (.inr (.inl (by rw [numB, decide_eq_false (show ¬ b.session ≤ 274877906944 by omega), Bool.and_false]))))))]
            go_enter Tryd.func16, Tryd.ntmps16
            go_wp2_with fail
            refine (C1.out _).mono ?_
            rintro r w1 ⟨rfl, hb1⟩
            have bx1 := bx_more bx0 hb1
            obtain ⟨y0, y1, y2, y3, y4⟩ := box5 bx1
            go_wp2_with fail
            go_ret
            exact ⟨rfl, bx_below bx1⟩
          · by_cases e4 : b.seq < (1 : Int)
            · obtain rfl : 1 = c := by rw [← HC.out, fitsB, if_pos (show wrongB b from (.inr (.inr (.inr (.inr (.inl (by rw [numB, decide_eq_false (show ¬ 1 ≤ b.seq by omega), Bool.false_and])))))))]
              go_enter Tryd.func16, Tryd.ntmps16
              go_wp2_with fail
              refine (C1.out _).mono ?_
              rintro r w1 ⟨rfl, hb1⟩
              have bx1 := bx_more bx0 hb1
              obtain ⟨y0, y1, y2, y3, y4⟩ := box5 bx1
              go_wp2_with fail
              go_ret
              exact ⟨rfl, bx_below bx1⟩
            · by_cases e5 : (274877906944 : Int) < b.seq
              · obtain rfl : 1 = c := by rw [← HC.out, fitsB, if_pos (show wrongB b from (.inr (.inr (.inr (.inr (.inl (by rw [numB, decide_eq_false (show ¬ b.seq ≤ 274877906944 by omega), Bool.and_false])))))))]
                go_enter Tryd.func16, Tryd.ntmps16
                go_wp2_with fail
                refine (C1.out _).mono ?_
                rintro r w1 ⟨rfl, hb1⟩
                have bx1 := bx_more bx0 hb1
                obtain ⟨y0, y1, y2, y3, y4⟩ := box5 bx1
                go_wp2_with fail
                go_ret
                exact ⟨rfl, bx_below bx1⟩
              · by_cases e6 : b.events.length = 0
                · have g6 : ((b.events.length : Int) == 0) = true := by rw [e6]; rfl
                  obtain rfl : 1 = c := by rw [← HC.out, fitsB, if_pos (show wrongB b from (.inr (.inr (.inr (.inr (.inr e6))))))]
                  clear e6
                  go_enter Tryd.func16, Tryd.ntmps16
                  go_wp2_with fail
                  refine (C1.out _).mono ?_
                  rintro r w1 ⟨rfl, hb1⟩
                  have bx1 := bx_more bx0 hb1
                  obtain ⟨y0, y1, y2, y3, y4⟩ := box5 bx1
                  go_wp2_with fail
                  go_ret
                  exact ⟨rfl, bx_below bx1⟩
                · have g6 : ((b.events.length : Int) == 0) = false := by rw [beq_eq_false_iff_ne]; omega
                  have NW := Lib.hid (show ¬ wrongB b by
                    rintro (h | h | h | h | h | h)
                    · rw [HN.out] at h; cases h
                    · omega
                    · omega
                    · rw [numB, decide_eq_true (show 1 ≤ b.session by omega), decide_eq_true (show b.session ≤ 274877906944 by omega)] at h; cases h
                    · rw [numB, decide_eq_true (show 1 ≤ b.seq by omega), decide_eq_true (show b.seq ≤ 274877906944 by omega)] at h; cases h
                    · omega)
                  by_cases e8 : 8 < b.events.length
                  · have g8 : (8 : Int) < (b.events.length : Int) := by omega
                    obtain rfl : 4 = c := by rw [← HC.out, fitsB, if_neg NW.out, if_pos e8]
                    go_enter Tryd.func16, Tryd.ntmps16
                    go_wp2_with fail
                    refine (C1.out _).mono ?_
                    rintro r w1 ⟨rfl, hb1⟩
                    have bx1 := bx_more bx0 hb1
                    obtain ⟨y0, y1, y2, y3, y4⟩ := box5 bx1
                    go_wp2_with fail
                    go_ret
                    exact ⟨rfl, bx_below bx1⟩
                  · have g8 : ¬ (8 : Int) < (b.events.length : Int) := by omega
                    go_enter Tryd.func16, Tryd.ntmps16
                    go_wp2_with fail
                    refine (C1.out _).mono ?_
                    rintro r w1 ⟨rfl, hb1⟩
                    have bx1 := bx_more bx0 hb1
                    obtain ⟨y0, y1, y2, y3, y4⟩ := box5 bx1
                    go_wp2_with fail
                    go_loopw [4, 5] (fun t4 _ wr => ∃ k : Nat, k ≤ b.events.length ∧ t4 = .int .i64 k ∧ (∀ i (hi : i < b.events.length), i < k → rightE b.events[i] = true) ∧ Below (w.heap.size + 1) (w.alloc (.cells #[.string b.stream, .int .i64 b.expect, .int .i64 b.session, .int .i64 b.seq, .slice a b.events.length cap] 24)) wr) (fun t4 _ _ => b.events.length - (intOf t4).toNat)
                    case atStart => exact ⟨0, Nat.zero_le _, rfl, fun i _ h => absurd h (by omega), bx1⟩
                    case round =>
                      obtain ⟨k, hk, rfl, hno, bx⟩ := hrel
                      have HNO := Lib.hid hno
                      clear hno y0 y1 y2 y3 y4
                      obtain ⟨y0, y1, y2, y3, y4⟩ := box5 bx
                      by_cases hlt : k < b.events.length
                      · obtain ⟨bb, off, cap', he, hblk, _, hc1, hc2⟩ := (HL.out.keep (bx_below bx) HBB.out).get k hlt
                        obtain ⟨rfl, -, rfl⟩ : a = some ⟨bb, off, none⟩ ∧ b.events.length = b.events.length ∧ cap = cap' := by injection he with e1 e2 e3; exact ⟨e1, e2, e3⟩
                        clear he
                        have hly : LightE b.events[k] := LL.out.e _ (List.getElem_mem hlt)
                        obtain ⟨y, hy⟩ : ∃ y, b.events[k] = y := ⟨_, rfl⟩
                        rw [hy] at hc1 hc2 hly
                        obtain ⟨q, hq⟩ : ∃ q, rightE y = q := ⟨_, rfl⟩
                        have CR := Lib.hid (refRight_any y hly q hq)
                        have HY := Lib.hid hy
                        have HQ := Lib.hid hq
                        have i1 : (0 : Int) ≤ (k : Int) := by omega
                        have i2 : (k : Int) < (b.events.length : Int) := by omega
                        clear hy hq hly
                        cases q with
                        | false =>
                          obtain rfl : 1 = c := by
                            rw [← HC.out, fitsB, if_neg NW.out, if_neg e8, if_pos]
                            rw [List.any_eq_true]
                            exact ⟨_, List.getElem_mem hlt, by rw [HY.out, HQ.out]; rfl⟩
                          go_wp2_with fail
                          refine (CR.out _).mono ?_
                          rintro r w2 ⟨rfl, hb2⟩
                          go_wp2_with fail
                          go_ret
                          exact ⟨rfl, bx_below (bx_more bx hb2)⟩
                        | true =>
                          go_wp2_with fail
                          refine (CR.out _).mono ?_
                          rintro r w2 ⟨rfl, hb2⟩
                          go_wp2_with fail
                          go_roundw
                          case rel =>
                            refine ⟨k + 1, by omega, by go_num, fun i hi hik => ?_, bx_more bx hb2⟩
                            by_cases e : i = k
                            · subst e
                              rw [HY.out]
                              exact HQ.out
                            · exact HNO.out i hi (by omega)
                          case measure => simp [intOf]; omega
                      · have i2 : ¬ (k : Int) < (b.events.length : Int) := by omega
                        obtain rfl : 0 = c := by
                          rw [← HC.out, fitsB, if_neg NW.out, if_neg e8, if_neg]
                          rw [Bool.not_eq_true, List.any_eq_false]
                          intro x hx
                          obtain ⟨i, hi, rfl⟩ := List.getElem_of_mem hx
                          rw [HNO.out i hi (by omega)]
                          decide
                        go_wp2_with fail
                        go_ret
                        exact ⟨rfl, bx_below bx⟩

set_option maxRecDepth 100000 in
set_option maxHeartbeats 1600000 in
theorem refBytes_any (e : EV) (he : LightE e) (w : World) :
    Calls Tryd.prog 29 #[.agg #[.string e.kind, .string e.data]] w fun r w' => r = .returned (.string (bytesE e)) ∧ Below w.heap.size w w' := by
  have z1 := pT_size e.kind
  have z2 := pT_size e.data
  have z3 := he.k
  have z4 := he.d
  have d1 := Lib.hid (rT_any e.kind (by omega))
  have d2 := Lib.hid (rT_any e.data (by omega))
  rw [show bytesE e = pT e.kind ++ pT e.data from rfl]
  generalize pT e.kind = P1 at z1 d1 ⊢
  generalize pT e.data = P2 at z2 d2 ⊢
  have a1 : ∀ W : World, (Op.stringOp .add (P1) (P2)).run Tryd.prog W = .ok (.string (P1 ++ P2)) W := fun W => run_string_add_sum (P := Tryd.prog) (w := W) _ _ (by first | omega | (simp only [ByteArray.size_append]; omega))
  have mkS : ∀ X : World, Below (w.heap.size + 1) (w.alloc (.cells #[.string e.kind, .string e.data] 26)) X → X.cell? ⟨w.heap.size, 0, none⟩ = some (.string e.kind) ∧ X.cell? ⟨w.heap.size, 1, none⟩ = some (.string e.data) ∧ Below (w.heap.size + 1) (w.alloc (.cells #[.string e.kind, .string e.data] 26)) X := fun X hk => ⟨(box2 hk).1, (box2 hk).2, hk⟩
  have keep : ∀ X X' : World, (X.cell? ⟨w.heap.size, 0, none⟩ = some (.string e.kind) ∧ X.cell? ⟨w.heap.size, 1, none⟩ = some (.string e.data) ∧ Below (w.heap.size + 1) (w.alloc (.cells #[.string e.kind, .string e.data] 26)) X) → Below X.heap.size X X' → X'.cell? ⟨w.heap.size, 0, none⟩ = some (.string e.kind) ∧ X'.cell? ⟨w.heap.size, 1, none⟩ = some (.string e.data) ∧ Below (w.heap.size + 1) (w.alloc (.cells #[.string e.kind, .string e.data] 26)) X' := fun X X' h k => mkS X' (bx_more h.2.2 k)
  have hh := mkS (w.alloc (.cells #[.string e.kind, .string e.data] 26)).drew (bx_new _).drew
  have MK := Lib.hid mkS
  have KEEP := Lib.hid keep
  clear mkS keep he
  go_enter Tryd.func29, Tryd.ntmps29
  go_wp2_with fail
  go_region_held3 (fun X => X.cell? ⟨w.heap.size, 0, none⟩ = some (.string e.kind) ∧ X.cell? ⟨w.heap.size, 1, none⟩ = some (.string e.data) ∧ Below (w.heap.size + 1) (w.alloc (.cells #[.string e.kind, .string e.data] 26)) X) (first | exact hh | exact KEEP.out _ _ (by assumption) (by assumption))
    (first
      | ((with_reducible refine (d1.out _).mono ?_); rintro r w2 ⟨rfl, hb2⟩)
      | ((with_reducible refine (d2.out _).mono ?_); rintro r w3 ⟨rfl, hb3⟩))
  have hS3 := KEEP.out _ _ (KEEP.out _ _ hh hb2) hb3
  clear a1 hh
  go_wp2_with fail
  go_ret
  exact ⟨rfl, bx_below hS3.2.2⟩

set_option maxRecDepth 100000 in
set_option maxHeartbeats 1600000 in
theorem refPutE_any (e : EV) (he : LightE e) (s : ByteArray) (hs : putE e = s) (w : World) :
    Calls Tryd.prog 15 #[.agg #[.string e.kind, .string e.data]] w fun r w' => r = .returned (.string s) ∧ Below w.heap.size w w' := by
  have hb0 := bx_new (w := w) (.cells #[.string e.kind, .string e.data] 26)
  obtain ⟨q, hq⟩ : ∃ x, rightE e = x := ⟨_, rfl⟩
  have C := Lib.hid (refRight_any e he q hq (w.alloc (.cells #[.string e.kind, .string e.data] 26)))
  have C2 := Lib.hid (refBytes_any e he)
  rw [putE, hq] at hs
  clear hq he
  cases q with
  | false =>
    obtain rfl : ⟨#[]⟩ = s := by rw [← hs, if_neg (by decide)]
    clear hs
    go_enter Tryd.func15, Tryd.ntmps15
    go_wp2_with fail
    refine C.out.mono ?_
    rintro r w1 ⟨rfl, hb1⟩
    go_wp2_with fail
    go_ret
    exact ⟨rfl, bx_below (bx_more hb0 hb1)⟩
  | true =>
    obtain rfl : bytesE e = s := by rw [← hs, if_pos rfl]
    clear hs
    go_enter Tryd.func15, Tryd.ntmps15
    go_wp2_with fail
    refine C.out.mono ?_
    rintro r w1 ⟨rfl, hb1⟩
    have bx1 := bx_more hb0 hb1
    obtain ⟨y0, y1⟩ := box2 bx1
    go_wp2_with fail
    refine (C2.out _).mono ?_
    rintro r w2 ⟨rfl, hb2⟩
    go_wp2_with fail
    go_ret
    exact ⟨rfl, bx_below (bx_more bx1 hb2)⟩

set_option maxRecDepth 100000 in
set_option maxHeartbeats 3200000 in
theorem refPutB_any (B : Nat) (v : Value) (b : BW) (s : ByteArray) (hs : putB b = s) (w : World) (h : IsBatch B w v b) (hB : B ≤ w.heap.size) (hL : LightB b) :
    Calls Tryd.prog 18 #[v] w fun r w' => r = .returned (.string s) ∧ Below w.heap.size w w' := by
  have HV := Lib.hid h
  obtain ⟨lv, rfl, hl⟩ := h
  have HL := Lib.hid hl
  obtain ⟨a, cap, rfl⟩ := hl.form
  have hb0 := bx_new (w := w) (.cells #[.string b.stream, .int .i64 b.expect, .int .i64 b.session, .int .i64 b.seq, .slice a b.events.length cap] 24)
  obtain ⟨q, hq⟩ : ∃ x, fitsB b = x := ⟨_, rfl⟩
  have C := Lib.hid (refFits_any B _ b q hq hL _ (HV.out.keep (bx_below hb0) hB) (by rw [World.size_alloc]; omega))
  rw [putB, hq] at hs
  clear hq hl HV
  by_cases h0 : q = 0
  · subst h0
    rw [if_pos rfl] at hs
    have HS := Lib.hid hs
    have z1 := pT_size b.stream
    have z2 := pI_size b.expect
    have z3 := pN_size b.session
    have z4 := pN_size b.seq
    have z5 := pN_size b.events.length
    have z6 := hL.s
    have z7 := hL.n
    have d1 := Lib.hid (rT_any b.stream (by omega))
    have d2 := Lib.hid (rI_any b.expect)
    have d3 := Lib.hid (rN_any b.session)
    have d4 := Lib.hid (rN_any b.seq)
    have d5 := Lib.hid (rN_any b.events.length)
    have hh0 : headB b = pT b.stream ++ pI b.expect ++ pN b.session ++ pN b.seq ++ pN b.events.length := rfl
    have zh := headB_size hL
    generalize pT b.stream = P1 at z1 d1 hh0
    generalize pI b.expect = P2 at z2 d2 hh0
    generalize pN b.session = P3 at z3 d3 hh0
    generalize pN b.seq = P4 at z4 d4 hh0
    generalize pN b.events.length = P5 at z5 d5 hh0
    have a1 : ∀ W : World, (Op.stringOp .add (P1) (P2)).run Tryd.prog W = .ok (.string (P1 ++ P2)) W := fun W => run_string_add_sum (P := Tryd.prog) (w := W) _ _ (by first | omega | (simp only [ByteArray.size_append]; omega))
    have a2 : ∀ W : World, (Op.stringOp .add (P1 ++ P2) (P3)).run Tryd.prog W = .ok (.string (P1 ++ P2 ++ P3)) W := fun W => run_string_add_sum (P := Tryd.prog) (w := W) _ _ (by first | omega | (simp only [ByteArray.size_append]; omega))
    have a3 : ∀ W : World, (Op.stringOp .add (P1 ++ P2 ++ P3) (P4)).run Tryd.prog W = .ok (.string (P1 ++ P2 ++ P3 ++ P4)) W := fun W => run_string_add_sum (P := Tryd.prog) (w := W) _ _ (by first | omega | (simp only [ByteArray.size_append]; omega))
    have a4 : ∀ W : World, (Op.stringOp .add (P1 ++ P2 ++ P3 ++ P4) (P5)).run Tryd.prog W = .ok (.string (P1 ++ P2 ++ P3 ++ P4 ++ P5)) W := fun W => run_string_add_sum (P := Tryd.prog) (w := W) _ _ (by first | omega | (simp only [ByteArray.size_append]; omega))
    rw [hh0] at zh HS
    generalize hG : P1 ++ P2 ++ P3 ++ P4 ++ P5 = G at a4 zh HS
    have LL := Lib.hid hL
    have hgl : G.data.toList.length = G.size := by simp
    clear hs hh0 hG hL
    go_enter Tryd.func18, Tryd.ntmps18
    go_wp2_with fail
    refine C.out.mono ?_
    rintro r w1 ⟨rfl, hb1⟩
    have bx1 := bx_more hb0 hb1
    obtain ⟨y0, y1, y2, y3, y4⟩ := box5 bx1
    have mkS : ∀ X : World, Below (w.heap.size + 1) (w.alloc (.cells #[.string b.stream, .int .i64 b.expect, .int .i64 b.session, .int .i64 b.seq, .slice a b.events.length cap] 24)) X → X.cell? ⟨w.heap.size, 0, none⟩ = some (.string b.stream) ∧ X.cell? ⟨w.heap.size, 1, none⟩ = some (.int .i64 b.expect) ∧ X.cell? ⟨w.heap.size, 2, none⟩ = some (.int .i64 b.session) ∧ X.cell? ⟨w.heap.size, 3, none⟩ = some (.int .i64 b.seq) ∧ X.cell? ⟨w.heap.size, 4, none⟩ = some (.slice a b.events.length cap) ∧ w.heap.size + 1 ≤ X.heap.size ∧ Below (w.heap.size + 1) (w.alloc (.cells #[.string b.stream, .int .i64 b.expect, .int .i64 b.session, .int .i64 b.seq, .slice a b.events.length cap] 24)) X := fun X hk => ⟨(box5 hk).1, (box5 hk).2.1, (box5 hk).2.2.1, (box5 hk).2.2.2.1, (box5 hk).2.2.2.2, by have := hk.size; simpa using this, hk⟩
    have keep : ∀ X X' : World, (X.cell? ⟨w.heap.size, 0, none⟩ = some (.string b.stream) ∧ X.cell? ⟨w.heap.size, 1, none⟩ = some (.int .i64 b.expect) ∧ X.cell? ⟨w.heap.size, 2, none⟩ = some (.int .i64 b.session) ∧ X.cell? ⟨w.heap.size, 3, none⟩ = some (.int .i64 b.seq) ∧ X.cell? ⟨w.heap.size, 4, none⟩ = some (.slice a b.events.length cap) ∧ w.heap.size + 1 ≤ X.heap.size ∧ Below (w.heap.size + 1) (w.alloc (.cells #[.string b.stream, .int .i64 b.expect, .int .i64 b.session, .int .i64 b.seq, .slice a b.events.length cap] 24)) X) → Below X.heap.size X X' → X'.cell? ⟨w.heap.size, 0, none⟩ = some (.string b.stream) ∧ X'.cell? ⟨w.heap.size, 1, none⟩ = some (.int .i64 b.expect) ∧ X'.cell? ⟨w.heap.size, 2, none⟩ = some (.int .i64 b.session) ∧ X'.cell? ⟨w.heap.size, 3, none⟩ = some (.int .i64 b.seq) ∧ X'.cell? ⟨w.heap.size, 4, none⟩ = some (.slice a b.events.length cap) ∧ w.heap.size + 1 ≤ X'.heap.size ∧ Below (w.heap.size + 1) (w.alloc (.cells #[.string b.stream, .int .i64 b.expect, .int .i64 b.session, .int .i64 b.seq, .slice a b.events.length cap] 24)) X' := fun X X' h k => mkS X' (bx_more h.2.2.2.2.2.2 k)
    have hh := mkS _ bx1.drew
    have MK := Lib.hid mkS
    have KEEP := Lib.hid keep
    clear mkS keep
    go_wp2_with fail
    go_region_held3 (fun X => X.cell? ⟨w.heap.size, 0, none⟩ = some (.string b.stream) ∧ X.cell? ⟨w.heap.size, 1, none⟩ = some (.int .i64 b.expect) ∧ X.cell? ⟨w.heap.size, 2, none⟩ = some (.int .i64 b.session) ∧ X.cell? ⟨w.heap.size, 3, none⟩ = some (.int .i64 b.seq) ∧ X.cell? ⟨w.heap.size, 4, none⟩ = some (.slice a b.events.length cap) ∧ w.heap.size + 1 ≤ X.heap.size ∧ Below (w.heap.size + 1) (w.alloc (.cells #[.string b.stream, .int .i64 b.expect, .int .i64 b.session, .int .i64 b.seq, .slice a b.events.length cap] 24)) X) (first | exact hh | exact KEEP.out _ _ (by assumption) (by assumption))
      (first
        | ((with_reducible refine (d1.out _).mono ?_); rintro r w2 ⟨rfl, hb2⟩)
        | ((with_reducible refine (d2.out _).mono ?_); rintro r w3 ⟨rfl, hb3⟩)
        | ((with_reducible refine (d3.out _).mono ?_); rintro r w4 ⟨rfl, hb4⟩)
        | ((with_reducible refine (d4.out _).mono ?_); rintro r w5 ⟨rfl, hb5⟩)
        | ((with_reducible refine (d5.out _).mono ?_); rintro r w6 ⟨rfl, hb6⟩))
    have hK7 := KEEP.out _ _ (KEEP.out _ _ (KEEP.out _ _ (KEEP.out _ _ (KEEP.out _ _ hh hb2) hb3) hb4) hb5) hb6
    obtain ⟨y0, y1, y2, y3, y4, hz7, bx7⟩ := hK7
    clear a1 a2 a3 a4 hh
    have hG0 : G = bstr (G.data.toList ++ bodyL (b.events.take 0)) := by simp [bodyL, bstr]
    have HG0 := Lib.hid hG0
    clear hG0
    go_wp2_with fail
    go_loopw [3, 4] (fun t3 t4 wr => ∃ k : Nat, k ≤ b.events.length ∧ t4 = .int .i64 k ∧ t3 = .string (bstr (G.data.toList ++ bodyL (b.events.take k))) ∧ Below (w.heap.size + 1) (w.alloc (.cells #[.string b.stream, .int .i64 b.expect, .int .i64 b.session, .int .i64 b.seq, .slice a b.events.length cap] 24)) wr) (fun _ t4 _ => b.events.length - (intOf t4).toNat)
    case atStart => exact ⟨0, Nat.zero_le _, rfl, by rw [← HG0.out], bx7⟩
    case round =>
      obtain ⟨k, hk, rfl, rfl, bxk⟩ := hrel
      obtain ⟨y0, y1, y2, y3, y4, _, _⟩ := MK.out wr bxk
      have zb := bodyL_size (l := b.events.take k) (fun x hx => LL.out.e x (List.mem_of_mem_take hx))
      rw [List.length_take] at zb
      by_cases hlt : k < b.events.length
      · obtain ⟨bb, off, cap', he, hblk, _, hc1, hc2⟩ := (HL.out.keep (bx_below bxk) hB).get k hlt
        obtain ⟨rfl, -, rfl⟩ : a = some ⟨bb, off, none⟩ ∧ b.events.length = b.events.length ∧ cap = cap' := by injection he with e1 e2 e3; exact ⟨e1, e2, e3⟩
        clear he
        have hly : LightE b.events[k] := LL.out.e _ (List.getElem_mem hlt)
        have zy := bytesE_size hly
        have HTK := Lib.hid (bodyL_take hlt)
        obtain ⟨y, hy⟩ : ∃ y, b.events[k] = y := ⟨_, rfl⟩
        rw [hy] at hc1 hc2 hly zy HTK
        have D := Lib.hid (refBytes_any y hly)
        obtain ⟨Y, hY⟩ : ∃ Y, bytesE y = Y := ⟨_, rfl⟩
        rw [hY] at D zy HTK
        obtain ⟨T, hT⟩ : ∃ T, G.data.toList ++ bodyL (b.events.take k) = T := ⟨_, rfl⟩
        have zT : T.length ≤ 100000 := by rw [← hT, List.length_append]; omega
        rw [hT]
        have ha : ∀ W : World, (Op.stringOp .add (bstr T) Y).run Tryd.prog W = .ok (.string (bstr (T ++ Y.data.toList))) W := fun W => by
          rw [show bstr (T ++ Y.data.toList) = bstr T ++ Y from ByteArray.ext (Array.toList_inj.1 (by simp [bstr]))]
          exact run_string_add_sum (P := Tryd.prog) (w := W) _ _ (by rw [bstr_size]; omega)
        have HTT := Lib.hid hT
        have i1 : (0 : Int) ≤ (k : Int) := by omega
        have i2 : (k : Int) < (b.events.length : Int) := by omega
        clear hy hY hly hT
        go_wp2_with fail
        refine (D.out _).mono ?_
        rintro r w8 ⟨rfl, hb8⟩
        go_wp2_with fail
        go_roundw
        case rel => exact ⟨k + 1, by omega, by go_num, by rw [HTK.out, ← List.append_assoc, HTT.out], bx_more bxk hb8⟩
        case measure => simp [intOf]; omega
      · have g : ¬ ((k : Int) < (b.events.length : Int)) := by omega
        have hkl : b.events.take k = b.events := List.take_of_length_le (by omega)
        rw [hkl]
        clear hkl
        go_wp2_with fail
        go_ret
        exact ⟨ret_str HS.out, bx_below bxk⟩
  · rw [if_neg h0] at hs
    subst hs
    have g0 : ((q : Int) != 0) = true := by simp; omega
    clear hL
    go_enter Tryd.func18, Tryd.ntmps18
    go_wp2_with fail
    refine C.out.mono ?_
    rintro r w1 ⟨rfl, hb1⟩
    go_wp2_with fail
    go_ret
    exact ⟨rfl, bx_below (bx_more hb0 hb1)⟩
end Go.Proofs.YtcgolhaiciffeaaDoor
