/-
  The walks of record.Put and record.PutRow, and of message.parts at Logs. Printed by gen_msrow.py of this claim's writer.
-/
import Derived.Test.YtflojipkgaocnaaGreatDoorMsRec
import Derived.Test.YtflojipkgaocnaaGreatDoorMsParts
namespace Go.Proofs.YtflojipkgaocnaaGreatDoor
open Go.RowKit
set_option linter.unusedSimpArgs false
set_option linter.unusedVariables false

theorem box7 {w W : World} {a0 a1 a2 a3 a4 a5 a6 : Value} {t : TypeId} (hb : Below (w.heap.size + 1) (w.alloc (.cells #[a0, a1, a2, a3, a4, a5, a6] t)) W) :
    W.cell? ⟨w.heap.size, 0, none⟩ = some a0 ∧ W.cell? ⟨w.heap.size, 1, none⟩ = some a1 ∧ W.cell? ⟨w.heap.size, 2, none⟩ = some a2 ∧ W.cell? ⟨w.heap.size, 3, none⟩ = some a3 ∧ W.cell? ⟨w.heap.size, 4, none⟩ = some a4 ∧ W.cell? ⟨w.heap.size, 5, none⟩ = some a5 ∧ W.cell? ⟨w.heap.size, 6, none⟩ = some a6 :=
  ⟨(hb.cell (p := ⟨w.heap.size, 0, none⟩) (by simp)).trans (by simp), (hb.cell (p := ⟨w.heap.size, 1, none⟩) (by simp)).trans (by simp), (hb.cell (p := ⟨w.heap.size, 2, none⟩) (by simp)).trans (by simp), (hb.cell (p := ⟨w.heap.size, 3, none⟩) (by simp)).trans (by simp), (hb.cell (p := ⟨w.heap.size, 4, none⟩) (by simp)).trans (by simp), (hb.cell (p := ⟨w.heap.size, 5, none⟩) (by simp)).trans (by simp), (hb.cell (p := ⟨w.heap.size, 6, none⟩) (by simp)).trans (by simp)⟩
theorem putB_le (b : BW) : (putB b).size ≤ 20000 := by
  by_cases hf : fitsB b = 0
  · have h := fits_light hf
    rw [putB, if_pos hf, bstr_size, List.length_append]
    have h1 := headB_size h
    have h2 := bodyL_size h.e
    have h3 := h.n
    have h4 := size_listE (headB b)
    omega
  · rw [putB, if_neg hf]
    exact Nat.zero_le _
theorem bytesR_le (e : EN) : (bytesR e).length ≤ 20012 := by
  have h1 := putI_le e.pos
  have h2 := putI_le e.epoch
  have h3 := putB_le e.b
  have h4 := size_listE (putB e.b)
  unfold bytesR
  rw [List.length_append, List.length_append]
  omega
theorem catR_le : ∀ l : List EN, (catL bytesR l).length ≤ 20012 * l.length
  | [] => by simp [catL]
  | e :: l => by
    have h1 := catR_le l
    have h2 := bytesR_le e
    rw [catL_cons, List.length_append, List.length_cons]
    omega

set_option maxRecDepth 100000 in
set_option maxHeartbeats 6400000 in
theorem putR_any (B : Nat) (v : Value) (e : EN) (s : ByteArray) (hs : putR e = s) (w : World) (h : IsEntry B w v e) (hB : B ≤ w.heap.size) (hT : Tabs w) :
    Calls Tryz.prog 67 #[v] w fun r w' => r = .returned (.string s) ∧ Below w.heap.size w w' := by
  obtain ⟨lv, rfl, hl⟩ := h
  have HL := Lib.hid hl
  have HT := Lib.hid hT
  obtain ⟨ea, ec, rfl⟩ := hl.form
  have BX0 := Lib.hid (bx_new (w := w) (.cells #[.int .i64 e.pos, .int .i64 e.epoch, .string e.b.stream, .int .i64 e.b.expect, .int .i64 e.b.session, .int .i64 e.b.seq, .slice ea e.b.events.length ec] 53))
  obtain ⟨q, hq⟩ : ∃ q, rightR e = q := ⟨_, rfl⟩
  have CR := Lib.hid (rightR_any B _ e q hq _ ⟨_, rfl, HL.out.keep (bx_below BX0.out) hB⟩ (Nat.le_trans hB (bx_below BX0.out).size) (tabs_below HT.out (bx_below BX0.out)))
  rw [putR, hq] at hs
  clear hl hT hq
  cases q with
  | false =>
    obtain rfl : ⟨#[]⟩ = s := by rw [← hs, if_neg (by decide)]
    clear hs
    go_enter Tryz.func67, Tryz.ntmps67
    go_wp2_with fail
    refine CR.out.mono ?_
    rintro r w1 ⟨rfl, hb1⟩
    go_wp2_with fail
    go_ret
    exact ⟨rfl, bx_below (bx_more BX0.out hb1)⟩
  | true =>
    have z1 := pN_size e.pos
    have z2 := pN_size e.epoch
    have z3 := putB_le e.b
    have hsum : pN e.pos ++ pN e.epoch ++ putB e.b = s := by
      rw [← hs, if_pos rfl]
      apply ext_listE
      rw [list_addE, list_addE, bstr_list, List.append_assoc]
      rfl
    have HS := Lib.hid hsum
    have C1 := Lib.hid (pN_any e.pos)
    have C2 := Lib.hid (pN_any e.epoch)
    have C3 := Lib.hid (fun (X : World) (hX : Below w.heap.size w X) => putB_all B (.agg #[.string e.b.stream, .int .i64 e.b.expect, .int .i64 e.b.session, .int .i64 e.b.seq, .slice ea e.b.events.length ec]) e.b _ rfl X ⟨_, rfl, HL.out.keep hX hB⟩ (Nat.le_trans hB hX.size) (tabs_below HT.out hX))
    generalize pN e.pos = P1 at z1 C1 HS
    generalize pN e.epoch = P2 at z2 C2 HS
    generalize putB e.b = P3 at z3 C3 HS
    have a1 : ∀ W : World, (Op.stringOp .add P1 P2).run Tryz.prog W = .ok (.string (P1 ++ P2)) W := fun W => run_string_add_sum (P := Tryz.prog) (w := W) _ _ (by omega)
    have a2 : ∀ W : World, (Op.stringOp .add (P1 ++ P2) P3).run Tryz.prog W = .ok (.string (P1 ++ P2 ++ P3)) W := fun W => run_string_add_sum (P := Tryz.prog) (w := W) _ _ (by rw [ByteArray.size_append]; omega)
    have MKS := Lib.hid (fun (X' : World) (hk : Below (w.heap.size + 1) (w.alloc (.cells #[.int .i64 e.pos, .int .i64 e.epoch, .string e.b.stream, .int .i64 e.b.expect, .int .i64 e.b.session, .int .i64 e.b.seq, .slice ea e.b.events.length ec] 53)) X') => (show X'.cell? ⟨w.heap.size, 0, none⟩ = some (.int .i64 e.pos) ∧ X'.cell? ⟨w.heap.size, 1, none⟩ = some (.int .i64 e.epoch) ∧ X'.cell? ⟨w.heap.size, 2, none⟩ = some (.string e.b.stream) ∧ X'.cell? ⟨w.heap.size, 3, none⟩ = some (.int .i64 e.b.expect) ∧ X'.cell? ⟨w.heap.size, 4, none⟩ = some (.int .i64 e.b.session) ∧ X'.cell? ⟨w.heap.size, 5, none⟩ = some (.int .i64 e.b.seq) ∧ X'.cell? ⟨w.heap.size, 6, none⟩ = some (.slice ea e.b.events.length ec) ∧ Below (w.heap.size + 1) (w.alloc (.cells #[.int .i64 e.pos, .int .i64 e.epoch, .string e.b.stream, .int .i64 e.b.expect, .int .i64 e.b.session, .int .i64 e.b.seq, .slice ea e.b.events.length ec] 53)) X' from (fun h => ⟨h.1, h.2.1, h.2.2.1, h.2.2.2.1, h.2.2.2.2.1, h.2.2.2.2.2.1, h.2.2.2.2.2.2, hk⟩) (box7 hk)))
    have KEEP := Lib.hid (fun (X' X'' : World) (hS : X'.cell? ⟨w.heap.size, 0, none⟩ = some (.int .i64 e.pos) ∧ X'.cell? ⟨w.heap.size, 1, none⟩ = some (.int .i64 e.epoch) ∧ X'.cell? ⟨w.heap.size, 2, none⟩ = some (.string e.b.stream) ∧ X'.cell? ⟨w.heap.size, 3, none⟩ = some (.int .i64 e.b.expect) ∧ X'.cell? ⟨w.heap.size, 4, none⟩ = some (.int .i64 e.b.session) ∧ X'.cell? ⟨w.heap.size, 5, none⟩ = some (.int .i64 e.b.seq) ∧ X'.cell? ⟨w.heap.size, 6, none⟩ = some (.slice ea e.b.events.length ec) ∧ Below (w.heap.size + 1) (w.alloc (.cells #[.int .i64 e.pos, .int .i64 e.epoch, .string e.b.stream, .int .i64 e.b.expect, .int .i64 e.b.session, .int .i64 e.b.seq, .slice ea e.b.events.length ec] 53)) X') (k : Below X'.heap.size X' X'') => MKS.out X'' (bx_more hS.2.2.2.2.2.2.2 k))
    clear hs hsum
    go_enter Tryz.func67, Tryz.ntmps67
    go_wp2_with fail
    refine CR.out.mono ?_
    rintro r w1 ⟨rfl, hb1⟩
    have hh := MKS.out w1.drew (bx_more BX0.out hb1).drew
    obtain ⟨y0, y1, y2, y3, y4, y5, y6⟩ := box7 (bx_more BX0.out hb1)
    clear hb1
    go_wp2_with fail
    go_region_held3 (fun X' => X'.cell? ⟨w.heap.size, 0, none⟩ = some (.int .i64 e.pos) ∧ X'.cell? ⟨w.heap.size, 1, none⟩ = some (.int .i64 e.epoch) ∧ X'.cell? ⟨w.heap.size, 2, none⟩ = some (.string e.b.stream) ∧ X'.cell? ⟨w.heap.size, 3, none⟩ = some (.int .i64 e.b.expect) ∧ X'.cell? ⟨w.heap.size, 4, none⟩ = some (.int .i64 e.b.session) ∧ X'.cell? ⟨w.heap.size, 5, none⟩ = some (.int .i64 e.b.seq) ∧ X'.cell? ⟨w.heap.size, 6, none⟩ = some (.slice ea e.b.events.length ec) ∧ Below (w.heap.size + 1) (w.alloc (.cells #[.int .i64 e.pos, .int .i64 e.epoch, .string e.b.stream, .int .i64 e.b.expect, .int .i64 e.b.session, .int .i64 e.b.seq, .slice ea e.b.events.length ec] 53)) X') (first | exact hh | exact KEEP.out _ _ (by assumption) (by assumption))
      (first
        | ((with_reducible refine (C1.out _).mono ?_); rintro r w2 ⟨rfl, hb2⟩)
        | ((with_reducible refine (C2.out _).mono ?_); rintro r w3 ⟨rfl, hb3⟩)
        | ((with_reducible refine (C3.out _ (bx_below (KEEP.out _ _ (KEEP.out _ _ hh hb2) hb3).2.2.2.2.2.2.2)).mono ?_); rintro r w4 ⟨rfl, hb4⟩))
    have HF := Lib.hid (bx_below (KEEP.out _ _ (KEEP.out _ _ (KEEP.out _ _ hh hb2) hb3) hb4).2.2.2.2.2.2.2)
    clear a1 a2 hh hb2 hb3 hb4
    go_wp2_with fail
    go_ret
    exact ⟨ret_str HS.out, HF.out⟩

theorem any_right (l : List EN) : l.any (fun x => !rightR x) = !(l.all rightR) := by
  induction l with
  | nil => rfl
  | cons a l ih => simp only [List.any_cons, List.all_cons, ih, Bool.not_and]

set_option maxRecDepth 100000 in
set_option maxHeartbeats 6400000 in
theorem putRow_any (B : Nat) (v : Value) (l : List EN) (s : ByteArray) (hs : putRow l = s) (w : World) (h : IsEntries B w v l) (hB : B ≤ w.heap.size) (hT : Tabs w) (hl : l.length ≤ 1000) :
    Calls Tryz.prog 42 #[v] w fun r w' => r = .returned (.string s) ∧ Below w.heap.size w w' := by
  have HE := Lib.hid h
  have HT := Lib.hid hT
  obtain ⟨a, cap, rfl⟩ := h.form
  obtain ⟨q, hq⟩ : ∃ q, l.any (fun x => !rightR x) = q := ⟨_, rfl⟩
  have CC := Lib.hid (conR_any B _ l q hq w h hB hT)
  rw [putRow, hq] at hs
  have HQ := Lib.hid hq
  clear h hT hq
  cases q with
  | true =>
    obtain rfl : ⟨#[]⟩ = s := by rw [← hs, if_pos rfl]
    clear hs
    go_enter Tryz.func42, Tryz.ntmps42
    go_wp2_with fail
    refine CC.out.mono ?_
    rintro r w1 ⟨rfl, hb1⟩
    go_wp2_with fail
    go_ret
    exact ⟨rfl, hb1⟩
  | false =>
    obtain rfl : bstr (putL bytesR l) = s := by rw [← hs, if_neg (by decide)]
    have hall : ∀ x ∈ l, rightR x = true := fun x hx => by
      have := List.any_eq_false.1 HQ.out x hx
      simpa using this
    have HALL := Lib.hid hall
    have CN := Lib.hid (fun X : World => pN_any (l.length : Int) X)
    have zn := pN_size (l.length : Int)
    clear hs hall
    go_enter Tryz.func42, Tryz.ntmps42
    go_wp2_with fail
    refine CC.out.mono ?_
    rintro r w1 ⟨rfl, hb1⟩
    have HB1 := Lib.hid hb1
    have BN := Lib.hid (builder_new w1)
    have HA1 := Lib.hid ((Below.refl w1.heap.size w1).alloc (Nat.le_refl _) (.cells #[.pointer none, .slice none 0 0] 100))
    clear hb1
    go_wp2_with fail
    refine (CN.out _).mono ?_
    rintro r w2 ⟨rfl, hb2⟩
    have BN2 := Lib.hid (builder_below hb2 BN.out)
    have HA2 := Lib.hid (bstep HA1.out hb2)
    clear hb2
    have CW := Lib.hid (fun X hX hY => writeString_any w1.heap.size w1.heap.size [] (pN (l.length : Int)) X hX (by simp only [List.length_nil]; omega) hY)
    go_wp2_with fail
    refine (CW.out _ BN2.out HA2.out.size).mono ?_
    rintro r w3 ⟨rfl, bn3, hb3⟩
    have BN3 := Lib.hid bn3
    have HA3 := Lib.hid (HA2.out.trans hb3)
    clear bn3 hb3
    go_wp2_with fail
    go_loopw [5, 14] (fun _ t14 wr => ∃ k : Nat, k ≤ l.length ∧ t14 = .int .i64 k ∧ Lib.IsBuilder 100 5 w1.heap.size w1.heap.size (bcells (putN (clampN l.length) ++ catL bytesR (l.take k))) wr ∧ Below w1.heap.size w1 wr) (fun _ t14 _ => l.length - (intOf t14).toNat)
    case atStart => exact ⟨0, Nat.zero_le _, rfl, (by rw [show catL bytesR (l.take 0) = [] from rfl, List.append_nil]; exact BN3.out), HA3.out⟩
    case round =>
      obtain ⟨k, hk, rfl, hbk, hbl⟩ := hrel
      have HBK := Lib.hid hbk
      have HBL := Lib.hid hbl
      clear hbk hbl
      by_cases hlt : k < l.length
      · obtain ⟨b, off, cap', he, hblk, _, hc1, hc2, hc3, hc4, hc5, hc6, ea, ec, hc7, hev⟩ := (HE.out.keep (bstep HB1.out HBL.out) hB).get k hlt
        obtain ⟨rfl, -, rfl⟩ : a = some ⟨b, off, none⟩ ∧ l.length = l.length ∧ cap = cap' := by injection he with e1 e2 e3; exact ⟨e1, e2, e3⟩
        clear he
        have hry := HALL.out l[k] (List.getElem_mem hlt)
        have HTK := Lib.hid (catL_take (put := bytesR) hlt)
        have zk := catR_le (l.take k)
        rw [List.length_take] at zk
        have z6 := putN_len6 (clampN_le (l.length : Int))
        obtain ⟨e, hy⟩ : ∃ e, l[k] = e := ⟨_, rfl⟩
        rw [hy] at hc1 hc2 hc3 hc4 hc5 hc6 hc7 hev hry HTK
        have HEV := Lib.hid hev
        have zy := bytesR_le e
        have hpr : putR e = bstr (bytesR e) := by rw [putR, if_pos hry]
        have HBX := Lib.hid ((Below.refl wr.heap.size wr).alloc (Nat.le_refl _) (.cells #[.int .i64 e.pos, .int .i64 e.epoch, .string e.b.stream, .int .i64 e.b.expect, .int .i64 e.b.session, .int .i64 e.b.seq, .slice ea e.b.events.length ec] 53))
        have CP := Lib.hid (fun (X : World) (hX : Below wr.heap.size wr X) => putR_any wr.heap.size (.agg #[.int .i64 e.pos, .int .i64 e.epoch, .string e.b.stream, .int .i64 e.b.expect, .int .i64 e.b.session, .int .i64 e.b.seq, .slice ea e.b.events.length ec]) e _ hpr X ⟨_, rfl, (HEV.out.up (Nat.le_trans hB (bstep HB1.out HBL.out).size)).keep hX (Nat.le_refl _)⟩ hX.size (tabs_below HT.out (bstep (bstep HB1.out HBL.out) hX)))
        have CWS := Lib.hid (fun X hX hY => writeString_any w1.heap.size w1.heap.size (putN (clampN l.length) ++ catL bytesR (l.take k)) (bstr (bytesR e)) X hX (by rw [List.length_append, bstr_size]; omega) hY)
        have i1 : (0 : Int) ≤ (k : Int) := by omega
        have i2 : (k : Int) < (l.length : Int) := by omega
        clear hy hev hry hpr zk z6 zy zn
        go_wp2_with fail
        refine (CP.out _ HBX.out).mono ?_
        rintro r w8 ⟨rfl, hb8⟩
        have HB8 := Lib.hid (bstep HBX.out hb8)
        clear hb8
        go_wp2_with fail
        refine (CWS.out _ (builder_below HB8.out HBK.out) (bstep HBL.out HB8.out).size).mono ?_
        rintro r w9 ⟨rfl, bn9, hb9⟩
        have BN9 := Lib.hid bn9
        have HB9 := Lib.hid ((bstep HBL.out HB8.out).trans hb9)
        clear bn9 hb9
        go_wp2_with fail
        go_roundw
        case rel =>
          refine ⟨k + 1, by omega, by go_num, ?_, HB9.out⟩
          rw [HTK.out, ← List.append_assoc]
          exact BN9.out
        case measure => simp [intOf]; omega
      · have g : ¬ ((k : Int) < (l.length : Int)) := by omega
        have hkl : l.take k = l := List.take_of_length_le (by omega)
        have hbk := HBK.out
        rw [hkl] at hbk
        have HBK2 := Lib.hid hbk
        clear hkl hbk
        go_wp2_with fail
        refine (builder_string _ _ _ _ HBK2.out HBL.out.size).mono ?_
        rintro r w8 ⟨rfl, hb8⟩
        go_wp2_with fail
        go_ret
        exact ⟨rfl, bstep HB1.out (HBL.out.trans hb8)⟩

theorem putRow_empty (l : List EN) : (putRow l).toList.isEmpty = !(l.all rightR) := by
  rw [Bool.eq_iff_iff, List.isEmpty_iff, ByteArray.toList_eq, putRow, any_right]
  cases h : l.all rightR
  · simp
  · simp only [Bool.not_true, Bool.false_eq_true, if_false, bstr_list, iff_false]
    intro e
    have h1 := putN_pos (clampN l.length)
    rw [(List.append_eq_nil_iff.1 e).1] at h1
    simp at h1
theorem run_fieldG (x0 x1 x2 x3 x4 x5 x6 : Value) (W : World) : (Instr.field 69 (.agg #[x0, x1, x2, x3, x4, x5, x6]) 6).run Tryz.prog W = .ok x6 W := by kernel_rfl

set_option maxRecDepth 100000 in
set_option maxHeartbeats 3200000 in
theorem parts_logs (B : Nat) (v : Value) (a b c d e f : Int) (l : List EN) (w : World) (h : IsMsg B w v (.logs a b c d e f l)) (hB : B ≤ w.heap.size) (hT : Tabs w) (hl : l.length ≤ 1000) :
    Calls Tryz.prog 25 #[v] w fun en w' => GotRest (.logs a b c d e f l) w en w' := by
  have HK : HasKind v 7 := hasKind h
  obtain ⟨lv, rfl, he⟩ := h
  have HE := Lib.hid he
  have HT := Lib.hid hT
  obtain ⟨ea, ec, rfl⟩ := he.form
  obtain ⟨T, p, F, hv, hm, hcf, hc⟩ := HK
  injection hv with hv1 hv2
  subst hv1 hv2
  have HC := Lib.hid hc
  obtain ⟨s, hs⟩ : ∃ s, putRow l = s := ⟨_, rfl⟩
  have hem := putRow_empty l
  rw [hs] at hem
  have HS := Lib.hid (fun (X : World) (hX : Below w.heap.size w X) => putRow_any B _ l s hs X (HE.out.keep hX hB) (Nat.le_trans hB hX.size) (tabs_below HT.out hX) hl)
  have hrest : bstr (Msg.logs a b c d e f l).rest = s := by rw [← hs]; rfl
  have HR := Lib.hid hrest
  have hok : (Msg.logs a b c d e f l).restOk = (decide (l.length ≤ 8) && l.all rightR) := rfl
  obtain ⟨q, hq⟩ : ∃ q, l.all rightR = q := ⟨_, rfl⟩
  rw [hq] at hok hem
  have HOK := Lib.hid hok
  have ta : ∀ (W : World) (v : Value), (Instr.typeAssert (.iface 69 v) 34 69 false).run Tryz.prog W = .ok v W := fun W v => by kernel_rfl
  have fa := run_fieldG
  have HB0 := Lib.hid ((Below.refl w.heap.size w).alloc (Nat.le_refl _) (.cells #[.pointer none, .slice none 0 0] 100))
  clear he hT hc hs hrest hok hq
  by_cases h8 : l.length ≤ 8
  · have g8 : (l.length : Int) ≤ 8 := by omega
    have H8 := Lib.hid h8
    clear h8
    cases q with
    | true =>
      have q1 : s.toList.isEmpty = false := hem
      clear hem
      go_enter Tryz.func25, Tryz.ntmps25
      go_wp2_with fail
      refine (HC.out _).mono ?_
      rintro en w1 ⟨rfl, hb1⟩
      have HB := Lib.hid (bstep HB0.out hb1)
      clear hb1
      go_wp2_with fail
      refine (HS.out _ HB.out).mono ?_
      rintro en w2 ⟨rfl, hb2⟩
      have HB2 := Lib.hid (bstep HB.out hb2)
      clear hb2
      go_wp2_with fail
      refine (HS.out _ HB2.out).mono ?_
      rintro en w3 ⟨rfl, hb3⟩
      have HB3 := Lib.hid (bstep HB2.out hb3)
      clear hb3
      go_wp2_with fail
      go_ret2
      refine ⟨?_, HB3.out⟩
      rw [HR.out, HOK.out, decide_eq_true H8.out]
      rfl
    | false =>
      have q1 : s.toList.isEmpty = true := hem
      clear hem
      go_enter Tryz.func25, Tryz.ntmps25
      go_wp2_with fail
      refine (HC.out _).mono ?_
      rintro en w1 ⟨rfl, hb1⟩
      have HB := Lib.hid (bstep HB0.out hb1)
      clear hb1
      go_wp2_with fail
      refine (HS.out _ HB.out).mono ?_
      rintro en w2 ⟨rfl, hb2⟩
      have HB2 := Lib.hid (bstep HB.out hb2)
      clear hb2
      go_wp2_with fail
      refine (HS.out _ HB2.out).mono ?_
      rintro en w3 ⟨rfl, hb3⟩
      have HB3 := Lib.hid (bstep HB2.out hb3)
      clear hb3
      go_wp2_with fail
      go_ret2
      refine ⟨?_, HB3.out⟩
      rw [HR.out, HOK.out, Bool.and_false]
      rfl
  · have g8 : ¬ (l.length : Int) ≤ 8 := by omega
    have H8 := Lib.hid h8
    clear h8 hem
    go_enter Tryz.func25, Tryz.ntmps25
    go_wp2_with fail
    refine (HC.out _).mono ?_
    rintro en w1 ⟨rfl, hb1⟩
    have HB := Lib.hid (bstep HB0.out hb1)
    clear hb1
    go_wp2_with fail
    refine (HS.out _ HB.out).mono ?_
    rintro en w2 ⟨rfl, hb2⟩
    have HB2 := Lib.hid (bstep HB.out hb2)
    clear hb2
    go_wp2_with fail
    go_ret2
    refine ⟨?_, HB2.out⟩
    rw [HR.out, HOK.out, decide_eq_false H8.out, Bool.false_and]
    rfl
end Go.Proofs.YtflojipkgaocnaaGreatDoor
