/-
  MsRef8, in one text.
-/
import Derived.Test.YtflojipkgaocnaaGreatDoorMsRefB
import Derived.Deep.CutBlock
import Derived.Deep.CutRange
import Derived.BigQuiet
import Derived.IntWalk
namespace Go.Proofs.YtflojipkgaocnaaGreatDoor
open Go.RowKit
set_option linter.unusedSimpArgs false
set_option linter.unusedVariables false

/-- The bytes of one part, by the letter of the shape. -/
def partF (f : FW) (c j : Nat) : List UInt8 :=
  if c = 110 then putI (f.nums.getD j 0)
  else if c = 99 then putL putI f.chain
  else if c = 100 then putL putI f.since
  else if c = 111 then putL putI f.boot
  else if c = 109 then putL putM2 f.marks
  else if c = 101 then putL bytesR f.entries
  else if c = 118 then putL (fun v => (putE v).data.toList) f.events
  else if c = 98 then (putB f.b).data.toList
  else putT f.stream.data.toList
def goF (f : FW) : List UInt8 → Nat → List UInt8
  | [], _ => []
  | c :: l, j => partF f c.toNat j ++ goF f l (if c.toNat = 110 then j + 1 else j)
def cntN : List UInt8 → Nat
  | [] => 0
  | c :: l => (if c.toNat = 110 then 1 else 0) + cntN l
def letters (k : Nat) : List UInt8 := (shapeB k).data.toList
theorem flat_kind (m : Msg) : (flatM m).kind = (m.kind : Int) := by cases m <;> rfl
theorem flat_cnt (m : Msg) : cntN (letters m.kind) = (flatM m).nums.length := by cases m <;> rfl
theorem go_flat {m : Msg} (h : rightM m = true) : goF (flatM m) (letters m.kind) 0 = bodyM m := by
  have hk := right_okM h
  cases m <;> simp only [letters, Msg.kind, shapeB, goF, partF, flatM, zeroF, bodyM, Msg.nums, Msg.rest, catL, List.flatMap_cons, List.flatMap_nil, List.append_nil, List.append_assoc]
  case logs => rw [putRow_list hk.2.2.2.2.2.2.2]; rfl
  all_goals rfl
theorem letters_mem (k : Nat) (hk : 1 ≤ k ∧ k ≤ 14) : ∀ x ∈ letters k, x.toNat = 110 ∨ x.toNat = 99 ∨ x.toNat = 100 ∨ x.toNat = 111 ∨ x.toNat = 109 ∨ x.toNat = 101 ∨ x.toNat = 118 ∨ x.toNat = 98 ∨ x.toNat = 115 := by
  have h : k = 1 ∨ k = 2 ∨ k = 3 ∨ k = 4 ∨ k = 5 ∨ k = 6 ∨ k = 7 ∨ k = 8 ∨ k = 9 ∨ k = 10 ∨ k = 11 ∨ k = 12 ∨ k = 13 ∨ k = 14 := by omega
  rcases h with rfl | rfl | rfl | rfl | rfl | rfl | rfl | rfl | rfl | rfl | rfl | rfl | rfl | rfl <;> (unfold letters; decide)
theorem letters_b (k : Nat) (hk : 1 ≤ k ∧ k ≤ 14) : ∀ x ∈ letters k, x.toNat = 98 → k = 11 := by
  have h : k = 1 ∨ k = 2 ∨ k = 3 ∨ k = 4 ∨ k = 5 ∨ k = 6 ∨ k = 7 ∨ k = 8 ∨ k = 9 ∨ k = 10 ∨ k = 11 ∨ k = 12 ∨ k = 13 ∨ k = 14 := by omega
  rcases h with rfl | rfl | rfl | rfl | rfl | rfl | rfl | rfl | rfl | rfl | rfl | rfl | rfl | rfl <;> (unfold letters; decide)
theorem rf_inv {f : FW} (h : rightF f = true) : LensF f ∧ (∀ x ∈ f.entries, rightR x = true) ∧ (∀ x ∈ f.events, rightE x = true) ∧ lastF f = true := by
  simp only [rightF, Bool.and_eq_true, decide_eq_true_eq, List.all_eq_true] at h
  exact ⟨h.1, h.2.2.2.2.2.2.1, h.2.2.2.2.2.2.2.1, h.2.2.2.2.2.2.2.2⟩
theorem bstr_add (a b : List UInt8) : bstr a ++ bstr b = bstr (a ++ b) := by
  apply ext_listE
  rw [list_addE, bstr_list, bstr_list, bstr_list]
theorem bstr_app (a : List UInt8) (b : ByteArray) : bstr a ++ b = bstr (a ++ b.data.toList) := by
  apply ext_listE
  rw [list_addE, bstr_list, bstr_list]
theorem right_light {e : EV} (h : rightE e = true) : LightE e := ⟨by have := (rightE_size h).1; omega, by have := (rightE_size h).2; omega⟩
theorem add_any (a : List UInt8) (b : ByteArray) (ha : a.length ≤ 300000000) (hb : b.size ≤ 300000000) (W : World) : (Op.stringOp .add (bstr a) b).run Tryz.prog W = .ok (.string (bstr (a ++ b.data.toList))) W := by
  rw [← bstr_app]
  exact run_string_add_sum (P := Tryz.prog) (w := W) _ _ (by rw [bstr_size]; omega)
theorem pN_list (n : Int) : (pN n).data.toList = putI n := by rw [pN, bstr_list]; rfl
theorem pT_list (s : ByteArray) : (pT s).data.toList = putT s.data.toList := by rw [pT, bstr_list]
theorem pT_le (s : ByteArray) (h : s.size ≤ 100000) : (pT s).size ≤ 300000000 := by have := pT_size s; omega

set_option maxRecDepth 100000 in
set_option maxHeartbeats 25600000 in
theorem refPut7_lit (B : Nat) (kn : Int) (nu ch si bo : List Int) (mk : List (Int × Int)) (en : List EN) (ev : List EV) (b : BW) (st : ByteArray) (na ca sa oa ma ea va la : Option Addr) (nc cc sc oc mc ec vc lc : Nat) (w : World) (hN : IsNums B w (.slice na nu.length nc) nu) (hC : IsNums B w (.slice ca ch.length cc) ch) (hS : IsNums B w (.slice sa si.length sc) si) (hO : IsNums B w (.slice oa bo.length oc) bo) (hM : IsMarks B w (.slice ma mk.length mc) mk) (hE : IsEntries B w (.slice ea en.length ec) en) (hV : IsEvents B w (.slice va ev.length vc) ev) (hL : IsEvents B w (.slice la b.events.length lc) b.events) (hB : B ≤ w.heap.size) (q : Bool) (hq : rightF ⟨kn, nu, ch, si, bo, mk, en, ev, b, st⟩ = q) (kk : Nat) (hkk : kn = (kk : Int)) (hk1 : 1 ≤ kk ∧ kk ≤ 14) (hbe : ∀ x ∈ en, BigB x.b) (hbv : ∀ x ∈ ev, BigE x) (hbb : BigB b) (hst : st.size ≤ 100000) (tot : List UInt8) (htot : UInt8.ofNat kk :: goF ⟨kn, nu, ch, si, bo, mk, en, ev, b, st⟩ (letters kk) 0 = tot) (hlen : tot.length ≤ 200000000) (hcnt : cntN (letters kk) ≤ nu.length) :
    Calls Tryz.prog 11 #[.agg #[.int .i64 kn, .slice na nu.length nc, .slice ca ch.length cc, .slice sa si.length sc, .slice oa bo.length oc, .slice ma mk.length mc, .slice ea en.length ec, .slice va ev.length vc, .string b.stream, .int .i64 b.expect, .int .i64 b.session, .int .i64 b.seq, .slice la b.events.length lc, .string st]] w fun r w' => r = .returned (.string (if q = true then bstr tot else ⟨#[]⟩)) ∧ Below w.heap.size w w' := by
  have HN := Lib.hid hN
  have HC := Lib.hid hC
  have HS := Lib.hid hS
  have HO := Lib.hid hO
  have HM := Lib.hid hM
  have HE := Lib.hid hE
  have HV := Lib.hid hV
  have HL := Lib.hid hL
  have mN : nu.length ≤ 9223372036854775807 := hN.le
  have mC : ch.length ≤ 9223372036854775807 := hC.le
  have mS : si.length ≤ 9223372036854775807 := hS.le
  have mO : bo.length ≤ 9223372036854775807 := hO.le
  have mM : mk.length ≤ 9223372036854775807 := hM.le
  have mE : en.length ≤ 9223372036854775807 := hE.le
  have mV : ev.length ≤ 9223372036854775807 := hV.le
  have mL : b.events.length ≤ 9223372036854775807 := hL.le
  have HB := Lib.hid hB
  have HBX0 := Lib.hid (bx_new (w := w) (.cells #[.int .i64 kn, .slice na nu.length nc, .slice ca ch.length cc, .slice sa si.length sc, .slice oa bo.length oc, .slice ma mk.length mc, .slice ea en.length ec, .slice va ev.length vc, .string b.stream, .int .i64 b.expect, .int .i64 b.session, .int .i64 b.seq, .slice la b.events.length lc, .string st] 37))
  have hn2 := bx_below HBX0.out
  have CR := Lib.hid (refRight7_lit B kn nu ch si bo mk en ev b st na ca sa oa ma ea va la nc cc sc oc mc ec vc lc (w.alloc (.cells #[.int .i64 kn, .slice na nu.length nc, .slice ca ch.length cc, .slice sa si.length sc, .slice oa bo.length oc, .slice ma mk.length mc, .slice ea en.length ec, .slice va ev.length vc, .string b.stream, .int .i64 b.expect, .int .i64 b.session, .int .i64 b.seq, .slice la b.events.length lc, .string st] 37)) (hN.keep hn2 hB) (hC.keep hn2 hB) (hS.keep hn2 hB) (hO.keep hn2 hB) (hM.keep hn2 hB) (hE.keep hn2 hB) (hV.keep hn2 hB) (hL.keep hn2 hB) (Nat.le_trans hB hn2.size) q hq (by omega) hbe hbv hbb hst)
  have CSH := Lib.hid (fun X : World => (show Calls Tryz.prog 15 #[.int .i64 kn] X fun r w' => r = .returned (.string (shapeB kk)) ∧ Below X.heap.size X w' from by rw [hkk]; exact refShape_any kk hk1 X))
  cases q with
  | false =>
    clear hN hC hS hO hM hE hV hL hB hq hbe hbv hbb hst hlen htot hn2 hcnt hkk hk1 CSH
    go_enter Tryz.func11, Tryz.ntmps11
    go_wp2_with fail
    refine CR.out.mono ?_
    rintro r w1 ⟨rfl, hb1⟩
    go_wp2_with fail
    go_ret
    exact ⟨rfl, bx_below (bx_more HBX0.out hb1)⟩
  | true =>
    obtain ⟨hLen, hER, hEV, hLF⟩ := rf_inv hq
    have HER := Lib.hid hER
    have HEV := Lib.hid hEV
    have lc1 : ch.length ≤ 6 := hLen.1
    have lc2 : si.length ≤ 6 := hLen.2.1
    have lc3 : bo.length ≤ 6 := hLen.2.2.1
    have lc4 : mk.length ≤ 30 := hLen.2.2.2.1
    have lc5 : en.length ≤ 8 := hLen.2.2.2.2.1
    have lc6 : ev.length ≤ 16 := hLen.2.2.2.2.2
    have HMEM := Lib.hid (letters_mem kk hk1)
    have HFB0 := Lib.hid (fun (x : UInt8) (hx : x ∈ letters kk) (h98 : x.toNat = 98) => (show fitsB b = 0 from by
      have e := letters_b kk hk1 x hx h98
      have h2 := hLF
      rw [lastF, if_neg (by show ¬ kn = 12; omega)] at h2
      simp only [Bool.or_eq_true, decide_eq_true_eq] at h2
      rcases h2 with h2 | h2
      · exact absurd (show kn = 11 by omega) h2
      · exact h2))
    have HTL := Lib.hid hlen
    obtain ⟨x0, hx0⟩ : ∃ x : UInt8, UInt8.ofNat kk = x := ⟨_, rfl⟩
    have ku : IntKind.u8.wrap kn = (x0.toNat : Int) := by rw [← hx0, toNat_of (by omega), hkk, IntKind.wrap_u8]; omega
    have hcv : ∀ X : World, (convert 98 9 (.slice (some ⟨X.heap.size, 0, none⟩) 1 1)).run Tryz.prog (X.alloc (.cells #[.int .u8 (x0.toNat : Int)] 5)) = .ok (.string (bstr [x0])) (X.alloc (.cells #[.int .u8 (x0.toNat : Int)] 5)) := fun X => conv_block X 98 9 5 1 [x0] Tryz.underlying98 Tryz.underlying5 Tryz.underlying9
    obtain ⟨sh, hsh⟩ : ∃ s, shapeB kk = s := ⟨_, rfl⟩
    obtain ⟨L, hLL⟩ : ∃ l, letters kk = l := ⟨_, rfl⟩
    have hsl : sh.data.toList = L := by rw [← hsh, ← hLL]; rfl
    have hss : sh.size = L.length := by rw [← hsl, size_listE]
    have hshm : sh.size ≤ 100 := by
      have h : kk = 1 ∨ kk = 2 ∨ kk = 3 ∨ kk = 4 ∨ kk = 5 ∨ kk = 6 ∨ kk = 7 ∨ kk = 8 ∨ kk = 9 ∨ kk = 10 ∨ kk = 11 ∨ kk = 12 ∨ kk = 13 ∨ kk = 14 := by omega
      rw [← hsh]
      rcases h with rfl | rfl | rfl | rfl | rfl | rfl | rfl | rfl | rfl | rfl | rfl | rfl | rfl | rfl <;> decide
    rw [hLL] at htot hcnt HMEM HFB0
    rw [hx0] at htot
    rw [hsh] at CSH
    have HSS := Lib.hid hss
    have HSL := Lib.hid hsl
    have HT0 := Lib.hid htot
    have HC0 := Lib.hid hcnt
    clear hN hC hS hO hM hE hV hL hB hq hbe hbv hbb hlen htot hn2 hcnt hLen hER hEV hLF hx0 hsh hLL hss hsl hkk
    go_enter Tryz.func11, Tryz.ntmps11
    go_wp2_with fail
    refine CR.out.mono ?_
    rintro r w1 ⟨rfl, hb1⟩
    have HBX := Lib.hid (bx_more HBX0.out hb1)
    clear hb1 CR
    have y0 := box_range HBX.out 0 _ rfl
    simp only [Nat.zero_add] at y0
    go_upto_region 5 with fail
    have HBX := Lib.hid (bx_alloc HBX.out (.cells #[.int .u8 (x0.toNat : Int)] 5))
    clear y0 hcv ku
    generalize w1.alloc (.cells #[.int .u8 (x0.toNat : Int)] 5) = w2 at *
    have y0 := box_range HBX.out 0 _ rfl
    simp only [Nat.zero_add] at y0
    go_wp2_with fail
    refine (CSH.out _).mono ?_
    rintro r w3 ⟨rfl, hb3⟩
    have HBX := Lib.hid (bx_more HBX.out hb3)
    clear hb3 y0
    go_wp2_with fail
    go_loopw [4, 6, 7] (fun t4 t6 t7 wr => ∃ (i j : Nat) (pre : List UInt8), i ≤ sh.size ∧ t7 = .int .i64 i ∧ t6 = .int .i64 j ∧ t4 = .string (bstr pre) ∧ pre ++ goF ⟨kn, nu, ch, si, bo, mk, en, ev, b, st⟩ (L.drop i) j = tot ∧ j + cntN (L.drop i) ≤ nu.length ∧ Below (w.heap.size + 1) (w.alloc (.cells #[.int .i64 kn, .slice na nu.length nc, .slice ca ch.length cc, .slice sa si.length sc, .slice oa bo.length oc, .slice ma mk.length mc, .slice ea en.length ec, .slice va ev.length vc, .string b.stream, .int .i64 b.expect, .int .i64 b.session, .int .i64 b.seq, .slice la b.events.length lc, .string st] 37)) wr) (fun _ _ t7 _ => sh.size - (intOf t7).toNat)
    case atStart => exact ⟨0, 0, [x0], Nat.zero_le _, rfl, rfl, rfl, HT0.out, by have := HC0.out; rw [List.drop_zero]; omega, HBX.out⟩
    case round =>
      obtain ⟨i, j, pre, hi, rfl, rfl, rfl, htt, hcn, hbl⟩ := hrel
      have HBX := Lib.hid hbl
      by_cases hlt : i < sh.size
      · have hiL : i < L.length := by rw [← HSS.out]; exact hlt
        obtain ⟨c0, hc0⟩ : ∃ c, L[i] = c := ⟨_, rfl⟩
        have hdr : L.drop i = c0 :: L.drop (i + 1) := by rw [List.drop_eq_getElem_cons hiL, hc0]
        have hmem := HMEM.out c0 (by rw [← hc0]; exact List.getElem_mem hiL)
        have HFB := Lib.hid (HFB0.out c0 (by rw [← hc0]; exact List.getElem_mem hiL))
        rw [hdr] at htt hcn
        have HTOT0 := Lib.hid htt
        have HCN0 := Lib.hid hcn
        have hel : sh[i]'hlt = c0 := by
          rw [← hc0]
          have h1 : sh.data.toList[i]'(by rw [HSL.out]; exact hiL) = L[i] := by simp only [HSL.out]
          exact h1
        obtain ⟨cI, hcI⟩ : ∃ z : Int, (c0.toNat : Int) = z := ⟨_, rfl⟩
        have hidx : ∀ h : i < sh.size, ((sh[i]'h).toNat : Int) = cI := fun h => by rw [← hcI]; exact congrArg (fun x : UInt8 => (x.toNat : Int)) hel
        have HCI := Lib.hid hcI
        have i1 : (0 : Int) ≤ (i : Int) := by omega
        have i2 : (i : Int) < (sh.size : Int) := by omega
        clear hbl htt hcn hdr hel hcI hc0
        have HIDX := Lib.hid hidx
        clear hidx
        go_upto_block 1 with fail
        go_cut [4, 6] from 31 to 190 (fun s4 s6 wx => ∃ (j1 : Nat) (pre1 : List UInt8), s6 = .int .i64 j1 ∧ s4 = .string (bstr pre1) ∧ pre1 ++ goF ⟨kn, nu, ch, si, bo, mk, en, ev, b, st⟩ (L.drop (i + 1)) j1 = tot ∧ j1 + cntN (L.drop (i + 1)) ≤ nu.length ∧ Below (w.heap.size + 1) (w.alloc (.cells #[.int .i64 kn, .slice na nu.length nc, .slice ca ch.length cc, .slice sa si.length sc, .slice oa bo.length oc, .slice ma mk.length mc, .slice ea en.length ec, .slice va ev.length vc, .string b.stream, .int .i64 b.expect, .int .i64 b.session, .int .i64 b.seq, .slice la b.events.length lc, .string st] 37)) wx)
        case first =>
          rcases hmem with hx | hx | hx | hx | hx | hx | hx | hx | hx
          · obtain rfl : cI = 110 := by rw [← HCI.out, hx]; rfl
            have htot : pre ++ (partF ⟨kn, nu, ch, si, bo, mk, en, ev, b, st⟩ 110 j ++ goF ⟨kn, nu, ch, si, bo, mk, en, ev, b, st⟩ (L.drop (i + 1)) (j + 1)) = tot := by have h := HTOT0.out; rw [goF, hx] at h; exact h
            have HCN := Lib.hid (show j + ((if (110 : Nat) = 110 then 1 else 0) + cntN (L.drop (i + 1))) ≤ nu.length from by have h := HCN0.out; rw [cntN, hx] at h; exact h)
            have hx98 := hx
            have hidx := HIDX.out
            clear hx
            have hjl : j < nu.length := by have h := HCN.out; rw [if_pos rfl] at h; omega
            have hpart : partF ⟨kn, nu, ch, si, bo, mk, en, ev, b, st⟩ 110 j = putI nu[j] := by rw [partF, if_pos rfl, List.getD_eq_getElem?_getD, List.getElem?_eq_getElem hjl]; rfl
            rw [hpart] at htot
            have hpl : pre.length ≤ 200000000 := by have h := HTL.out; rw [← htot, List.length_append] at h; omega
            have HTOT := Lib.hid htot
            clear htot hpart
            have y := box_range HBX.out 1 _ rfl
            simp only [Nat.zero_add] at y
            obtain ⟨bb, oo, qq, he, _, _, hc1⟩ := (HN.out.keep (bx_below HBX.out) HB.out).at1 j hjl
            obtain ⟨e1, -, e3⟩ : na = some ⟨bb, oo, none⟩ ∧ nu.length = nu.length ∧ nc = qq := by injection he with e1 e2 e3; exact ⟨e1, e2, e3⟩
            rw [e1, e3] at y
            clear he e1 e3
            obtain ⟨n, hn⟩ : ∃ n, nu[j] = n := ⟨_, rfl⟩
            rw [hn] at hc1
            have CP := Lib.hid (rN_any n)
            have hadd := fun (W : World) => add_any pre (pN n) (by omega) (by have := pN_size n; omega) W
            rw [pN_list] at hadd
            have i3 : (0 : Int) ≤ (j : Int) := by omega
            have i4 : (j : Int) < (nu.length : Int) := by omega
            have ewj : IntKind.i64.wrap ((j : Int) + 1) = ((j + 1 : Nat) : Int) := by rw [IntKind.wrap_i64]; omega
            have HN1 := Lib.hid hn
            have HCN2 := Lib.hid (show j + 1 + cntN (L.drop (i + 1)) ≤ nu.length from by have h := HCN.out; rw [if_pos rfl] at h; omega)
            clear hn
            go_wp2_with fail
            refine (CP.out _).mono ?_
            rintro r w2 ⟨rfl, hb2⟩
            go_wp2_with fail
            go_meet
            case rel => exact ⟨_, _, rfl, rfl, by rw [List.append_assoc, ← HN1.out]; exact HTOT.out, by exact HCN2.out, bx_more HBX.out hb2⟩
          · obtain rfl : cI = 99 := by rw [← HCI.out, hx]; rfl
            have htot : pre ++ (partF ⟨kn, nu, ch, si, bo, mk, en, ev, b, st⟩ 99 j ++ goF ⟨kn, nu, ch, si, bo, mk, en, ev, b, st⟩ (L.drop (i + 1)) (j)) = tot := by have h := HTOT0.out; rw [goF, hx] at h; exact h
            have HCN := Lib.hid (show j + ((if (99 : Nat) = 110 then 1 else 0) + cntN (L.drop (i + 1))) ≤ nu.length from by have h := HCN0.out; rw [cntN, hx] at h; exact h)
            have hx98 := hx
            have hidx := HIDX.out
            clear hx
            have hpart : partF ⟨kn, nu, ch, si, bo, mk, en, ev, b, st⟩ 99 j = putL putI ch := by rw [partF, if_neg (by decide), if_pos rfl]
            rw [hpart] at htot
            have hpl : pre.length ≤ 200000000 := by have h := HTL.out; rw [← htot, List.length_append] at h; omega
            have HTOT := Lib.hid htot
            clear htot hpart
            have y := box_range HBX.out 2 _ rfl
            simp only [Nat.zero_add] at y
            have CP := Lib.hid (rN_any (ch.length : Int))
            have hadd := fun (W : World) => add_any pre (pN (ch.length : Int)) (by omega) (by have := pN_size (ch.length : Int); omega) W
            rw [pN_list] at hadd
            go_wp2_with fail
            refine (CP.out _).mono ?_
            rintro r w2 ⟨rfl, hb2⟩
            replace HBX := Lib.hid (bx_more HBX.out hb2)
            clear hb2 y
            go_wp2_with fail
            clear hadd
            go_loopw [4, 8] (fun t4 t8 wr => ∃ (k : Nat) (PP : List UInt8), k ≤ ch.length ∧ t8 = .int .i64 k ∧ t4 = .string (bstr PP) ∧ PP = pre ++ putI (ch.length : Int) ++ catL putI (ch.take k) ∧ Below (w.heap.size + 1) (w.alloc (.cells #[.int .i64 kn, .slice na nu.length nc, .slice ca ch.length cc, .slice sa si.length sc, .slice oa bo.length oc, .slice ma mk.length mc, .slice ea en.length ec, .slice va ev.length vc, .string b.stream, .int .i64 b.expect, .int .i64 b.session, .int .i64 b.seq, .slice la b.events.length lc, .string st] 37)) wr) (fun _ t8 _ => ch.length - (intOf t8).toNat)
            case atStart => exact ⟨0, _, Nat.zero_le _, rfl, rfl, by rw [show catL putI (ch.take 0) = [] from rfl, List.append_nil], HBX.out⟩
            case round =>
              obtain ⟨k, PP, hk, rfl, rfl, hpp, hbl⟩ := hrel
              have HPP := Lib.hid hpp
              clear hpp
              have HBX := Lib.hid hbl
              have y := box_range hbl 2 _ rfl
              simp only [Nat.zero_add] at y
              clear hbl
              by_cases hlt2 : k < ch.length
              · obtain ⟨bb, oo, qq, he, _, _, hc1⟩ := (HC.out.keep (bx_below HBX.out) HB.out).at1 k hlt2
                obtain ⟨e1, -, e3⟩ : ca = some ⟨bb, oo, none⟩ ∧ ch.length = ch.length ∧ cc = qq := by injection he with e1 e2 e3; exact ⟨e1, e2, e3⟩
                rw [e1, e3] at y
                clear he e1 e3
                have htk := catL_take (put := putI) hlt2
                have z1 := catI_le (ch.take k)
                rw [List.length_take] at z1
                have z2 := putI_le (ch.length : Int)
                have z5 : PP.length ≤ 200100000 := by rw [HPP.out, List.length_append, List.length_append]; omega
                obtain ⟨x, hx⟩ : ∃ x, ch[k] = x := ⟨_, rfl⟩
                rw [hx] at hc1 htk
                have CPX := Lib.hid (rN_any x)
                have hadd := fun (W : World) => add_any PP (pN x) (by omega) (by have := pN_size x; omega) W
                rw [pN_list] at hadd
                have HTK := Lib.hid htk
                have i3 : (0 : Int) ≤ (k : Int) := by omega
                have i4 : (k : Int) < (ch.length : Int) := by omega
                clear hx htk z1 z2 z5
                go_wp2_with fail
                refine (CPX.out _).mono ?_
                rintro r w3 ⟨rfl, hb3⟩
                go_wp2_with fail
                go_roundw
                case rel => exact ⟨k + 1, _, by omega, by go_num, rfl, by rw [HPP.out, HTK.out]; simp only [List.append_assoc], bx_more HBX.out hb3⟩
                case measure => simp [intOf]; omega
              · have g2 : ¬ ((k : Int) < (ch.length : Int)) := by omega
                have htk : ch.take k = ch := List.take_of_length_le (by omega)
                have HTK := Lib.hid htk
                clear htk
                go_wp2_with fail
                go_meet
                case rel => exact ⟨_, _, rfl, rfl, by have h := HTOT.out; unfold putL at h; rw [HPP.out, HTK.out]; simpa only [putI, List.append_assoc] using h, by have h := HCN.out; rw [if_neg (by decide)] at h; omega, HBX.out⟩
          · obtain rfl : cI = 100 := by rw [← HCI.out, hx]; rfl
            have htot : pre ++ (partF ⟨kn, nu, ch, si, bo, mk, en, ev, b, st⟩ 100 j ++ goF ⟨kn, nu, ch, si, bo, mk, en, ev, b, st⟩ (L.drop (i + 1)) (j)) = tot := by have h := HTOT0.out; rw [goF, hx] at h; exact h
            have HCN := Lib.hid (show j + ((if (100 : Nat) = 110 then 1 else 0) + cntN (L.drop (i + 1))) ≤ nu.length from by have h := HCN0.out; rw [cntN, hx] at h; exact h)
            have hx98 := hx
            have hidx := HIDX.out
            clear hx
            have hpart : partF ⟨kn, nu, ch, si, bo, mk, en, ev, b, st⟩ 100 j = putL putI si := by rw [partF, if_neg (by decide), if_neg (by decide), if_pos rfl]
            rw [hpart] at htot
            have hpl : pre.length ≤ 200000000 := by have h := HTL.out; rw [← htot, List.length_append] at h; omega
            have HTOT := Lib.hid htot
            clear htot hpart
            have y := box_range HBX.out 3 _ rfl
            simp only [Nat.zero_add] at y
            have CP := Lib.hid (rN_any (si.length : Int))
            have hadd := fun (W : World) => add_any pre (pN (si.length : Int)) (by omega) (by have := pN_size (si.length : Int); omega) W
            rw [pN_list] at hadd
            go_wp2_with fail
            refine (CP.out _).mono ?_
            rintro r w2 ⟨rfl, hb2⟩
            replace HBX := Lib.hid (bx_more HBX.out hb2)
            clear hb2 y
            go_wp2_with fail
            clear hadd
            go_loopw [4, 9] (fun t4 t9 wr => ∃ (k : Nat) (PP : List UInt8), k ≤ si.length ∧ t9 = .int .i64 k ∧ t4 = .string (bstr PP) ∧ PP = pre ++ putI (si.length : Int) ++ catL putI (si.take k) ∧ Below (w.heap.size + 1) (w.alloc (.cells #[.int .i64 kn, .slice na nu.length nc, .slice ca ch.length cc, .slice sa si.length sc, .slice oa bo.length oc, .slice ma mk.length mc, .slice ea en.length ec, .slice va ev.length vc, .string b.stream, .int .i64 b.expect, .int .i64 b.session, .int .i64 b.seq, .slice la b.events.length lc, .string st] 37)) wr) (fun _ t9 _ => si.length - (intOf t9).toNat)
            case atStart => exact ⟨0, _, Nat.zero_le _, rfl, rfl, by rw [show catL putI (si.take 0) = [] from rfl, List.append_nil], HBX.out⟩
            case round =>
              obtain ⟨k, PP, hk, rfl, rfl, hpp, hbl⟩ := hrel
              have HPP := Lib.hid hpp
              clear hpp
              have HBX := Lib.hid hbl
              have y := box_range hbl 3 _ rfl
              simp only [Nat.zero_add] at y
              clear hbl
              by_cases hlt2 : k < si.length
              · obtain ⟨bb, oo, qq, he, _, _, hc1⟩ := (HS.out.keep (bx_below HBX.out) HB.out).at1 k hlt2
                obtain ⟨e1, -, e3⟩ : sa = some ⟨bb, oo, none⟩ ∧ si.length = si.length ∧ sc = qq := by injection he with e1 e2 e3; exact ⟨e1, e2, e3⟩
                rw [e1, e3] at y
                clear he e1 e3
                have htk := catL_take (put := putI) hlt2
                have z1 := catI_le (si.take k)
                rw [List.length_take] at z1
                have z2 := putI_le (si.length : Int)
                have z5 : PP.length ≤ 200100000 := by rw [HPP.out, List.length_append, List.length_append]; omega
                obtain ⟨x, hx⟩ : ∃ x, si[k] = x := ⟨_, rfl⟩
                rw [hx] at hc1 htk
                have CPX := Lib.hid (rN_any x)
                have hadd := fun (W : World) => add_any PP (pN x) (by omega) (by have := pN_size x; omega) W
                rw [pN_list] at hadd
                have HTK := Lib.hid htk
                have i3 : (0 : Int) ≤ (k : Int) := by omega
                have i4 : (k : Int) < (si.length : Int) := by omega
                clear hx htk z1 z2 z5
                go_wp2_with fail
                refine (CPX.out _).mono ?_
                rintro r w3 ⟨rfl, hb3⟩
                go_wp2_with fail
                go_roundw
                case rel => exact ⟨k + 1, _, by omega, by go_num, rfl, by rw [HPP.out, HTK.out]; simp only [List.append_assoc], bx_more HBX.out hb3⟩
                case measure => simp [intOf]; omega
              · have g2 : ¬ ((k : Int) < (si.length : Int)) := by omega
                have htk : si.take k = si := List.take_of_length_le (by omega)
                have HTK := Lib.hid htk
                clear htk
                go_wp2_with fail
                go_meet
                case rel => exact ⟨_, _, rfl, rfl, by have h := HTOT.out; unfold putL at h; rw [HPP.out, HTK.out]; simpa only [putI, List.append_assoc] using h, by have h := HCN.out; rw [if_neg (by decide)] at h; omega, HBX.out⟩
          · obtain rfl : cI = 111 := by rw [← HCI.out, hx]; rfl
            have htot : pre ++ (partF ⟨kn, nu, ch, si, bo, mk, en, ev, b, st⟩ 111 j ++ goF ⟨kn, nu, ch, si, bo, mk, en, ev, b, st⟩ (L.drop (i + 1)) (j)) = tot := by have h := HTOT0.out; rw [goF, hx] at h; exact h
            have HCN := Lib.hid (show j + ((if (111 : Nat) = 110 then 1 else 0) + cntN (L.drop (i + 1))) ≤ nu.length from by have h := HCN0.out; rw [cntN, hx] at h; exact h)
            have hx98 := hx
            have hidx := HIDX.out
            clear hx
            have hpart : partF ⟨kn, nu, ch, si, bo, mk, en, ev, b, st⟩ 111 j = putL putI bo := by rw [partF, if_neg (by decide), if_neg (by decide), if_neg (by decide), if_pos rfl]
            rw [hpart] at htot
            have hpl : pre.length ≤ 200000000 := by have h := HTL.out; rw [← htot, List.length_append] at h; omega
            have HTOT := Lib.hid htot
            clear htot hpart
            have y := box_range HBX.out 4 _ rfl
            simp only [Nat.zero_add] at y
            have CP := Lib.hid (rN_any (bo.length : Int))
            have hadd := fun (W : World) => add_any pre (pN (bo.length : Int)) (by omega) (by have := pN_size (bo.length : Int); omega) W
            rw [pN_list] at hadd
            go_wp2_with fail
            refine (CP.out _).mono ?_
            rintro r w2 ⟨rfl, hb2⟩
            replace HBX := Lib.hid (bx_more HBX.out hb2)
            clear hb2 y
            go_wp2_with fail
            clear hadd
            go_loopw [4, 10] (fun t4 t10 wr => ∃ (k : Nat) (PP : List UInt8), k ≤ bo.length ∧ t10 = .int .i64 k ∧ t4 = .string (bstr PP) ∧ PP = pre ++ putI (bo.length : Int) ++ catL putI (bo.take k) ∧ Below (w.heap.size + 1) (w.alloc (.cells #[.int .i64 kn, .slice na nu.length nc, .slice ca ch.length cc, .slice sa si.length sc, .slice oa bo.length oc, .slice ma mk.length mc, .slice ea en.length ec, .slice va ev.length vc, .string b.stream, .int .i64 b.expect, .int .i64 b.session, .int .i64 b.seq, .slice la b.events.length lc, .string st] 37)) wr) (fun _ t10 _ => bo.length - (intOf t10).toNat)
            case atStart => exact ⟨0, _, Nat.zero_le _, rfl, rfl, by rw [show catL putI (bo.take 0) = [] from rfl, List.append_nil], HBX.out⟩
            case round =>
              obtain ⟨k, PP, hk, rfl, rfl, hpp, hbl⟩ := hrel
              have HPP := Lib.hid hpp
              clear hpp
              have HBX := Lib.hid hbl
              have y := box_range hbl 4 _ rfl
              simp only [Nat.zero_add] at y
              clear hbl
              by_cases hlt2 : k < bo.length
              · obtain ⟨bb, oo, qq, he, _, _, hc1⟩ := (HO.out.keep (bx_below HBX.out) HB.out).at1 k hlt2
                obtain ⟨e1, -, e3⟩ : oa = some ⟨bb, oo, none⟩ ∧ bo.length = bo.length ∧ oc = qq := by injection he with e1 e2 e3; exact ⟨e1, e2, e3⟩
                rw [e1, e3] at y
                clear he e1 e3
                have htk := catL_take (put := putI) hlt2
                have z1 := catI_le (bo.take k)
                rw [List.length_take] at z1
                have z2 := putI_le (bo.length : Int)
                have z5 : PP.length ≤ 200100000 := by rw [HPP.out, List.length_append, List.length_append]; omega
                obtain ⟨x, hx⟩ : ∃ x, bo[k] = x := ⟨_, rfl⟩
                rw [hx] at hc1 htk
                have CPX := Lib.hid (rN_any x)
                have hadd := fun (W : World) => add_any PP (pN x) (by omega) (by have := pN_size x; omega) W
                rw [pN_list] at hadd
                have HTK := Lib.hid htk
                have i3 : (0 : Int) ≤ (k : Int) := by omega
                have i4 : (k : Int) < (bo.length : Int) := by omega
                clear hx htk z1 z2 z5
                go_wp2_with fail
                refine (CPX.out _).mono ?_
                rintro r w3 ⟨rfl, hb3⟩
                go_wp2_with fail
                go_roundw
                case rel => exact ⟨k + 1, _, by omega, by go_num, rfl, by rw [HPP.out, HTK.out]; simp only [List.append_assoc], bx_more HBX.out hb3⟩
                case measure => simp [intOf]; omega
              · have g2 : ¬ ((k : Int) < (bo.length : Int)) := by omega
                have htk : bo.take k = bo := List.take_of_length_le (by omega)
                have HTK := Lib.hid htk
                clear htk
                go_wp2_with fail
                go_meet
                case rel => exact ⟨_, _, rfl, rfl, by have h := HTOT.out; unfold putL at h; rw [HPP.out, HTK.out]; simpa only [putI, List.append_assoc] using h, by have h := HCN.out; rw [if_neg (by decide)] at h; omega, HBX.out⟩
          · obtain rfl : cI = 109 := by rw [← HCI.out, hx]; rfl
            have htot : pre ++ (partF ⟨kn, nu, ch, si, bo, mk, en, ev, b, st⟩ 109 j ++ goF ⟨kn, nu, ch, si, bo, mk, en, ev, b, st⟩ (L.drop (i + 1)) (j)) = tot := by have h := HTOT0.out; rw [goF, hx] at h; exact h
            have HCN := Lib.hid (show j + ((if (109 : Nat) = 110 then 1 else 0) + cntN (L.drop (i + 1))) ≤ nu.length from by have h := HCN0.out; rw [cntN, hx] at h; exact h)
            have hx98 := hx
            have hidx := HIDX.out
            clear hx
            have hpart : partF ⟨kn, nu, ch, si, bo, mk, en, ev, b, st⟩ 109 j = putL putM2 mk := by rw [partF, if_neg (by decide), if_neg (by decide), if_neg (by decide), if_neg (by decide), if_pos rfl]
            rw [hpart] at htot
            have hpl : pre.length ≤ 200000000 := by have h := HTL.out; rw [← htot, List.length_append] at h; omega
            have HTOT := Lib.hid htot
            clear htot hpart
            have y := box_range HBX.out 5 _ rfl
            simp only [Nat.zero_add] at y
            have CP := Lib.hid (rN_any (mk.length : Int))
            have hadd := fun (W : World) => add_any pre (pN (mk.length : Int)) (by omega) (by have := pN_size (mk.length : Int); omega) W
            rw [pN_list] at hadd
            go_wp2_with fail
            refine (CP.out _).mono ?_
            rintro r w2 ⟨rfl, hb2⟩
            replace HBX := Lib.hid (bx_more HBX.out hb2)
            clear hb2 y
            go_wp2_with fail
            clear hadd
            go_loopw [4, 11] (fun t4 t11 wr => ∃ (k : Nat) (PP : List UInt8), k ≤ mk.length ∧ t11 = .int .i64 k ∧ t4 = .string (bstr PP) ∧ PP = pre ++ putI (mk.length : Int) ++ catL putM2 (mk.take k) ∧ Below (w.heap.size + 1) (w.alloc (.cells #[.int .i64 kn, .slice na nu.length nc, .slice ca ch.length cc, .slice sa si.length sc, .slice oa bo.length oc, .slice ma mk.length mc, .slice ea en.length ec, .slice va ev.length vc, .string b.stream, .int .i64 b.expect, .int .i64 b.session, .int .i64 b.seq, .slice la b.events.length lc, .string st] 37)) wr) (fun _ t11 _ => mk.length - (intOf t11).toNat)
            case atStart => exact ⟨0, _, Nat.zero_le _, rfl, rfl, by rw [show catL putM2 (mk.take 0) = [] from rfl, List.append_nil], HBX.out⟩
            case round =>
              obtain ⟨k, PP, hk, rfl, rfl, hpp, hbl⟩ := hrel
              have HPP := Lib.hid hpp
              clear hpp
              have HBX := Lib.hid hbl
              have y := box_range hbl 5 _ rfl
              simp only [Nat.zero_add] at y
              clear hbl
              by_cases hlt2 : k < mk.length
              · obtain ⟨bb, oo, qq, he, hbb1, _, hc1, hc2⟩ := (HM.out.keep (bx_below HBX.out) HB.out).at2 k hlt2
                obtain ⟨e1, -, e3⟩ : ma = some ⟨bb, oo, none⟩ ∧ mk.length = mk.length ∧ mc = qq := by injection he with e1 e2 e3; exact ⟨e1, e2, e3⟩
                clear he
                have htk := catL_take (put := putM2) hlt2
                have z1 := catM_le (mk.take k)
                rw [List.length_take] at z1
                have z2 := putI_le (mk.length : Int)
                have z5 : PP.length ≤ 200100000 := by rw [HPP.out, List.length_append, List.length_append]; omega
                obtain ⟨x, hx⟩ : ∃ x, mk[k] = x := ⟨_, rfl⟩
                rw [hx] at hc1 hc2 htk
                have z3 := putI_le x.1
                have CPX := Lib.hid (rN_any x.1)
                have CPY := Lib.hid (rN_any x.2)
                have hadd := fun (W : World) => add_any PP (pN x.1) (by omega) (by have := pN_size x.1; omega) W
                have hadd2 := fun (W : World) => add_any (PP ++ putI x.1) (pN x.2) (by rw [List.length_append]; omega) (by have := pN_size x.2; omega) W
                rw [pN_list] at hadd hadd2
                have HTK := Lib.hid htk
                have hbr : bb < wr.heap.size := Nat.lt_of_lt_of_le hbb1 (Nat.le_trans HB.out (bx_below HBX.out).size)
                have MKS := Lib.hid (fun (X' : World) (hb : Below wr.heap.size wr X') => (show X'.cell? ⟨w.heap.size, 5, none⟩ = some (.slice (some ⟨bb, oo, none⟩) mk.length qq) ∧ X'.cell? ⟨bb, oo + k * 2, none⟩ = some (.int .i64 x.1) ∧ X'.cell? ⟨bb, oo + k * 2 + 1, none⟩ = some (.int .i64 x.2) ∧ Below (w.heap.size + 1) (w.alloc (.cells #[.int .i64 kn, .slice na nu.length nc, .slice ca ch.length cc, .slice sa si.length sc, .slice oa bo.length oc, .slice ma mk.length mc, .slice ea en.length ec, .slice va ev.length vc, .string b.stream, .int .i64 b.expect, .int .i64 b.session, .int .i64 b.seq, .slice la b.events.length lc, .string st] 37)) X' from ⟨by have h := box_range (bx_more HBX.out hb) 5 _ rfl; rw [e1, e3] at h; simpa only [Nat.zero_add] using h, (hb.cell (p := ⟨bb, oo + k * 2, none⟩) hbr).trans hc1, (hb.cell (p := ⟨bb, oo + k * 2 + 1, none⟩) hbr).trans hc2, bx_more HBX.out hb⟩))
                have i3 : (0 : Int) ≤ (k : Int) := by omega
                have i4 : (k : Int) < (mk.length : Int) := by omega
                clear hx htk z1 z2 z3 z5 hc1 hc2 hbr hbb1 e1 e3
                go_wp2_with fail
                clear y
                refine region_begin (S := fun X' => X'.cell? ⟨w.heap.size, 5, none⟩ = some (.slice (some ⟨bb, oo, none⟩) mk.length qq) ∧ X'.cell? ⟨bb, oo + k * 2, none⟩ = some (.int .i64 x.1) ∧ X'.cell? ⟨bb, oo + k * 2 + 1, none⟩ = some (.int .i64 x.2) ∧ Below (w.heap.size + 1) (w.alloc (.cells #[.int .i64 kn, .slice na nu.length nc, .slice ca ch.length cc, .slice sa si.length sc, .slice oa bo.length oc, .slice ma mk.length mc, .slice ea en.length ec, .slice va ev.length vc, .string b.stream, .int .i64 b.expect, .int .i64 b.session, .int .i64 b.seq, .slice la b.events.length lc, .string st] 37)) X') 18 rfl (by kernel_rfl) (MKS.out _ (Below.refl wr.heap.size wr).drew) (fun hH0 => ?_)
                refine wpAnyH_take (i := 0) (oi := ?om0) (v := ?vm0) ?him0 (by kernel_rfl) (by kernel_rfl) (by kernel_rfl) ?hQm0 ?hym0 hH0 ?_
                case him0 => simp only [List.getElem?_toArray, List.getElem?_cons_zero]; rfl
                case hQm0 => exact fun _ _ _ h => h
                case hym0 => refine Or.inl ⟨by rfl, ?_⟩; intro W hSw; (try dsimp only at hSw); go_simp; try with_reducible rfl
                simp only [Act.put, List.setIfInBounds_toArray, List.set_cons_zero, List.set_cons_succ]
                refine wpAnyH_take (i := 1) (oi := ?om1) (v := ?vm1) ?him1 (by kernel_rfl) (by kernel_rfl) (by kernel_rfl) ?hQm1 ?hym1 hH0 ?_
                case him1 => simp only [List.getElem?_toArray, List.getElem?_cons_zero, List.getElem?_cons_succ]; rfl
                case hQm1 => exact fun _ _ _ h => h
                case hym1 => refine Or.inl ⟨by rfl, ?_⟩; intro W hSw; (try dsimp only at hSw); go_simp; try with_reducible rfl
                simp only [Act.put, List.setIfInBounds_toArray, List.set_cons_zero, List.set_cons_succ]
                refine wpAnyH_take (i := 2) (oi := ?om2) (v := ?vm2) ?him2 (by kernel_rfl) (by kernel_rfl) (by kernel_rfl) ?hQm2 ?hym2 hH0 ?_
                case him2 => simp only [List.getElem?_toArray, List.getElem?_cons_zero, List.getElem?_cons_succ]; rfl
                case hQm2 => exact fun _ _ _ h => h
                case hym2 => refine Or.inl ⟨by rfl, ?_⟩; intro W hSw; (try dsimp only at hSw); go_simp; try with_reducible rfl
                simp only [Act.put, List.setIfInBounds_toArray, List.set_cons_zero, List.set_cons_succ]
                refine wpAnyH_take (i := 3) (oi := ?om3) (v := ?vm3) ?him3 (by kernel_rfl) (by kernel_rfl) (by kernel_rfl) ?hQm3 ?hym3 hH0 ?_
                case him3 => simp only [List.getElem?_toArray, List.getElem?_cons_zero, List.getElem?_cons_succ]; rfl
                case hQm3 => exact fun _ _ _ h => h
                case hym3 => refine Or.inl ⟨by rfl, ?_⟩; intro W hSw; (try dsimp only at hSw); go_simp; try with_reducible rfl
                simp only [Act.put, List.setIfInBounds_toArray, List.set_cons_zero, List.set_cons_succ]
                refine wpAnyH_take (i := 4) (oi := ?om4) (v := ?vm4) ?him4 (by kernel_rfl) (by kernel_rfl) (by kernel_rfl) ?hQm4 ?hym4 hH0 ?_
                case him4 => simp only [List.getElem?_toArray, List.getElem?_cons_zero, List.getElem?_cons_succ]; rfl
                case hQm4 => exact fun _ _ _ h => h
                case hym4 => refine Or.inl ⟨by rfl, ?_⟩; intro W hSw; (try dsimp only at hSw); go_simp; try with_reducible rfl
                simp only [Act.put, List.setIfInBounds_toArray, List.set_cons_zero, List.set_cons_succ]
                refine wpAnyH_take (i := 5) (oi := ?om5) (v := ?vm5) ?him5 (by kernel_rfl) (by kernel_rfl) (by kernel_rfl) ?hQm5 ?hym5 hH0 ?_
                case him5 => simp only [List.getElem?_toArray, List.getElem?_cons_zero, List.getElem?_cons_succ]; rfl
                case hQm5 => exact fun _ _ _ h => h
                case hym5 => refine Or.inl ⟨by rfl, ?_⟩; intro W hSw; (try dsimp only at hSw); go_simp; try with_reducible rfl
                simp only [Act.put, List.setIfInBounds_toArray, List.set_cons_zero, List.set_cons_succ]
                refine wpAnyH_take (i := 6) (oi := ?om6) (v := ?vm6) ?him6 (by kernel_rfl) (by kernel_rfl) (by kernel_rfl) ?hQm6 ?hym6 hH0 ?_
                case him6 => simp only [List.getElem?_toArray, List.getElem?_cons_zero, List.getElem?_cons_succ]; rfl
                case hQm6 => exact fun _ _ _ h => h
                case hym6 => refine Or.inl ⟨by rfl, ?_⟩; intro W hSw; (try dsimp only at hSw); go_simp; try with_reducible rfl
                simp only [Act.put, List.setIfInBounds_toArray, List.set_cons_zero, List.set_cons_succ]
                refine wpAnyH_take (i := 9) (oi := ?om9) (v := ?vm9) ?him9 (by kernel_rfl) (by kernel_rfl) (by kernel_rfl) ?hQm9 ?hym9 hH0 ?_
                case him9 => simp only [List.getElem?_toArray, List.getElem?_cons_zero, List.getElem?_cons_succ]; rfl
                case hQm9 => exact fun _ _ _ h => h
                case hym9 => refine Or.inl ⟨by rfl, ?_⟩; intro W hSw; (try dsimp only at hSw); go_simp; try with_reducible rfl
                simp only [Act.put, List.setIfInBounds_toArray, List.set_cons_zero, List.set_cons_succ]
                refine wpAnyH_take (i := 10) (oi := ?om10) (v := ?vm10) ?him10 (by kernel_rfl) (by kernel_rfl) (by kernel_rfl) ?hQm10 ?hym10 hH0 ?_
                case him10 => simp only [List.getElem?_toArray, List.getElem?_cons_zero, List.getElem?_cons_succ]; rfl
                case hQm10 => exact fun _ _ _ h => h
                case hym10 => refine Or.inl ⟨by rfl, ?_⟩; intro W hSw; (try dsimp only at hSw); go_simp; try with_reducible rfl
                simp only [Act.put, List.setIfInBounds_toArray, List.set_cons_zero, List.set_cons_succ]
                refine wpAnyH_take (i := 11) (oi := ?om11) (v := ?vm11) ?him11 (by kernel_rfl) (by kernel_rfl) (by kernel_rfl) ?hQm11 ?hym11 hH0 ?_
                case him11 => simp only [List.getElem?_toArray, List.getElem?_cons_zero, List.getElem?_cons_succ]; rfl
                case hQm11 => exact fun _ _ _ h => h
                case hym11 => refine Or.inl ⟨by rfl, ?_⟩; intro W hSw; (try dsimp only at hSw); go_simp; try with_reducible rfl
                simp only [Act.put, List.setIfInBounds_toArray, List.set_cons_zero, List.set_cons_succ]
                refine wpAnyH_take (i := 12) (oi := ?om12) (v := ?vm12) ?him12 (by kernel_rfl) (by kernel_rfl) (by kernel_rfl) ?hQm12 ?hym12 hH0 ?_
                case him12 => simp only [List.getElem?_toArray, List.getElem?_cons_zero, List.getElem?_cons_succ]; rfl
                case hQm12 => exact fun _ _ _ h => h
                case hym12 => refine Or.inl ⟨by rfl, ?_⟩; intro W hSw; (try dsimp only at hSw); go_simp; try with_reducible rfl
                simp only [Act.put, List.setIfInBounds_toArray, List.set_cons_zero, List.set_cons_succ]
                refine wpAnyH_take (i := 13) (oi := ?om13) (v := ?vm13) ?him13 (by kernel_rfl) (by kernel_rfl) (by kernel_rfl) ?hQm13 ?hym13 hH0 ?_
                case him13 => simp only [List.getElem?_toArray, List.getElem?_cons_zero, List.getElem?_cons_succ]; rfl
                case hQm13 => exact fun _ _ _ h => h
                case hym13 => refine Or.inl ⟨by rfl, ?_⟩; intro W hSw; (try dsimp only at hSw); go_simp; try with_reducible rfl
                simp only [Act.put, List.setIfInBounds_toArray, List.set_cons_zero, List.set_cons_succ]
                refine wpAnyH_take (i := 14) (oi := ?om14) (v := ?vm14) ?him14 (by kernel_rfl) (by kernel_rfl) (by kernel_rfl) ?hQm14 ?hym14 hH0 ?_
                case him14 => simp only [List.getElem?_toArray, List.getElem?_cons_zero, List.getElem?_cons_succ]; rfl
                case hQm14 => exact fun _ _ _ h => h
                case hym14 => refine Or.inl ⟨by rfl, ?_⟩; intro W hSw; (try dsimp only at hSw); go_simp; try with_reducible rfl
                simp only [Act.put, List.setIfInBounds_toArray, List.set_cons_zero, List.set_cons_succ]
                clear hH0
                have HD := Lib.hid (Below.refl wr.heap.size wr).drew
                generalize wr.drew = wd at *
                refine wpAnyH_ready (rs := [7]) (by kernel_rfl) (by simp) ?_
                refine AllReadyH.cons (o := ?om7) ?hom7 (fun K' hK => ?_) AllReadyH.nil
                case hom7 => simp only [List.getElem?_toArray, List.getElem?_cons_zero, List.getElem?_cons_succ]; rfl
                go_simp
                refine (CPX.out _).mono ?_
                rintro r w3 ⟨rfl, hb3⟩
                have HD3 := Lib.hid (HD.out.trans (hb3.mono HD.out.size))
                clear hb3
                refine hK.out _ _ (MKS.out _ HD3.out) (fun hH1 => ?_)
                clear hK K'
                (try simp only [Act.put, List.setIfInBounds_toArray, List.set_cons_zero, List.set_cons_succ])
                refine wpAnyH_take (i := 8) (oi := ?om8) (v := ?vm8) ?him8 (by kernel_rfl) (by kernel_rfl) (by kernel_rfl) ?hQm8 ?hym8 hH1 ?_
                case him8 => simp only [List.getElem?_toArray, List.getElem?_cons_zero, List.getElem?_cons_succ]; rfl
                case hQm8 => exact fun _ _ _ h => h
                case hym8 => refine Or.inl ⟨by rfl, ?_⟩; intro W hSw; (try dsimp only at hSw); go_simp; try with_reducible rfl
                simp only [Act.put, List.setIfInBounds_toArray, List.set_cons_zero, List.set_cons_succ]
                clear hH1
                refine wpAnyH_ready (rs := [15]) (by kernel_rfl) (by simp) ?_
                refine AllReadyH.cons (o := ?om15) ?hom15 (fun K' hK => ?_) AllReadyH.nil
                case hom15 => simp only [List.getElem?_toArray, List.getElem?_cons_zero, List.getElem?_cons_succ]; rfl
                go_simp
                refine (CPY.out _).mono ?_
                rintro r w4 ⟨rfl, hb4⟩
                have HD4 := Lib.hid (HD3.out.trans (hb4.mono HD3.out.size))
                clear hb4
                refine hK.out _ _ (MKS.out _ HD4.out) (fun hH2 => ?_)
                clear hK K'
                (try simp only [Act.put, List.setIfInBounds_toArray, List.set_cons_zero, List.set_cons_succ])
                refine wpAnyH_take (i := 16) (oi := ?om16) (v := ?vm16) ?him16 (by kernel_rfl) (by kernel_rfl) (by kernel_rfl) ?hQm16 ?hym16 hH2 ?_
                case him16 => simp only [List.getElem?_toArray, List.getElem?_cons_zero, List.getElem?_cons_succ]; rfl
                case hQm16 => exact fun _ _ _ h => h
                case hym16 => refine Or.inl ⟨by rfl, ?_⟩; intro W hSw; (try dsimp only at hSw); go_simp; try with_reducible rfl
                simp only [Act.put, List.setIfInBounds_toArray, List.set_cons_zero, List.set_cons_succ]
                refine wpAnyH_take (i := 17) (oi := ?om17) (v := ?vm17) ?him17 (by kernel_rfl) (by kernel_rfl) (by kernel_rfl) ?hQm17 ?hym17 hH2 ?_
                case him17 => simp only [List.getElem?_toArray, List.getElem?_cons_zero, List.getElem?_cons_succ]; rfl
                case hQm17 => exact fun _ _ _ h => h
                case hym17 => refine Or.inl ⟨by rfl, ?_⟩; intro W hSw; (try dsimp only at hSw); go_simp; try with_reducible rfl
                simp only [Act.put, List.setIfInBounds_toArray, List.set_cons_zero, List.set_cons_succ]
                clear hH2
                refine wpAnyH_done (by kernel_rfl) ?_ _
                go_wp2_with fail
                go_roundw
                case rel => exact ⟨k + 1, _, by omega, by go_num, rfl, by rw [HPP.out, HTK.out, putM2]; simp only [List.append_assoc], bx_more HBX.out HD4.out⟩
                case measure => simp [intOf]; omega
              · have g2 : ¬ ((k : Int) < (mk.length : Int)) := by omega
                have htk : mk.take k = mk := List.take_of_length_le (by omega)
                have HTK := Lib.hid htk
                clear htk
                go_wp2_with fail
                go_meet
                case rel => exact ⟨_, _, rfl, rfl, by have h := HTOT.out; unfold putL at h; rw [HPP.out, HTK.out]; simpa only [putI, List.append_assoc] using h, by have h := HCN.out; rw [if_neg (by decide)] at h; omega, HBX.out⟩
          · obtain rfl : cI = 101 := by rw [← HCI.out, hx]; rfl
            have htot : pre ++ (partF ⟨kn, nu, ch, si, bo, mk, en, ev, b, st⟩ 101 j ++ goF ⟨kn, nu, ch, si, bo, mk, en, ev, b, st⟩ (L.drop (i + 1)) (j)) = tot := by have h := HTOT0.out; rw [goF, hx] at h; exact h
            have HCN := Lib.hid (show j + ((if (101 : Nat) = 110 then 1 else 0) + cntN (L.drop (i + 1))) ≤ nu.length from by have h := HCN0.out; rw [cntN, hx] at h; exact h)
            have hx98 := hx
            have hidx := HIDX.out
            clear hx
            have hpart : partF ⟨kn, nu, ch, si, bo, mk, en, ev, b, st⟩ 101 j = putL bytesR en := by rw [partF, if_neg (by decide), if_neg (by decide), if_neg (by decide), if_neg (by decide), if_neg (by decide), if_pos rfl]
            rw [hpart] at htot
            have hpl : pre.length ≤ 200000000 := by have h := HTL.out; rw [← htot, List.length_append] at h; omega
            have HTOT := Lib.hid htot
            clear htot hpart
            have y := box_range HBX.out 6 _ rfl
            simp only [Nat.zero_add] at y
            have z1 := catR_le en
            have z2 := putI_le (en.length : Int)
            have CP := Lib.hid (refPutRow_any B (.slice ea en.length ec) en wr (HE.out.keep (bx_below HBX.out) HB.out) (Nat.le_trans HB.out (bx_below HBX.out).size) HER.out (by omega))
            have hadd := fun (W : World) => add_any pre (bstr (putL bytesR en)) (by omega) (by rw [bstr_size]; unfold putL; rw [List.length_append]; unfold putI at z2; omega) W
            rw [bstr_list] at hadd
            clear z1 z2
            go_wp2_with fail
            refine CP.out.mono ?_
            rintro r w2 ⟨rfl, hb2⟩
            go_wp2_with fail
            go_meet
            case rel => exact ⟨_, _, rfl, rfl, by rw [List.append_assoc]; exact HTOT.out, by have h := HCN.out; rw [if_neg (by decide)] at h; omega, bx_more HBX.out hb2⟩
          · obtain rfl : cI = 118 := by rw [← HCI.out, hx]; rfl
            have htot : pre ++ (partF ⟨kn, nu, ch, si, bo, mk, en, ev, b, st⟩ 118 j ++ goF ⟨kn, nu, ch, si, bo, mk, en, ev, b, st⟩ (L.drop (i + 1)) (j)) = tot := by have h := HTOT0.out; rw [goF, hx] at h; exact h
            have HCN := Lib.hid (show j + ((if (118 : Nat) = 110 then 1 else 0) + cntN (L.drop (i + 1))) ≤ nu.length from by have h := HCN0.out; rw [cntN, hx] at h; exact h)
            have hx98 := hx
            have hidx := HIDX.out
            clear hx
            have hpart : partF ⟨kn, nu, ch, si, bo, mk, en, ev, b, st⟩ 118 j = putL (fun v => (putE v).data.toList) ev := by rw [partF, if_neg (by decide), if_neg (by decide), if_neg (by decide), if_neg (by decide), if_neg (by decide), if_neg (by decide), if_pos rfl]
            rw [hpart] at htot
            have hpl : pre.length ≤ 200000000 := by have h := HTL.out; rw [← htot, List.length_append] at h; omega
            have HTOT := Lib.hid htot
            clear htot hpart
            have y := box_range HBX.out 7 _ rfl
            simp only [Nat.zero_add] at y
            have CP := Lib.hid (rN_any (ev.length : Int))
            have hadd := fun (W : World) => add_any pre (pN (ev.length : Int)) (by omega) (by have := pN_size (ev.length : Int); omega) W
            rw [pN_list] at hadd
            go_wp2_with fail
            refine (CP.out _).mono ?_
            rintro r w2 ⟨rfl, hb2⟩
            replace HBX := Lib.hid (bx_more HBX.out hb2)
            clear hb2 y
            go_wp2_with fail
            clear hadd
            go_loopw [4, 12] (fun t4 t12 wr => ∃ (k : Nat) (PP : List UInt8), k ≤ ev.length ∧ t12 = .int .i64 k ∧ t4 = .string (bstr PP) ∧ PP = pre ++ putI (ev.length : Int) ++ catL (fun v => (putE v).data.toList) (ev.take k) ∧ Below (w.heap.size + 1) (w.alloc (.cells #[.int .i64 kn, .slice na nu.length nc, .slice ca ch.length cc, .slice sa si.length sc, .slice oa bo.length oc, .slice ma mk.length mc, .slice ea en.length ec, .slice va ev.length vc, .string b.stream, .int .i64 b.expect, .int .i64 b.session, .int .i64 b.seq, .slice la b.events.length lc, .string st] 37)) wr) (fun _ t12 _ => ev.length - (intOf t12).toNat)
            case atStart => exact ⟨0, _, Nat.zero_le _, rfl, rfl, by rw [show catL (fun v => (putE v).data.toList) (ev.take 0) = [] from rfl, List.append_nil], HBX.out⟩
            case round =>
              obtain ⟨k, PP, hk, rfl, rfl, hpp, hbl⟩ := hrel
              have HPP := Lib.hid hpp
              clear hpp
              have HBX := Lib.hid hbl
              have y := box_range hbl 7 _ rfl
              simp only [Nat.zero_add] at y
              clear hbl
              by_cases hlt2 : k < ev.length
              · obtain ⟨bb, oo, qq, he, _, _, hc1, hc2⟩ := (HV.out.keep (bx_below HBX.out) HB.out).get k hlt2
                obtain ⟨e1, -, e3⟩ : va = some ⟨bb, oo, none⟩ ∧ ev.length = ev.length ∧ vc = qq := by injection he with e1 e2 e3; exact ⟨e1, e2, e3⟩
                rw [e1, e3] at y
                clear he e1 e3
                have htk := catL_take (put := (fun v => (putE v).data.toList)) hlt2
                have z1 := catE_le (ev.take k)
                rw [List.length_take] at z1
                have z2 := putI_le (ev.length : Int)
                have z5 : PP.length ≤ 200100000 := by rw [HPP.out, List.length_append, List.length_append]; omega
                have hrx := HEV.out ev[k] (List.getElem_mem hlt2)
                obtain ⟨x, hx⟩ : ∃ x, ev[k] = x := ⟨_, rfl⟩
                rw [hx] at hc1 hc2 htk hrx
                have hz := bytesE_size (right_light hrx)
                have hpe : putE x = bytesE x := by rw [putE, if_pos hrx]
                have CPX := Lib.hid (refPutE_any x (right_light hrx) _ rfl)
                have hadd := fun (W : World) => add_any PP (putE x) (by omega) (by rw [hpe]; omega) W
                have HTK := Lib.hid htk
                have i3 : (0 : Int) ≤ (k : Int) := by omega
                have i4 : (k : Int) < (ev.length : Int) := by omega
                clear hx htk z1 z2 z5 hrx hz hpe
                go_wp2_with fail
                refine (CPX.out _).mono ?_
                rintro r w3 ⟨rfl, hb3⟩
                go_wp2_with fail
                go_roundw
                case rel => exact ⟨k + 1, _, by omega, by go_num, rfl, by rw [HPP.out, HTK.out]; simp only [List.append_assoc], bx_more HBX.out hb3⟩
                case measure => simp [intOf]; omega
              · have g2 : ¬ ((k : Int) < (ev.length : Int)) := by omega
                have htk : ev.take k = ev := List.take_of_length_le (by omega)
                have HTK := Lib.hid htk
                clear htk
                go_wp2_with fail
                go_meet
                case rel => exact ⟨_, _, rfl, rfl, by have h := HTOT.out; unfold putL at h; rw [HPP.out, HTK.out]; simpa only [putI, List.append_assoc] using h, by have h := HCN.out; rw [if_neg (by decide)] at h; omega, HBX.out⟩
          · obtain rfl : cI = 98 := by rw [← HCI.out, hx]; rfl
            have htot : pre ++ (partF ⟨kn, nu, ch, si, bo, mk, en, ev, b, st⟩ 98 j ++ goF ⟨kn, nu, ch, si, bo, mk, en, ev, b, st⟩ (L.drop (i + 1)) (j)) = tot := by have h := HTOT0.out; rw [goF, hx] at h; exact h
            have HCN := Lib.hid (show j + ((if (98 : Nat) = 110 then 1 else 0) + cntN (L.drop (i + 1))) ≤ nu.length from by have h := HCN0.out; rw [cntN, hx] at h; exact h)
            have hx98 := hx
            have hidx := HIDX.out
            clear hx
            have hpart : partF ⟨kn, nu, ch, si, bo, mk, en, ev, b, st⟩ 98 j = (putB b).data.toList := by rw [partF, if_neg (by decide), if_neg (by decide), if_neg (by decide), if_neg (by decide), if_neg (by decide), if_neg (by decide), if_neg (by decide), if_pos rfl]
            rw [hpart] at htot
            have hpl : pre.length ≤ 200000000 := by have h := HTL.out; rw [← htot, List.length_append] at h; omega
            have HTOT := Lib.hid htot
            clear htot hpart
            have y8 := box_range HBX.out 8 _ rfl
            have y9 := box_range HBX.out 9 _ rfl
            have y10 := box_range HBX.out 10 _ rfl
            have y11 := box_range HBX.out 11 _ rfl
            have y12 := box_range HBX.out 12 _ rfl
            simp only [Nat.zero_add] at y8 y9 y10 y11 y12
            have hfb := HFB.out (by exact hx98)
            have CP := Lib.hid (refPutB_any B (.agg #[.string b.stream, .int .i64 b.expect, .int .i64 b.session, .int .i64 b.seq, .slice la b.events.length lc]) b _ rfl wr ⟨_, rfl, HL.out.keep (bx_below HBX.out) HB.out⟩ (Nat.le_trans HB.out (bx_below HBX.out).size) (fits_light hfb))
            have hadd := fun (W : World) => add_any pre (putB b) (by omega) (by have := putB_le b; omega) W
            clear hfb
            go_wp2_with fail
            refine CP.out.mono ?_
            rintro r w2 ⟨rfl, hb2⟩
            go_wp2_with fail
            go_meet
            case rel => exact ⟨_, _, rfl, rfl, by rw [List.append_assoc]; exact HTOT.out, by have h := HCN.out; rw [if_neg (by decide)] at h; omega, bx_more HBX.out hb2⟩
          · obtain rfl : cI = 115 := by rw [← HCI.out, hx]; rfl
            have htot : pre ++ (partF ⟨kn, nu, ch, si, bo, mk, en, ev, b, st⟩ 115 j ++ goF ⟨kn, nu, ch, si, bo, mk, en, ev, b, st⟩ (L.drop (i + 1)) (j)) = tot := by have h := HTOT0.out; rw [goF, hx] at h; exact h
            have HCN := Lib.hid (show j + ((if (115 : Nat) = 110 then 1 else 0) + cntN (L.drop (i + 1))) ≤ nu.length from by have h := HCN0.out; rw [cntN, hx] at h; exact h)
            have hx98 := hx
            have hidx := HIDX.out
            clear hx
            have hpart : partF ⟨kn, nu, ch, si, bo, mk, en, ev, b, st⟩ 115 j = putT st.data.toList := by rw [partF, if_neg (by decide), if_neg (by decide), if_neg (by decide), if_neg (by decide), if_neg (by decide), if_neg (by decide), if_neg (by decide), if_neg (by decide)]
            rw [hpart] at htot
            have hpl : pre.length ≤ 200000000 := by have h := HTL.out; rw [← htot, List.length_append] at h; omega
            have HTOT := Lib.hid htot
            clear htot hpart
            have y13 := box_range HBX.out 13 _ rfl
            simp only [Nat.zero_add] at y13
            have CP := Lib.hid (rT_any st (by omega))
            have hadd := fun (W : World) => add_any pre (pT st) (by omega) (pT_le st hst) W
            rw [pT_list] at hadd
            go_wp2_with fail
            refine (CP.out _).mono ?_
            rintro r w2 ⟨rfl, hb2⟩
            go_wp2_with fail
            go_meet
            case rel => exact ⟨_, _, rfl, rfl, by rw [List.append_assoc]; exact HTOT.out, by have h := HCN.out; rw [if_neg (by decide)] at h; omega, bx_more HBX.out hb2⟩
        case rest =>
          obtain ⟨j1, pre1, rfl, rfl, ht1, hc1, hb1⟩ := hcut
          have HT1 := Lib.hid ht1
          have HC1 := Lib.hid hc1
          have HB1 := Lib.hid hb1
          clear ht1 hc1 hb1
          go_wp2_with fail
          go_roundw
          case rel => exact ⟨i + 1, j1, pre1, by omega, by go_num, rfl, rfl, HT1.out, HC1.out, HB1.out⟩
          case measure => simp [intOf]; omega
      · have g : ¬ ((i : Int) < (sh.size : Int)) := by omega
        have hdr : L.drop i = [] := List.drop_eq_nil_of_le (by rw [← HSS.out]; omega)
        rw [hdr, goF, List.append_nil] at htt
        clear hcn hdr hbl
        subst htt
        go_wp2_with fail
        go_ret
        exact ⟨rfl, bx_below HBX.out⟩
end Go.Proofs.YtflojipkgaocnaaGreatDoor
