/-
  The walk of bucketlinelaw7.MessageEpochs. Printed by gen_mslaw2.py of this claim's writer.
-/
import Derived.Test.YtflojipkgaocnaaDoorMsDr
import Derived.Test.YtflojipkgaocnaaDoorMsShown
import Derived.Test.YtflojipkgaocnaaDoorRegInv
import Derived.BigQuiet
import Derived.IntWalk
namespace Go.Proofs.YtflojipkgaocnaaDoor
open Go.RowKit
set_option linter.unusedSimpArgs false
set_option linter.unusedVariables false

set_option maxRecDepth 100000 in
set_option maxHeartbeats 12800000 in
theorem epochs_none (k n0 n1 n2 n3 n4 n5 : Int) (ch si bo : List Int) (mk : List (Int × Int)) (en : List EN) (ev : List EV) (b : BW) (st : ByteArray) (ca sa ba ma ea va la : Option Addr) (ck sk bk mc ec vk lk : Nat) (W : World) (h : DOk W.heap.size W ⟨k, n0, n1, n2, n3, n4, n5, ch, si, bo, mk, en, ev, b, st⟩ ⟨.slice ca ch.length ck, .slice sa si.length sk, .slice ba bo.length bk, .slice ma mk.length mc, .slice ea en.length ec, .slice va ev.length vk, .slice la b.events.length lk⟩) (hsz : SizeD ⟨k, n0, n1, n2, n3, n4, n5, ch, si, bo, mk, en, ev, b, st⟩) (hT : Tabs W) (hm : madeD ⟨k, n0, n1, n2, n3, n4, n5, ch, si, bo, mk, en, ev, b, st⟩ = none) :
    Calls Tryd.prog 6 #[.agg #[.int .i64 k, .int .i64 n0, .int .i64 n1, .int .i64 n2, .int .i64 n3, .int .i64 n4, .int .i64 n5, .slice ca ch.length ck, .slice sa si.length sk, .slice ba bo.length bk, .slice ma mk.length mc, .slice ea en.length ec, .slice va ev.length vk, .string b.stream, .int .i64 b.expect, .int .i64 b.session, .int .i64 b.seq, .slice la b.events.length lk, .string st]] W fun r w' => r = .returned (.bool true) ∧ Below W.heap.size W w' := by
  have HT := Lib.hid hT
  have q1 := iface_neq
  have q2 := iface_eql
  have q3 := nil_eql
  have q4 := nil_neq
  have CS := Lib.hid (fun (X : World) (hX : Below W.heap.size W X) => small_any W.heap.size (.agg #[.int .i64 k, .int .i64 n0, .int .i64 n1, .int .i64 n2, .int .i64 n3, .int .i64 n4, .int .i64 n5, .slice ca ch.length ck, .slice sa si.length sk, .slice ba bo.length bk, .slice ma mk.length mc, .slice ea en.length ec, .slice va ev.length vk, .string b.stream, .int .i64 b.expect, .int .i64 b.session, .int .i64 b.seq, .slice la b.events.length lk, .string st]) ⟨k, n0, n1, n2, n3, n4, n5, ch, si, bo, mk, en, ev, b, st⟩ ⟨.slice ca ch.length ck, .slice sa si.length sk, .slice ba bo.length bk, .slice ma mk.length mc, .slice ea en.length ec, .slice va ev.length vk, .slice la b.events.length lk⟩ X rfl (h.keep hX (Nat.le_refl _)) hX.size hsz)
  have CM := Lib.hid (fun (X : World) (hX : Below W.heap.size W X) => made_any W.heap.size (.agg #[.int .i64 k, .int .i64 n0, .int .i64 n1, .int .i64 n2, .int .i64 n3, .int .i64 n4, .int .i64 n5, .slice ca ch.length ck, .slice sa si.length sk, .slice ba bo.length bk, .slice ma mk.length mc, .slice ea en.length ec, .slice va ev.length vk, .string b.stream, .int .i64 b.expect, .int .i64 b.session, .int .i64 b.seq, .slice la b.events.length lk, .string st]) ⟨k, n0, n1, n2, n3, n4, n5, ch, si, bo, mk, en, ev, b, st⟩ ⟨.slice ca ch.length ck, .slice sa si.length sk, .slice ba bo.length bk, .slice ma mk.length mc, .slice ea en.length ec, .slice va ev.length vk, .slice la b.events.length lk⟩ _ hm X rfl (h.keep hX (Nat.le_refl _)) hX.size)
  have HA := Lib.hid ((Below.refl W.heap.size W).alloc (Nat.le_refl _) (.cells #[.int .i64 k, .int .i64 n0, .int .i64 n1, .int .i64 n2, .int .i64 n3, .int .i64 n4, .int .i64 n5, .slice ca ch.length ck, .slice sa si.length sk, .slice ba bo.length bk, .slice ma mk.length mc, .slice ea en.length ec, .slice va ev.length vk, .string b.stream, .int .i64 b.expect, .int .i64 b.session, .int .i64 b.seq, .slice la b.events.length lk, .string st] 30))
  have HB0 := Lib.hid (bx_new (w := W) (.cells #[.int .i64 k, .int .i64 n0, .int .i64 n1, .int .i64 n2, .int .i64 n3, .int .i64 n4, .int .i64 n5, .slice ca ch.length ck, .slice sa si.length sk, .slice ba bo.length bk, .slice ma mk.length mc, .slice ea en.length ec, .slice va ev.length vk, .string b.stream, .int .i64 b.expect, .int .i64 b.session, .int .i64 b.seq, .slice la b.events.length lk, .string st] 30))
  clear h hsz hT
  clear hm
  go_enter Tryd.func6, Tryd.ntmps6
  go_wp2_with fail
  refine (shown_any _ (tabs_below HT.out HA.out)).mono ?_
  rintro r w1 ⟨rfl, hb1⟩
  have HRG := Lib.hid (bx_more HB0.out hb1)
  clear hb1
  go_wp2_with (refine wpList_load_mid rfl 30 _ rfl W.heap.size 0 (by rfl) [.int .i64 k, .int .i64 n0, .int .i64 n1, .int .i64 n2, .int .i64 n3, .int .i64 n4, .int .i64 n5, .slice ca ch.length ck, .slice sa si.length sk, .slice ba bo.length bk, .slice ma mk.length mc, .slice ea en.length ec, .slice va ev.length vk, .string b.stream, .int .i64 b.expect, .int .i64 b.session, .int .i64 b.seq, .slice la b.events.length lk, .string st] _ (box_range HRG.out) Tryd.underlying30 rfl (by kernel_rfl) ?_)
  refine (CS.out _ (bx_below HRG.out)).mono ?_
  rintro r w2 ⟨q, rfl, hq, hb2⟩
  have HQ := Lib.hid hq
  replace HRG := Lib.hid (bx_more HRG.out hb2)
  clear hb2 hq
  go_wp2_with (refine wpList_load_mid rfl 30 _ rfl W.heap.size 0 (by rfl) [.int .i64 k, .int .i64 n0, .int .i64 n1, .int .i64 n2, .int .i64 n3, .int .i64 n4, .int .i64 n5, .slice ca ch.length ck, .slice sa si.length sk, .slice ba bo.length bk, .slice ma mk.length mc, .slice ea en.length ec, .slice va ev.length vk, .string b.stream, .int .i64 b.expect, .int .i64 b.session, .int .i64 b.seq, .slice la b.events.length lk, .string st] _ (box_range HRG.out) Tryd.underlying30 rfl (by kernel_rfl) ?_)
  refine (CM.out _ (bx_below HRG.out)).mono ?_
  rintro r w3 ⟨v3, rfl, hn3, hm3, hb3⟩
  replace HRG := Lib.hid (bx_more HRG.out hb3)
  clear hb3
  obtain rfl := hn3 rfl
  cases q <;> · go_wp2_with fail
                go_ret
                exact ⟨rfl, bx_below HRG.out⟩

set_option maxRecDepth 100000 in
set_option maxHeartbeats 12800000 in
theorem epochs_some (k n0 n1 n2 n3 n4 n5 : Int) (ch si bo : List Int) (mk : List (Int × Int)) (en : List EN) (ev : List EV) (b : BW) (st : ByteArray) (ca sa ba ma ea va la : Option Addr) (ck sk bk mc ec vk lk : Nat) (W : World) (h : DOk W.heap.size W ⟨k, n0, n1, n2, n3, n4, n5, ch, si, bo, mk, en, ev, b, st⟩ ⟨.slice ca ch.length ck, .slice sa si.length sk, .slice ba bo.length bk, .slice ma mk.length mc, .slice ea en.length ec, .slice va ev.length vk, .slice la b.events.length lk⟩) (hsz : SizeD ⟨k, n0, n1, n2, n3, n4, n5, ch, si, bo, mk, en, ev, b, st⟩) (hT : Tabs W) (m : Msg) (hm : madeD ⟨k, n0, n1, n2, n3, n4, n5, ch, si, bo, mk, en, ev, b, st⟩ = some m) (n : Int) (hn : epochM m = n) :
    Calls Tryd.prog 6 #[.agg #[.int .i64 k, .int .i64 n0, .int .i64 n1, .int .i64 n2, .int .i64 n3, .int .i64 n4, .int .i64 n5, .slice ca ch.length ck, .slice sa si.length sk, .slice ba bo.length bk, .slice ma mk.length mc, .slice ea en.length ec, .slice va ev.length vk, .string b.stream, .int .i64 b.expect, .int .i64 b.session, .int .i64 b.seq, .slice la b.events.length lk, .string st]] W fun r w' => r = .returned (.bool true) ∧ Below W.heap.size W w' := by
  have HT := Lib.hid hT
  have q1 := iface_neq
  have q2 := iface_eql
  have q3 := nil_eql
  have q4 := nil_neq
  have CS := Lib.hid (fun (X : World) (hX : Below W.heap.size W X) => small_any W.heap.size (.agg #[.int .i64 k, .int .i64 n0, .int .i64 n1, .int .i64 n2, .int .i64 n3, .int .i64 n4, .int .i64 n5, .slice ca ch.length ck, .slice sa si.length sk, .slice ba bo.length bk, .slice ma mk.length mc, .slice ea en.length ec, .slice va ev.length vk, .string b.stream, .int .i64 b.expect, .int .i64 b.session, .int .i64 b.seq, .slice la b.events.length lk, .string st]) ⟨k, n0, n1, n2, n3, n4, n5, ch, si, bo, mk, en, ev, b, st⟩ ⟨.slice ca ch.length ck, .slice sa si.length sk, .slice ba bo.length bk, .slice ma mk.length mc, .slice ea en.length ec, .slice va ev.length vk, .slice la b.events.length lk⟩ X rfl (h.keep hX (Nat.le_refl _)) hX.size hsz)
  have CM := Lib.hid (fun (X : World) (hX : Below W.heap.size W X) => made_any W.heap.size (.agg #[.int .i64 k, .int .i64 n0, .int .i64 n1, .int .i64 n2, .int .i64 n3, .int .i64 n4, .int .i64 n5, .slice ca ch.length ck, .slice sa si.length sk, .slice ba bo.length bk, .slice ma mk.length mc, .slice ea en.length ec, .slice va ev.length vk, .string b.stream, .int .i64 b.expect, .int .i64 b.session, .int .i64 b.seq, .slice la b.events.length lk, .string st]) ⟨k, n0, n1, n2, n3, n4, n5, ch, si, bo, mk, en, ev, b, st⟩ ⟨.slice ca ch.length ck, .slice sa si.length sk, .slice ba bo.length bk, .slice ma mk.length mc, .slice ea en.length ec, .slice va ev.length vk, .slice la b.events.length lk⟩ _ hm X rfl (h.keep hX (Nat.le_refl _)) hX.size)
  have HA := Lib.hid ((Below.refl W.heap.size W).alloc (Nat.le_refl _) (.cells #[.int .i64 k, .int .i64 n0, .int .i64 n1, .int .i64 n2, .int .i64 n3, .int .i64 n4, .int .i64 n5, .slice ca ch.length ck, .slice sa si.length sk, .slice ba bo.length bk, .slice ma mk.length mc, .slice ea en.length ec, .slice va ev.length vk, .string b.stream, .int .i64 b.expect, .int .i64 b.session, .int .i64 b.seq, .slice la b.events.length lk, .string st] 30))
  have HB0 := Lib.hid (bx_new (w := W) (.cells #[.int .i64 k, .int .i64 n0, .int .i64 n1, .int .i64 n2, .int .i64 n3, .int .i64 n4, .int .i64 n5, .slice ca ch.length ck, .slice sa si.length sk, .slice ba bo.length bk, .slice ma mk.length mc, .slice ea en.length ec, .slice va ev.length vk, .string b.stream, .int .i64 b.expect, .int .i64 b.session, .int .i64 b.seq, .slice la b.events.length lk, .string st] 30))
  clear h hsz hT
  have hk := made_kind hm
  have he := made_epoch hm
  have HLT := Lib.hid (fun hs : SmallD ⟨k, n0, n1, n2, n3, n4, n5, ch, si, bo, mk, en, ev, b, st⟩ => made_light hs hm)
  rw [hn] at he
  have hk' : (m.kind : Int) = k := hk
  have HKD := Lib.hid hk'
  have he' : n = 0 ∨ n = n0 ∨ n = n1 := he
  have HE := Lib.hid he'
  have HN := Lib.hid hn
  clear hm hn hk he hk' he'
  go_enter Tryd.func6, Tryd.ntmps6
  go_wp2_with fail
  refine (shown_any _ (tabs_below HT.out HA.out)).mono ?_
  rintro r w1 ⟨rfl, hb1⟩
  have HRG := Lib.hid (bx_more HB0.out hb1)
  clear hb1
  go_wp2_with (refine wpList_load_mid rfl 30 _ rfl W.heap.size 0 (by rfl) [.int .i64 k, .int .i64 n0, .int .i64 n1, .int .i64 n2, .int .i64 n3, .int .i64 n4, .int .i64 n5, .slice ca ch.length ck, .slice sa si.length sk, .slice ba bo.length bk, .slice ma mk.length mc, .slice ea en.length ec, .slice va ev.length vk, .string b.stream, .int .i64 b.expect, .int .i64 b.session, .int .i64 b.seq, .slice la b.events.length lk, .string st] _ (box_range HRG.out) Tryd.underlying30 rfl (by kernel_rfl) ?_)
  refine (CS.out _ (bx_below HRG.out)).mono ?_
  rintro r w2 ⟨q, rfl, hq, hb2⟩
  have HQ := Lib.hid hq
  replace HRG := Lib.hid (bx_more HRG.out hb2)
  clear hb2 hq
  go_wp2_with (refine wpList_load_mid rfl 30 _ rfl W.heap.size 0 (by rfl) [.int .i64 k, .int .i64 n0, .int .i64 n1, .int .i64 n2, .int .i64 n3, .int .i64 n4, .int .i64 n5, .slice ca ch.length ck, .slice sa si.length sk, .slice ba bo.length bk, .slice ma mk.length mc, .slice ea en.length ec, .slice va ev.length vk, .string b.stream, .int .i64 b.expect, .int .i64 b.session, .int .i64 b.seq, .slice la b.events.length lk, .string st] _ (box_range HRG.out) Tryd.underlying30 rfl (by kernel_rfl) ?_)
  refine (CM.out _ (bx_below HRG.out)).mono ?_
  rintro r w3 ⟨v3, rfl, hn3, hm3, hb3⟩
  replace HRG := Lib.hid (bx_more HRG.out hb3)
  clear hb3
  have hm := hm3 m rfl
  have hB3 : Below w3.heap.size w3 w3 := Below.refl _ _
  have HM := Lib.hid hm
  obtain ⟨Tv, pv, Fv, rfl, hmt, hcf, hc⟩ := hasKind hm
  clear hm hn3 hm3 hmt hcf hc hB3
  cases q with
  | false =>
    go_wp2_with fail
    go_ret
    exact ⟨rfl, bx_below HRG.out⟩
  | true =>
    have hl := HLT.out (HQ.out rfl)
    have HL := Lib.hid hl
    clear hl
    have CR := Lib.hid (fun (X : World) (u : Value) (B : Nat) (q : Bool) (hq : rightM m = q) (hu : IsMsg B X u m) (hB : B ≤ X.heap.size) (hX : Below W.heap.size W X) => rightM_any B u m q hq X hu hB (tabs_below HT.out hX) HL.out)
    have CE := Lib.hid (fun (X : World) (u : Value) (B : Nat) (hu : IsMsg B X u m) (hB : B ≤ X.heap.size) (hX : Below W.heap.size W X) => epochM_any B u m n HN.out X hu hB (tabs_below HT.out hX) HL.out)
    obtain ⟨sp, hsp⟩ : ∃ sp, putM m = sp := ⟨_, rfl⟩
    have CP := Lib.hid (fun (X : World) (u : Value) (B : Nat) (hu : IsMsg B X u m) (hB : B ≤ X.heap.size) (hX : Below W.heap.size W X) => putM_any B u m sp hsp X hu hB (tabs_below HT.out hX) HL.out)
    go_wp2_with fail
    refine (CE.out _ _ _ HM.out (Nat.le_refl _) (bx_below HRG.out)).mono ?_
    rintro r w4 ⟨rfl, hb4⟩
    have HK4 := Lib.hid hb4
    replace HRG := Lib.hid (bx_more HRG.out hb4)
    clear hb4
    go_wp2_with fail
    refine (CP.out _ _ _ (HM.out.keep HK4.out (Nat.le_refl _)) HK4.out.size (bx_below HRG.out)).mono ?_
    rintro r w5 ⟨rfl, hb5⟩
    have HK5 := Lib.hid (bstep HK4.out hb5)
    replace HRG := Lib.hid (bx_more HRG.out hb5)
    clear hb5 HK4
    by_cases hr : rightM m = true
    · have ht := takeM_put hr
      have hz := putM_le hr
      rw [hsp] at ht hz
      have CT := Lib.hid (fun (X : World) (hX : Below W.heap.size W X) => (show Calls Tryd.prog 13 #[.string sp] X fun r w' => GotTake (some m) 0 X r w' from takeM_any sp.data.toList _ _ ht (by rw [size_listE]; omega) X (tabs_below HT.out hX)))
      have CR2 := Lib.hid (fun (X : World) (u : Value) (B : Nat) (hu : IsMsg B X u m) (hB : B ≤ X.heap.size) (hX : Below W.heap.size W X) => CR.out X u B true hr hu hB hX)
      clear ht hz hr CR hsp
      go_wp2_with fail
      refine (CT.out _ (bx_below HRG.out)).mono ?_
      rintro r w6 ⟨v6, rfl, -, hm6, hb6⟩
      have hm := hm6 m rfl
      have HM6 := Lib.hid hm
      obtain ⟨T6, p6, F6, rfl, hmt, hcf, hc⟩ := hasKind hm
      rw [HKD.out] at hc
      have HC := Lib.hid hc
      have HK6 := Lib.hid (bstep HK5.out hb6)
      replace HRG := Lib.hid (bx_more HRG.out hb6)
      clear hb6 HK5 hm hm6 hc
      go_wp2_with fail
      refine (CR2.out _ _ _ (HM.out.keep HK6.out (Nat.le_refl _)) HK6.out.size (bx_below HRG.out)).mono ?_
      rintro r w7 ⟨rfl, hb7⟩
      have HK7 := Lib.hid hb7
      replace HRG := Lib.hid (bx_more HRG.out hb7)
      clear hb7 HK6 CT CR2 CS CM CP
      have MKS := Lib.hid (fun (X' : World) (hk : Below (W.heap.size + 1) (W.alloc (.cells #[.int .i64 k, .int .i64 n0, .int .i64 n1, .int .i64 n2, .int .i64 n3, .int .i64 n4, .int .i64 n5, .slice ca ch.length ck, .slice sa si.length sk, .slice ba bo.length bk, .slice ma mk.length mc, .slice ea en.length ec, .slice va ev.length vk, .string b.stream, .int .i64 b.expect, .int .i64 b.session, .int .i64 b.seq, .slice la b.events.length lk, .string st] 30)) X') => (show X'.cell? ⟨W.heap.size, 0, none⟩ = some (.int .i64 k) ∧ X'.cell? ⟨W.heap.size, 1, none⟩ = some (.int .i64 n0) ∧ X'.cell? ⟨W.heap.size, 2, none⟩ = some (.int .i64 n1) ∧ Below (W.heap.size + 1) (W.alloc (.cells #[.int .i64 k, .int .i64 n0, .int .i64 n1, .int .i64 n2, .int .i64 n3, .int .i64 n4, .int .i64 n5, .slice ca ch.length ck, .slice sa si.length sk, .slice ba bo.length bk, .slice ma mk.length mc, .slice ea en.length ec, .slice va ev.length vk, .string b.stream, .int .i64 b.expect, .int .i64 b.session, .int .i64 b.seq, .slice la b.events.length lk, .string st] 30)) X' from ⟨box19 hk 0 _ rfl, box19 hk 1 _ rfl, box19 hk 2 _ rfl, hk⟩))
      have HM7 := Lib.hid (HM6.out.keep ((Below.refl w7.heap.size w7).drew |> fun k => bstep HK7.out k) (Nat.le_refl _))
      clear HM6
      have hz7 : w6.heap.size ≤ w7.drew.heap.size := by have := HK7.out.size; simpa using this
      have HZ7 := Lib.hid hz7
      clear hz7
      by_cases c0 : n = 0
      · have g0 : (n == 0) = true := by rw [c0]; rfl
        clear c0
        go_wp2_with fail
        refine region_begin (S := fun X' => X'.cell? ⟨W.heap.size, 0, none⟩ = some (.int .i64 k) ∧ X'.cell? ⟨W.heap.size, 1, none⟩ = some (.int .i64 n0) ∧ X'.cell? ⟨W.heap.size, 2, none⟩ = some (.int .i64 n1) ∧ Below (W.heap.size + 1) (W.alloc (.cells #[.int .i64 k, .int .i64 n0, .int .i64 n1, .int .i64 n2, .int .i64 n3, .int .i64 n4, .int .i64 n5, .slice ca ch.length ck, .slice sa si.length sk, .slice ba bo.length bk, .slice ma mk.length mc, .slice ea en.length ec, .slice va ev.length vk, .string b.stream, .int .i64 b.expect, .int .i64 b.session, .int .i64 b.seq, .slice la b.events.length lk, .string st] 30)) X') 34 rfl (by kernel_rfl) (MKS.out _ HRG.out.drew) (fun hH0 => ?_)
        have B1 := Lib.hid HRG.out.drew
        refine wpAnyH_take (i := 0) (oi := ?oa0) (v := ?va0) ?hia0 (by kernel_rfl) (by kernel_rfl) (by kernel_rfl) ?hQa0 ?hya0 hH0 ?_
        case hia0 => simp only [List.getElem?_toArray, List.getElem?_cons_zero]; rfl
        case hQa0 => exact fun _ _ _ h => h
        case hya0 => refine Or.inl ⟨by rfl, ?_⟩; intro W hSw; (try dsimp only at hSw); go_simp; try with_reducible rfl
        simp only [Act.put, List.setIfInBounds_toArray, List.set_cons_zero, List.set_cons_succ]
        refine wpAnyH_take (i := 1) (oi := ?oa1) (v := ?va1) ?hia1 (by kernel_rfl) (by kernel_rfl) (by kernel_rfl) ?hQa1 ?hya1 hH0 ?_
        case hia1 => simp only [List.getElem?_toArray, List.getElem?_cons_zero, List.getElem?_cons_succ]; rfl
        case hQa1 => exact fun _ _ _ h => h
        case hya1 => refine Or.inl ⟨by rfl, ?_⟩; intro W hSw; (try dsimp only at hSw); go_simp; try with_reducible rfl
        simp only [Act.put, List.setIfInBounds_toArray, List.set_cons_zero, List.set_cons_succ]
        refine wpAnyH_take (i := 2) (oi := ?oa2) (v := ?va2) ?hia2 (by kernel_rfl) (by kernel_rfl) (by kernel_rfl) ?hQa2 ?hya2 hH0 ?_
        case hia2 => simp only [List.getElem?_toArray, List.getElem?_cons_zero, List.getElem?_cons_succ]; rfl
        case hQa2 => exact fun _ _ _ h => h
        case hya2 => refine Or.inl ⟨by rfl, ?_⟩; intro W hSw; (try dsimp only at hSw); go_simp; try with_reducible rfl
        simp only [Act.put, List.setIfInBounds_toArray, List.set_cons_zero, List.set_cons_succ]
        refine wpAnyH_take (i := 3) (oi := ?oa3) (v := undef) ?hia3 (by kernel_rfl) (by kernel_rfl) (by kernel_rfl) ?hQa3 ?hya3 hH0 ?_
        case hia3 => simp only [List.getElem?_toArray, List.getElem?_cons_zero, List.getElem?_cons_succ]; rfl
        case hQa3 => exact fun _ _ _ h => h
        case hya3 => exact Or.inr ⟨by rfl, rfl⟩
        simp only [Act.put, List.setIfInBounds_toArray, List.set_cons_zero, List.set_cons_succ]
        refine wpAnyH_take (i := 4) (oi := ?oa4) (v := undef) ?hia4 (by kernel_rfl) (by kernel_rfl) (by kernel_rfl) ?hQa4 ?hya4 hH0 ?_
        case hia4 => simp only [List.getElem?_toArray, List.getElem?_cons_zero, List.getElem?_cons_succ]; rfl
        case hQa4 => exact fun _ _ _ h => h
        case hya4 => exact Or.inr ⟨by rfl, rfl⟩
        simp only [Act.put, List.setIfInBounds_toArray, List.set_cons_zero, List.set_cons_succ]
        refine wpAnyH_take (i := 5) (oi := ?oa5) (v := undef) ?hia5 (by kernel_rfl) (by kernel_rfl) (by kernel_rfl) ?hQa5 ?hya5 hH0 ?_
        case hia5 => simp only [List.getElem?_toArray, List.getElem?_cons_zero, List.getElem?_cons_succ]; rfl
        case hQa5 => exact fun _ _ _ h => h
        case hya5 => exact Or.inr ⟨by rfl, rfl⟩
        simp only [Act.put, List.setIfInBounds_toArray, List.set_cons_zero, List.set_cons_succ]
        refine wpAnyH_take (i := 6) (oi := ?oa6) (v := undef) ?hia6 (by kernel_rfl) (by kernel_rfl) (by kernel_rfl) ?hQa6 ?hya6 hH0 ?_
        case hia6 => simp only [List.getElem?_toArray, List.getElem?_cons_zero, List.getElem?_cons_succ]; rfl
        case hQa6 => exact fun _ _ _ h => h
        case hya6 => exact Or.inr ⟨by rfl, rfl⟩
        simp only [Act.put, List.setIfInBounds_toArray, List.set_cons_zero, List.set_cons_succ]
        refine wpAnyH_take (i := 7) (oi := ?oa7) (v := undef) ?hia7 (by kernel_rfl) (by kernel_rfl) (by kernel_rfl) ?hQa7 ?hya7 hH0 ?_
        case hia7 => simp only [List.getElem?_toArray, List.getElem?_cons_zero, List.getElem?_cons_succ]; rfl
        case hQa7 => exact fun _ _ _ h => h
        case hya7 => exact Or.inr ⟨by rfl, rfl⟩
        simp only [Act.put, List.setIfInBounds_toArray, List.set_cons_zero, List.set_cons_succ]
        refine wpAnyH_take (i := 8) (oi := ?oa8) (v := ?va8) ?hia8 (by kernel_rfl) (by kernel_rfl) (by kernel_rfl) ?hQa8 ?hya8 hH0 ?_
        case hia8 => simp only [List.getElem?_toArray, List.getElem?_cons_zero, List.getElem?_cons_succ]; rfl
        case hQa8 => exact fun _ _ _ h => h
        case hya8 => refine Or.inl ⟨by rfl, ?_⟩; intro W hSw; (try dsimp only at hSw); go_simp; try with_reducible rfl
        simp only [Act.put, List.setIfInBounds_toArray, List.set_cons_zero, List.set_cons_succ]
        refine wpAnyH_take (i := 9) (oi := ?oa9) (v := ?va9) ?hia9 (by kernel_rfl) (by kernel_rfl) (by kernel_rfl) ?hQa9 ?hya9 hH0 ?_
        case hia9 => simp only [List.getElem?_toArray, List.getElem?_cons_zero, List.getElem?_cons_succ]; rfl
        case hQa9 => exact fun _ _ _ h => h
        case hya9 => refine Or.inl ⟨by rfl, ?_⟩; intro W hSw; (try dsimp only at hSw); go_simp; try with_reducible rfl
        simp only [Act.put, List.setIfInBounds_toArray, List.set_cons_zero, List.set_cons_succ]
        refine wpAnyH_take (i := 10) (oi := ?oa10) (v := undef) ?hia10 (by kernel_rfl) (by kernel_rfl) (by kernel_rfl) ?hQa10 ?hya10 hH0 ?_
        case hia10 => simp only [List.getElem?_toArray, List.getElem?_cons_zero, List.getElem?_cons_succ]; rfl
        case hQa10 => exact fun _ _ _ h => h
        case hya10 => exact Or.inr ⟨by rfl, rfl⟩
        simp only [Act.put, List.setIfInBounds_toArray, List.set_cons_zero, List.set_cons_succ]
        refine wpAnyH_take (i := 11) (oi := ?oa11) (v := undef) ?hia11 (by kernel_rfl) (by kernel_rfl) (by kernel_rfl) ?hQa11 ?hya11 hH0 ?_
        case hia11 => simp only [List.getElem?_toArray, List.getElem?_cons_zero, List.getElem?_cons_succ]; rfl
        case hQa11 => exact fun _ _ _ h => h
        case hya11 => exact Or.inr ⟨by rfl, rfl⟩
        simp only [Act.put, List.setIfInBounds_toArray, List.set_cons_zero, List.set_cons_succ]
        refine wpAnyH_take (i := 12) (oi := ?oa12) (v := undef) ?hia12 (by kernel_rfl) (by kernel_rfl) (by kernel_rfl) ?hQa12 ?hya12 hH0 ?_
        case hia12 => simp only [List.getElem?_toArray, List.getElem?_cons_zero, List.getElem?_cons_succ]; rfl
        case hQa12 => exact fun _ _ _ h => h
        case hya12 => exact Or.inr ⟨by rfl, rfl⟩
        simp only [Act.put, List.setIfInBounds_toArray, List.set_cons_zero, List.set_cons_succ]
        refine wpAnyH_take (i := 13) (oi := ?oa13) (v := undef) ?hia13 (by kernel_rfl) (by kernel_rfl) (by kernel_rfl) ?hQa13 ?hya13 hH0 ?_
        case hia13 => simp only [List.getElem?_toArray, List.getElem?_cons_zero, List.getElem?_cons_succ]; rfl
        case hQa13 => exact fun _ _ _ h => h
        case hya13 => exact Or.inr ⟨by rfl, rfl⟩
        simp only [Act.put, List.setIfInBounds_toArray, List.set_cons_zero, List.set_cons_succ]
        refine wpAnyH_take (i := 14) (oi := ?oa14) (v := undef) ?hia14 (by kernel_rfl) (by kernel_rfl) (by kernel_rfl) ?hQa14 ?hya14 hH0 ?_
        case hia14 => simp only [List.getElem?_toArray, List.getElem?_cons_zero, List.getElem?_cons_succ]; rfl
        case hQa14 => exact fun _ _ _ h => h
        case hya14 => exact Or.inr ⟨by rfl, rfl⟩
        simp only [Act.put, List.setIfInBounds_toArray, List.set_cons_zero, List.set_cons_succ]
        refine wpAnyH_take (i := 15) (oi := ?oa15) (v := ?va15) ?hia15 (by kernel_rfl) (by kernel_rfl) (by kernel_rfl) ?hQa15 ?hya15 hH0 ?_
        case hia15 => simp only [List.getElem?_toArray, List.getElem?_cons_zero, List.getElem?_cons_succ]; rfl
        case hQa15 => exact fun _ _ _ h => h
        case hya15 => refine Or.inl ⟨by rfl, ?_⟩; intro W hSw; (try dsimp only at hSw); go_simp; try with_reducible rfl
        simp only [Act.put, List.setIfInBounds_toArray, List.set_cons_zero, List.set_cons_succ]
        refine wpAnyH_take (i := 16) (oi := ?oa16) (v := ?va16) ?hia16 (by kernel_rfl) (by kernel_rfl) (by kernel_rfl) ?hQa16 ?hya16 hH0 ?_
        case hia16 => simp only [List.getElem?_toArray, List.getElem?_cons_zero, List.getElem?_cons_succ]; rfl
        case hQa16 => exact fun _ _ _ h => h
        case hya16 => refine Or.inl ⟨by rfl, ?_⟩; intro W hSw; (try dsimp only at hSw); go_simp; try with_reducible rfl
        simp only [Act.put, List.setIfInBounds_toArray, List.set_cons_zero, List.set_cons_succ]
        refine wpAnyH_take (i := 17) (oi := ?oa17) (v := ?va17) ?hia17 (by kernel_rfl) (by kernel_rfl) (by kernel_rfl) ?hQa17 ?hya17 hH0 ?_
        case hia17 => simp only [List.getElem?_toArray, List.getElem?_cons_zero, List.getElem?_cons_succ]; rfl
        case hQa17 => exact fun _ _ _ h => h
        case hya17 => refine Or.inl ⟨by rfl, ?_⟩; intro W hSw; (try dsimp only at hSw); go_simp; try with_reducible rfl
        simp only [Act.put, List.setIfInBounds_toArray, List.set_cons_zero, List.set_cons_succ]
        refine wpAnyH_take (i := 18) (oi := ?oa18) (v := ?va18) ?hia18 (by kernel_rfl) (by kernel_rfl) (by kernel_rfl) ?hQa18 ?hya18 hH0 ?_
        case hia18 => simp only [List.getElem?_toArray, List.getElem?_cons_zero, List.getElem?_cons_succ]; rfl
        case hQa18 => exact fun _ _ _ h => h
        case hya18 => refine Or.inl ⟨by rfl, ?_⟩; intro W hSw; (try dsimp only at hSw); go_simp; try with_reducible rfl
        simp only [Act.put, List.setIfInBounds_toArray, List.set_cons_zero, List.set_cons_succ]
        refine wpAnyH_take (i := 19) (oi := ?oa19) (v := ?va19) ?hia19 (by kernel_rfl) (by kernel_rfl) (by kernel_rfl) ?hQa19 ?hya19 hH0 ?_
        case hia19 => simp only [List.getElem?_toArray, List.getElem?_cons_zero, List.getElem?_cons_succ]; rfl
        case hQa19 => exact fun _ _ _ h => h
        case hya19 => refine Or.inl ⟨by rfl, ?_⟩; intro W hSw; (try dsimp only at hSw); go_simp; try with_reducible rfl
        simp only [Act.put, List.setIfInBounds_toArray, List.set_cons_zero, List.set_cons_succ]
        refine wpAnyH_take (i := 20) (oi := ?oa20) (v := ?va20) ?hia20 (by kernel_rfl) (by kernel_rfl) (by kernel_rfl) ?hQa20 ?hya20 hH0 ?_
        case hia20 => simp only [List.getElem?_toArray, List.getElem?_cons_zero, List.getElem?_cons_succ]; rfl
        case hQa20 => exact fun _ _ _ h => h
        case hya20 => refine Or.inl ⟨by rfl, ?_⟩; intro W hSw; (try dsimp only at hSw); go_simp; try with_reducible rfl
        simp only [Act.put, List.setIfInBounds_toArray, List.set_cons_zero, List.set_cons_succ]
        refine wpAnyH_take (i := 21) (oi := ?oa21) (v := ?va21) ?hia21 (by kernel_rfl) (by kernel_rfl) (by kernel_rfl) ?hQa21 ?hya21 hH0 ?_
        case hia21 => simp only [List.getElem?_toArray, List.getElem?_cons_zero, List.getElem?_cons_succ]; rfl
        case hQa21 => exact fun _ _ _ h => h
        case hya21 => refine Or.inl ⟨by rfl, ?_⟩; intro W hSw; (try dsimp only at hSw); go_simp; try with_reducible rfl
        simp only [Act.put, List.setIfInBounds_toArray, List.set_cons_zero, List.set_cons_succ]
        refine wpAnyH_take (i := 23) (oi := ?oa23) (v := ?va23) ?hia23 (by kernel_rfl) (by kernel_rfl) (by kernel_rfl) ?hQa23 ?hya23 hH0 ?_
        case hia23 => simp only [List.getElem?_toArray, List.getElem?_cons_zero, List.getElem?_cons_succ]; rfl
        case hQa23 => exact fun _ _ _ h => h
        case hya23 => refine Or.inl ⟨by rfl, ?_⟩; intro W hSw; (try dsimp only at hSw); go_simp; try with_reducible rfl
        simp only [Act.put, List.setIfInBounds_toArray, List.set_cons_zero, List.set_cons_succ]
        clear hH0
        refine wpAnyH_ready (rs := [22]) (by kernel_rfl) (by simp) ?_
        refine AllReadyH.cons (o := ?oa22) ?hoa22 (fun K' hK => ?_) AllReadyH.nil
        case hoa22 => simp only [List.getElem?_toArray, List.getElem?_cons_zero, List.getElem?_cons_succ]; rfl
        go_simp
        refine (CE.out _ _ _ HM7.out HZ7.out (bx_below B1.out)).mono ?_
        rintro r w6 ⟨rfl, hb6⟩
        have B2 := Lib.hid (bx_more B1.out hb6)
        clear hb6
        refine hK.out _ _ (MKS.out _ B2.out) (fun hH1 => ?_)
        clear hK K'
        (try simp only [Act.put, List.setIfInBounds_toArray, List.set_cons_zero, List.set_cons_succ])
        refine wpAnyH_take (i := 24) (oi := ?oa24) (v := ?va24) ?hia24 (by kernel_rfl) (by kernel_rfl) (by kernel_rfl) ?hQa24 ?hya24 hH1 ?_
        case hia24 => simp only [List.getElem?_toArray, List.getElem?_cons_zero, List.getElem?_cons_succ]; rfl
        case hQa24 => exact fun _ _ _ h => h
        case hya24 => refine Or.inl ⟨by rfl, ?_⟩; intro W hSw; (try dsimp only at hSw); go_simp; try with_reducible rfl
        simp only [Act.put, List.setIfInBounds_toArray, List.set_cons_zero, List.set_cons_succ]
        refine wpAnyH_take (i := 25) (oi := ?oa25) (v := ?va25) ?hia25 (by kernel_rfl) (by kernel_rfl) (by kernel_rfl) ?hQa25 ?hya25 hH1 ?_
        case hia25 => simp only [List.getElem?_toArray, List.getElem?_cons_zero, List.getElem?_cons_succ]; rfl
        case hQa25 => exact fun _ _ _ h => h
        case hya25 => refine Or.inl ⟨by rfl, ?_⟩; intro W hSw; (try dsimp only at hSw); go_simp; try with_reducible rfl
        simp only [Act.put, List.setIfInBounds_toArray, List.set_cons_zero, List.set_cons_succ]
        refine wpAnyH_take (i := 26) (oi := ?oa26) (v := ?va26) ?hia26 (by kernel_rfl) (by kernel_rfl) (by kernel_rfl) ?hQa26 ?hya26 hH1 ?_
        case hia26 => simp only [List.getElem?_toArray, List.getElem?_cons_zero, List.getElem?_cons_succ]; rfl
        case hQa26 => exact fun _ _ _ h => h
        case hya26 => refine Or.inl ⟨by rfl, ?_⟩; intro W hSw; (try dsimp only at hSw); go_simp; try with_reducible rfl
        simp only [Act.put, List.setIfInBounds_toArray, List.set_cons_zero, List.set_cons_succ]
        refine wpAnyH_take (i := 27) (oi := ?oa27) (v := ?va27) ?hia27 (by kernel_rfl) (by kernel_rfl) (by kernel_rfl) ?hQa27 ?hya27 hH1 ?_
        case hia27 => simp only [List.getElem?_toArray, List.getElem?_cons_zero, List.getElem?_cons_succ]; rfl
        case hQa27 => exact fun _ _ _ h => h
        case hya27 => refine Or.inl ⟨by rfl, ?_⟩; intro W hSw; (try dsimp only at hSw); go_simp; try with_reducible rfl
        simp only [Act.put, List.setIfInBounds_toArray, List.set_cons_zero, List.set_cons_succ]
        refine wpAnyH_take (i := 29) (oi := ?oa29) (v := ?va29) ?hia29 (by kernel_rfl) (by kernel_rfl) (by kernel_rfl) ?hQa29 ?hya29 hH1 ?_
        case hia29 => simp only [List.getElem?_toArray, List.getElem?_cons_zero, List.getElem?_cons_succ]; rfl
        case hQa29 => exact fun _ _ _ h => h
        case hya29 => refine Or.inl ⟨by rfl, ?_⟩; intro W hSw; (try dsimp only at hSw); go_simp; try with_reducible rfl
        simp only [Act.put, List.setIfInBounds_toArray, List.set_cons_zero, List.set_cons_succ]
        refine wpAnyH_take (i := 30) (oi := ?oa30) (v := ?va30) ?hia30 (by kernel_rfl) (by kernel_rfl) (by kernel_rfl) ?hQa30 ?hya30 hH1 ?_
        case hia30 => simp only [List.getElem?_toArray, List.getElem?_cons_zero, List.getElem?_cons_succ]; rfl
        case hQa30 => exact fun _ _ _ h => h
        case hya30 => refine Or.inl ⟨by rfl, ?_⟩; intro W hSw; (try dsimp only at hSw); go_simp; try with_reducible rfl
        simp only [Act.put, List.setIfInBounds_toArray, List.set_cons_zero, List.set_cons_succ]
        clear hH1
        refine wpAnyH_ready (rs := [28]) (by kernel_rfl) (by simp) ?_
        refine AllReadyH.cons (o := ?oa28) ?hoa28 (fun K' hK => ?_) AllReadyH.nil
        case hoa28 => simp only [List.getElem?_toArray, List.getElem?_cons_zero, List.getElem?_cons_succ]; rfl
        go_simp
        refine (HC.out _).mono ?_
        rintro r w7 ⟨rfl, hb7⟩
        have B3 := Lib.hid (bx_more B2.out hb7)
        clear hb7
        refine hK.out _ _ (MKS.out _ B3.out) (fun hH2 => ?_)
        clear hK K'
        (try simp only [Act.put, List.setIfInBounds_toArray, List.set_cons_zero, List.set_cons_succ])
        refine wpAnyH_take (i := 31) (oi := ?oa31) (v := ?va31) ?hia31 (by kernel_rfl) (by kernel_rfl) (by kernel_rfl) ?hQa31 ?hya31 hH2 ?_
        case hia31 => simp only [List.getElem?_toArray, List.getElem?_cons_zero, List.getElem?_cons_succ]; rfl
        case hQa31 => exact fun _ _ _ h => h
        case hya31 => refine Or.inl ⟨by rfl, ?_⟩; intro W hSw; (try dsimp only at hSw); go_simp; try with_reducible rfl
        simp only [Act.put, List.setIfInBounds_toArray, List.set_cons_zero, List.set_cons_succ]
        refine wpAnyH_take (i := 32) (oi := ?oa32) (v := ?va32) ?hia32 (by kernel_rfl) (by kernel_rfl) (by kernel_rfl) ?hQa32 ?hya32 hH2 ?_
        case hia32 => simp only [List.getElem?_toArray, List.getElem?_cons_zero, List.getElem?_cons_succ]; rfl
        case hQa32 => exact fun _ _ _ h => h
        case hya32 => refine Or.inl ⟨by rfl, ?_⟩; intro W hSw; (try dsimp only at hSw); go_simp; try with_reducible rfl
        simp only [Act.put, List.setIfInBounds_toArray, List.set_cons_zero, List.set_cons_succ]
        clear hH2
        refine wpAnyH_ready (rs := [33]) (by kernel_rfl) (by simp) ?_
        refine AllReadyH.cons (o := ?oa33) ?hoa33 (fun K' hK => ?_) AllReadyH.nil
        case hoa33 => simp only [List.getElem?_toArray, List.getElem?_cons_zero, List.getElem?_cons_succ]; rfl
        go_simp
        refine hK.out _ _ (MKS.out _ B3.out) (fun hH3 => ?_)
        clear hK K'
        (try simp only [Act.put, List.setIfInBounds_toArray, List.set_cons_zero, List.set_cons_succ])
        clear hH3
        refine wpAnyH_done (by kernel_rfl) ?_ _
        go_wp2_with fail
        go_ret
        exact ⟨rfl, bx_below B3.out⟩

      · have g0 : (n == 0) = false := beq_eq_false_iff_ne.2 c0
        by_cases c1 : n = n0
        · have g1 : (n == n0) = true := by rw [c1]; exact beq_self_eq_true n0
          clear c0 c1
          go_wp2_with fail
          refine region_begin (S := fun X' => X'.cell? ⟨W.heap.size, 0, none⟩ = some (.int .i64 k) ∧ X'.cell? ⟨W.heap.size, 1, none⟩ = some (.int .i64 n0) ∧ X'.cell? ⟨W.heap.size, 2, none⟩ = some (.int .i64 n1) ∧ Below (W.heap.size + 1) (W.alloc (.cells #[.int .i64 k, .int .i64 n0, .int .i64 n1, .int .i64 n2, .int .i64 n3, .int .i64 n4, .int .i64 n5, .slice ca ch.length ck, .slice sa si.length sk, .slice ba bo.length bk, .slice ma mk.length mc, .slice ea en.length ec, .slice va ev.length vk, .string b.stream, .int .i64 b.expect, .int .i64 b.session, .int .i64 b.seq, .slice la b.events.length lk, .string st] 30)) X') 34 rfl (by kernel_rfl) (MKS.out _ HRG.out.drew) (fun hH0 => ?_)
          have B1 := Lib.hid HRG.out.drew
          refine wpAnyH_take (i := 0) (oi := ?ob0) (v := ?vb0) ?hib0 (by kernel_rfl) (by kernel_rfl) (by kernel_rfl) ?hQb0 ?hyb0 hH0 ?_
          case hib0 => simp only [List.getElem?_toArray, List.getElem?_cons_zero]; rfl
          case hQb0 => exact fun _ _ _ h => h
          case hyb0 => refine Or.inl ⟨by rfl, ?_⟩; intro W hSw; (try dsimp only at hSw); go_simp; try with_reducible rfl
          simp only [Act.put, List.setIfInBounds_toArray, List.set_cons_zero, List.set_cons_succ]
          refine wpAnyH_take (i := 1) (oi := ?ob1) (v := ?vb1) ?hib1 (by kernel_rfl) (by kernel_rfl) (by kernel_rfl) ?hQb1 ?hyb1 hH0 ?_
          case hib1 => simp only [List.getElem?_toArray, List.getElem?_cons_zero, List.getElem?_cons_succ]; rfl
          case hQb1 => exact fun _ _ _ h => h
          case hyb1 => refine Or.inl ⟨by rfl, ?_⟩; intro W hSw; (try dsimp only at hSw); go_simp; try with_reducible rfl
          simp only [Act.put, List.setIfInBounds_toArray, List.set_cons_zero, List.set_cons_succ]
          refine wpAnyH_take (i := 2) (oi := ?ob2) (v := ?vb2) ?hib2 (by kernel_rfl) (by kernel_rfl) (by kernel_rfl) ?hQb2 ?hyb2 hH0 ?_
          case hib2 => simp only [List.getElem?_toArray, List.getElem?_cons_zero, List.getElem?_cons_succ]; rfl
          case hQb2 => exact fun _ _ _ h => h
          case hyb2 => refine Or.inl ⟨by rfl, ?_⟩; intro W hSw; (try dsimp only at hSw); go_simp; try with_reducible rfl
          simp only [Act.put, List.setIfInBounds_toArray, List.set_cons_zero, List.set_cons_succ]
          refine wpAnyH_take (i := 3) (oi := ?ob3) (v := ?vb3) ?hib3 (by kernel_rfl) (by kernel_rfl) (by kernel_rfl) ?hQb3 ?hyb3 hH0 ?_
          case hib3 => simp only [List.getElem?_toArray, List.getElem?_cons_zero, List.getElem?_cons_succ]; rfl
          case hQb3 => exact fun _ _ _ h => h
          case hyb3 => refine Or.inl ⟨by rfl, ?_⟩; intro W hSw; (try dsimp only at hSw); go_simp; try with_reducible rfl
          simp only [Act.put, List.setIfInBounds_toArray, List.set_cons_zero, List.set_cons_succ]
          refine wpAnyH_take (i := 4) (oi := ?ob4) (v := ?vb4) ?hib4 (by kernel_rfl) (by kernel_rfl) (by kernel_rfl) ?hQb4 ?hyb4 hH0 ?_
          case hib4 => simp only [List.getElem?_toArray, List.getElem?_cons_zero, List.getElem?_cons_succ]; rfl
          case hQb4 => exact fun _ _ _ h => h
          case hyb4 => refine Or.inl ⟨by rfl, ?_⟩; intro W hSw; (try dsimp only at hSw); go_simp; try with_reducible rfl
          simp only [Act.put, List.setIfInBounds_toArray, List.set_cons_zero, List.set_cons_succ]
          refine wpAnyH_take (i := 5) (oi := ?ob5) (v := ?vb5) ?hib5 (by kernel_rfl) (by kernel_rfl) (by kernel_rfl) ?hQb5 ?hyb5 hH0 ?_
          case hib5 => simp only [List.getElem?_toArray, List.getElem?_cons_zero, List.getElem?_cons_succ]; rfl
          case hQb5 => exact fun _ _ _ h => h
          case hyb5 => refine Or.inl ⟨by rfl, ?_⟩; intro W hSw; (try dsimp only at hSw); go_simp; try with_reducible rfl
          simp only [Act.put, List.setIfInBounds_toArray, List.set_cons_zero, List.set_cons_succ]
          refine wpAnyH_take (i := 6) (oi := ?ob6) (v := ?vb6) ?hib6 (by kernel_rfl) (by kernel_rfl) (by kernel_rfl) ?hQb6 ?hyb6 hH0 ?_
          case hib6 => simp only [List.getElem?_toArray, List.getElem?_cons_zero, List.getElem?_cons_succ]; rfl
          case hQb6 => exact fun _ _ _ h => h
          case hyb6 => refine Or.inl ⟨by rfl, ?_⟩; intro W hSw; (try dsimp only at hSw); go_simp; try with_reducible rfl
          simp only [Act.put, List.setIfInBounds_toArray, List.set_cons_zero, List.set_cons_succ]
          refine wpAnyH_take (i := 7) (oi := ?ob7) (v := ?vb7) ?hib7 (by kernel_rfl) (by kernel_rfl) (by kernel_rfl) ?hQb7 ?hyb7 hH0 ?_
          case hib7 => simp only [List.getElem?_toArray, List.getElem?_cons_zero, List.getElem?_cons_succ]; rfl
          case hQb7 => exact fun _ _ _ h => h
          case hyb7 => refine Or.inl ⟨by rfl, ?_⟩; intro W hSw; (try dsimp only at hSw); go_simp; try with_reducible rfl
          simp only [Act.put, List.setIfInBounds_toArray, List.set_cons_zero, List.set_cons_succ]
          refine wpAnyH_take (i := 8) (oi := ?ob8) (v := ?vb8) ?hib8 (by kernel_rfl) (by kernel_rfl) (by kernel_rfl) ?hQb8 ?hyb8 hH0 ?_
          case hib8 => simp only [List.getElem?_toArray, List.getElem?_cons_zero, List.getElem?_cons_succ]; rfl
          case hQb8 => exact fun _ _ _ h => h
          case hyb8 => refine Or.inl ⟨by rfl, ?_⟩; intro W hSw; (try dsimp only at hSw); go_simp; try with_reducible rfl
          simp only [Act.put, List.setIfInBounds_toArray, List.set_cons_zero, List.set_cons_succ]
          refine wpAnyH_take (i := 9) (oi := ?ob9) (v := ?vb9) ?hib9 (by kernel_rfl) (by kernel_rfl) (by kernel_rfl) ?hQb9 ?hyb9 hH0 ?_
          case hib9 => simp only [List.getElem?_toArray, List.getElem?_cons_zero, List.getElem?_cons_succ]; rfl
          case hQb9 => exact fun _ _ _ h => h
          case hyb9 => refine Or.inl ⟨by rfl, ?_⟩; intro W hSw; (try dsimp only at hSw); go_simp; try with_reducible rfl
          simp only [Act.put, List.setIfInBounds_toArray, List.set_cons_zero, List.set_cons_succ]
          refine wpAnyH_take (i := 10) (oi := ?ob10) (v := undef) ?hib10 (by kernel_rfl) (by kernel_rfl) (by kernel_rfl) ?hQb10 ?hyb10 hH0 ?_
          case hib10 => simp only [List.getElem?_toArray, List.getElem?_cons_zero, List.getElem?_cons_succ]; rfl
          case hQb10 => exact fun _ _ _ h => h
          case hyb10 => exact Or.inr ⟨by rfl, rfl⟩
          simp only [Act.put, List.setIfInBounds_toArray, List.set_cons_zero, List.set_cons_succ]
          refine wpAnyH_take (i := 11) (oi := ?ob11) (v := undef) ?hib11 (by kernel_rfl) (by kernel_rfl) (by kernel_rfl) ?hQb11 ?hyb11 hH0 ?_
          case hib11 => simp only [List.getElem?_toArray, List.getElem?_cons_zero, List.getElem?_cons_succ]; rfl
          case hQb11 => exact fun _ _ _ h => h
          case hyb11 => exact Or.inr ⟨by rfl, rfl⟩
          simp only [Act.put, List.setIfInBounds_toArray, List.set_cons_zero, List.set_cons_succ]
          refine wpAnyH_take (i := 12) (oi := ?ob12) (v := undef) ?hib12 (by kernel_rfl) (by kernel_rfl) (by kernel_rfl) ?hQb12 ?hyb12 hH0 ?_
          case hib12 => simp only [List.getElem?_toArray, List.getElem?_cons_zero, List.getElem?_cons_succ]; rfl
          case hQb12 => exact fun _ _ _ h => h
          case hyb12 => exact Or.inr ⟨by rfl, rfl⟩
          simp only [Act.put, List.setIfInBounds_toArray, List.set_cons_zero, List.set_cons_succ]
          refine wpAnyH_take (i := 13) (oi := ?ob13) (v := undef) ?hib13 (by kernel_rfl) (by kernel_rfl) (by kernel_rfl) ?hQb13 ?hyb13 hH0 ?_
          case hib13 => simp only [List.getElem?_toArray, List.getElem?_cons_zero, List.getElem?_cons_succ]; rfl
          case hQb13 => exact fun _ _ _ h => h
          case hyb13 => exact Or.inr ⟨by rfl, rfl⟩
          simp only [Act.put, List.setIfInBounds_toArray, List.set_cons_zero, List.set_cons_succ]
          refine wpAnyH_take (i := 14) (oi := ?ob14) (v := undef) ?hib14 (by kernel_rfl) (by kernel_rfl) (by kernel_rfl) ?hQb14 ?hyb14 hH0 ?_
          case hib14 => simp only [List.getElem?_toArray, List.getElem?_cons_zero, List.getElem?_cons_succ]; rfl
          case hQb14 => exact fun _ _ _ h => h
          case hyb14 => exact Or.inr ⟨by rfl, rfl⟩
          simp only [Act.put, List.setIfInBounds_toArray, List.set_cons_zero, List.set_cons_succ]
          refine wpAnyH_take (i := 15) (oi := ?ob15) (v := ?vb15) ?hib15 (by kernel_rfl) (by kernel_rfl) (by kernel_rfl) ?hQb15 ?hyb15 hH0 ?_
          case hib15 => simp only [List.getElem?_toArray, List.getElem?_cons_zero, List.getElem?_cons_succ]; rfl
          case hQb15 => exact fun _ _ _ h => h
          case hyb15 => refine Or.inl ⟨by rfl, ?_⟩; intro W hSw; (try dsimp only at hSw); go_simp; try with_reducible rfl
          simp only [Act.put, List.setIfInBounds_toArray, List.set_cons_zero, List.set_cons_succ]
          refine wpAnyH_take (i := 16) (oi := ?ob16) (v := ?vb16) ?hib16 (by kernel_rfl) (by kernel_rfl) (by kernel_rfl) ?hQb16 ?hyb16 hH0 ?_
          case hib16 => simp only [List.getElem?_toArray, List.getElem?_cons_zero, List.getElem?_cons_succ]; rfl
          case hQb16 => exact fun _ _ _ h => h
          case hyb16 => refine Or.inl ⟨by rfl, ?_⟩; intro W hSw; (try dsimp only at hSw); go_simp; try with_reducible rfl
          simp only [Act.put, List.setIfInBounds_toArray, List.set_cons_zero, List.set_cons_succ]
          refine wpAnyH_take (i := 17) (oi := ?ob17) (v := ?vb17) ?hib17 (by kernel_rfl) (by kernel_rfl) (by kernel_rfl) ?hQb17 ?hyb17 hH0 ?_
          case hib17 => simp only [List.getElem?_toArray, List.getElem?_cons_zero, List.getElem?_cons_succ]; rfl
          case hQb17 => exact fun _ _ _ h => h
          case hyb17 => refine Or.inl ⟨by rfl, ?_⟩; intro W hSw; (try dsimp only at hSw); go_simp; try with_reducible rfl
          simp only [Act.put, List.setIfInBounds_toArray, List.set_cons_zero, List.set_cons_succ]
          refine wpAnyH_take (i := 18) (oi := ?ob18) (v := ?vb18) ?hib18 (by kernel_rfl) (by kernel_rfl) (by kernel_rfl) ?hQb18 ?hyb18 hH0 ?_
          case hib18 => simp only [List.getElem?_toArray, List.getElem?_cons_zero, List.getElem?_cons_succ]; rfl
          case hQb18 => exact fun _ _ _ h => h
          case hyb18 => refine Or.inl ⟨by rfl, ?_⟩; intro W hSw; (try dsimp only at hSw); go_simp; try with_reducible rfl
          simp only [Act.put, List.setIfInBounds_toArray, List.set_cons_zero, List.set_cons_succ]
          refine wpAnyH_take (i := 19) (oi := ?ob19) (v := ?vb19) ?hib19 (by kernel_rfl) (by kernel_rfl) (by kernel_rfl) ?hQb19 ?hyb19 hH0 ?_
          case hib19 => simp only [List.getElem?_toArray, List.getElem?_cons_zero, List.getElem?_cons_succ]; rfl
          case hQb19 => exact fun _ _ _ h => h
          case hyb19 => refine Or.inl ⟨by rfl, ?_⟩; intro W hSw; (try dsimp only at hSw); go_simp; try with_reducible rfl
          simp only [Act.put, List.setIfInBounds_toArray, List.set_cons_zero, List.set_cons_succ]
          refine wpAnyH_take (i := 20) (oi := ?ob20) (v := ?vb20) ?hib20 (by kernel_rfl) (by kernel_rfl) (by kernel_rfl) ?hQb20 ?hyb20 hH0 ?_
          case hib20 => simp only [List.getElem?_toArray, List.getElem?_cons_zero, List.getElem?_cons_succ]; rfl
          case hQb20 => exact fun _ _ _ h => h
          case hyb20 => refine Or.inl ⟨by rfl, ?_⟩; intro W hSw; (try dsimp only at hSw); go_simp; try with_reducible rfl
          simp only [Act.put, List.setIfInBounds_toArray, List.set_cons_zero, List.set_cons_succ]
          refine wpAnyH_take (i := 21) (oi := ?ob21) (v := ?vb21) ?hib21 (by kernel_rfl) (by kernel_rfl) (by kernel_rfl) ?hQb21 ?hyb21 hH0 ?_
          case hib21 => simp only [List.getElem?_toArray, List.getElem?_cons_zero, List.getElem?_cons_succ]; rfl
          case hQb21 => exact fun _ _ _ h => h
          case hyb21 => refine Or.inl ⟨by rfl, ?_⟩; intro W hSw; (try dsimp only at hSw); go_simp; try with_reducible rfl
          simp only [Act.put, List.setIfInBounds_toArray, List.set_cons_zero, List.set_cons_succ]
          refine wpAnyH_take (i := 23) (oi := ?ob23) (v := ?vb23) ?hib23 (by kernel_rfl) (by kernel_rfl) (by kernel_rfl) ?hQb23 ?hyb23 hH0 ?_
          case hib23 => simp only [List.getElem?_toArray, List.getElem?_cons_zero, List.getElem?_cons_succ]; rfl
          case hQb23 => exact fun _ _ _ h => h
          case hyb23 => refine Or.inl ⟨by rfl, ?_⟩; intro W hSw; (try dsimp only at hSw); go_simp; try with_reducible rfl
          simp only [Act.put, List.setIfInBounds_toArray, List.set_cons_zero, List.set_cons_succ]
          clear hH0
          refine wpAnyH_ready (rs := [22]) (by kernel_rfl) (by simp) ?_
          refine AllReadyH.cons (o := ?ob22) ?hob22 (fun K' hK => ?_) AllReadyH.nil
          case hob22 => simp only [List.getElem?_toArray, List.getElem?_cons_zero, List.getElem?_cons_succ]; rfl
          go_simp
          refine (CE.out _ _ _ HM7.out HZ7.out (bx_below B1.out)).mono ?_
          rintro r w6 ⟨rfl, hb6⟩
          have B2 := Lib.hid (bx_more B1.out hb6)
          clear hb6
          refine hK.out _ _ (MKS.out _ B2.out) (fun hH1 => ?_)
          clear hK K'
          (try simp only [Act.put, List.setIfInBounds_toArray, List.set_cons_zero, List.set_cons_succ])
          refine wpAnyH_take (i := 24) (oi := ?ob24) (v := ?vb24) ?hib24 (by kernel_rfl) (by kernel_rfl) (by kernel_rfl) ?hQb24 ?hyb24 hH1 ?_
          case hib24 => simp only [List.getElem?_toArray, List.getElem?_cons_zero, List.getElem?_cons_succ]; rfl
          case hQb24 => exact fun _ _ _ h => h
          case hyb24 => refine Or.inl ⟨by rfl, ?_⟩; intro W hSw; (try dsimp only at hSw); go_simp; try with_reducible rfl
          simp only [Act.put, List.setIfInBounds_toArray, List.set_cons_zero, List.set_cons_succ]
          refine wpAnyH_take (i := 25) (oi := ?ob25) (v := ?vb25) ?hib25 (by kernel_rfl) (by kernel_rfl) (by kernel_rfl) ?hQb25 ?hyb25 hH1 ?_
          case hib25 => simp only [List.getElem?_toArray, List.getElem?_cons_zero, List.getElem?_cons_succ]; rfl
          case hQb25 => exact fun _ _ _ h => h
          case hyb25 => refine Or.inl ⟨by rfl, ?_⟩; intro W hSw; (try dsimp only at hSw); go_simp; try with_reducible rfl
          simp only [Act.put, List.setIfInBounds_toArray, List.set_cons_zero, List.set_cons_succ]
          refine wpAnyH_take (i := 26) (oi := ?ob26) (v := ?vb26) ?hib26 (by kernel_rfl) (by kernel_rfl) (by kernel_rfl) ?hQb26 ?hyb26 hH1 ?_
          case hib26 => simp only [List.getElem?_toArray, List.getElem?_cons_zero, List.getElem?_cons_succ]; rfl
          case hQb26 => exact fun _ _ _ h => h
          case hyb26 => refine Or.inl ⟨by rfl, ?_⟩; intro W hSw; (try dsimp only at hSw); go_simp; try with_reducible rfl
          simp only [Act.put, List.setIfInBounds_toArray, List.set_cons_zero, List.set_cons_succ]
          refine wpAnyH_take (i := 27) (oi := ?ob27) (v := ?vb27) ?hib27 (by kernel_rfl) (by kernel_rfl) (by kernel_rfl) ?hQb27 ?hyb27 hH1 ?_
          case hib27 => simp only [List.getElem?_toArray, List.getElem?_cons_zero, List.getElem?_cons_succ]; rfl
          case hQb27 => exact fun _ _ _ h => h
          case hyb27 => refine Or.inl ⟨by rfl, ?_⟩; intro W hSw; (try dsimp only at hSw); go_simp; try with_reducible rfl
          simp only [Act.put, List.setIfInBounds_toArray, List.set_cons_zero, List.set_cons_succ]
          refine wpAnyH_take (i := 29) (oi := ?ob29) (v := ?vb29) ?hib29 (by kernel_rfl) (by kernel_rfl) (by kernel_rfl) ?hQb29 ?hyb29 hH1 ?_
          case hib29 => simp only [List.getElem?_toArray, List.getElem?_cons_zero, List.getElem?_cons_succ]; rfl
          case hQb29 => exact fun _ _ _ h => h
          case hyb29 => refine Or.inl ⟨by rfl, ?_⟩; intro W hSw; (try dsimp only at hSw); go_simp; try with_reducible rfl
          simp only [Act.put, List.setIfInBounds_toArray, List.set_cons_zero, List.set_cons_succ]
          refine wpAnyH_take (i := 30) (oi := ?ob30) (v := ?vb30) ?hib30 (by kernel_rfl) (by kernel_rfl) (by kernel_rfl) ?hQb30 ?hyb30 hH1 ?_
          case hib30 => simp only [List.getElem?_toArray, List.getElem?_cons_zero, List.getElem?_cons_succ]; rfl
          case hQb30 => exact fun _ _ _ h => h
          case hyb30 => refine Or.inl ⟨by rfl, ?_⟩; intro W hSw; (try dsimp only at hSw); go_simp; try with_reducible rfl
          simp only [Act.put, List.setIfInBounds_toArray, List.set_cons_zero, List.set_cons_succ]
          clear hH1
          refine wpAnyH_ready (rs := [28]) (by kernel_rfl) (by simp) ?_
          refine AllReadyH.cons (o := ?ob28) ?hob28 (fun K' hK => ?_) AllReadyH.nil
          case hob28 => simp only [List.getElem?_toArray, List.getElem?_cons_zero, List.getElem?_cons_succ]; rfl
          go_simp
          refine (HC.out _).mono ?_
          rintro r w7 ⟨rfl, hb7⟩
          have B3 := Lib.hid (bx_more B2.out hb7)
          clear hb7
          refine hK.out _ _ (MKS.out _ B3.out) (fun hH2 => ?_)
          clear hK K'
          (try simp only [Act.put, List.setIfInBounds_toArray, List.set_cons_zero, List.set_cons_succ])
          refine wpAnyH_take (i := 31) (oi := ?ob31) (v := ?vb31) ?hib31 (by kernel_rfl) (by kernel_rfl) (by kernel_rfl) ?hQb31 ?hyb31 hH2 ?_
          case hib31 => simp only [List.getElem?_toArray, List.getElem?_cons_zero, List.getElem?_cons_succ]; rfl
          case hQb31 => exact fun _ _ _ h => h
          case hyb31 => refine Or.inl ⟨by rfl, ?_⟩; intro W hSw; (try dsimp only at hSw); go_simp; try with_reducible rfl
          simp only [Act.put, List.setIfInBounds_toArray, List.set_cons_zero, List.set_cons_succ]
          refine wpAnyH_take (i := 32) (oi := ?ob32) (v := ?vb32) ?hib32 (by kernel_rfl) (by kernel_rfl) (by kernel_rfl) ?hQb32 ?hyb32 hH2 ?_
          case hib32 => simp only [List.getElem?_toArray, List.getElem?_cons_zero, List.getElem?_cons_succ]; rfl
          case hQb32 => exact fun _ _ _ h => h
          case hyb32 => refine Or.inl ⟨by rfl, ?_⟩; intro W hSw; (try dsimp only at hSw); go_simp; try with_reducible rfl
          simp only [Act.put, List.setIfInBounds_toArray, List.set_cons_zero, List.set_cons_succ]
          clear hH2
          refine wpAnyH_ready (rs := [33]) (by kernel_rfl) (by simp) ?_
          refine AllReadyH.cons (o := ?ob33) ?hob33 (fun K' hK => ?_) AllReadyH.nil
          case hob33 => simp only [List.getElem?_toArray, List.getElem?_cons_zero, List.getElem?_cons_succ]; rfl
          go_simp
          refine hK.out _ _ (MKS.out _ B3.out) (fun hH3 => ?_)
          clear hK K'
          (try simp only [Act.put, List.setIfInBounds_toArray, List.set_cons_zero, List.set_cons_succ])
          clear hH3
          refine wpAnyH_done (by kernel_rfl) ?_ _
          go_wp2_with fail
          go_ret
          exact ⟨rfl, bx_below B3.out⟩

        · have g1 : (n == n0) = false := beq_eq_false_iff_ne.2 c1
          have g2 : (n == n1) = true := by
            have c2 : n = n1 := by rcases HE.out with e | e | e; exact absurd e c0; exact absurd e c1; exact e
            rw [c2]; exact beq_self_eq_true n1
          clear c0 c1
          go_wp2_with fail
          refine region_begin (S := fun X' => X'.cell? ⟨W.heap.size, 0, none⟩ = some (.int .i64 k) ∧ X'.cell? ⟨W.heap.size, 1, none⟩ = some (.int .i64 n0) ∧ X'.cell? ⟨W.heap.size, 2, none⟩ = some (.int .i64 n1) ∧ Below (W.heap.size + 1) (W.alloc (.cells #[.int .i64 k, .int .i64 n0, .int .i64 n1, .int .i64 n2, .int .i64 n3, .int .i64 n4, .int .i64 n5, .slice ca ch.length ck, .slice sa si.length sk, .slice ba bo.length bk, .slice ma mk.length mc, .slice ea en.length ec, .slice va ev.length vk, .string b.stream, .int .i64 b.expect, .int .i64 b.session, .int .i64 b.seq, .slice la b.events.length lk, .string st] 30)) X') 34 rfl (by kernel_rfl) (MKS.out _ HRG.out.drew) (fun hH0 => ?_)
          have B1 := Lib.hid HRG.out.drew
          refine wpAnyH_take (i := 0) (oi := ?oc0) (v := ?vc0) ?hic0 (by kernel_rfl) (by kernel_rfl) (by kernel_rfl) ?hQc0 ?hyc0 hH0 ?_
          case hic0 => simp only [List.getElem?_toArray, List.getElem?_cons_zero]; rfl
          case hQc0 => exact fun _ _ _ h => h
          case hyc0 => refine Or.inl ⟨by rfl, ?_⟩; intro W hSw; (try dsimp only at hSw); go_simp; try with_reducible rfl
          simp only [Act.put, List.setIfInBounds_toArray, List.set_cons_zero, List.set_cons_succ]
          refine wpAnyH_take (i := 1) (oi := ?oc1) (v := ?vc1) ?hic1 (by kernel_rfl) (by kernel_rfl) (by kernel_rfl) ?hQc1 ?hyc1 hH0 ?_
          case hic1 => simp only [List.getElem?_toArray, List.getElem?_cons_zero, List.getElem?_cons_succ]; rfl
          case hQc1 => exact fun _ _ _ h => h
          case hyc1 => refine Or.inl ⟨by rfl, ?_⟩; intro W hSw; (try dsimp only at hSw); go_simp; try with_reducible rfl
          simp only [Act.put, List.setIfInBounds_toArray, List.set_cons_zero, List.set_cons_succ]
          refine wpAnyH_take (i := 2) (oi := ?oc2) (v := ?vc2) ?hic2 (by kernel_rfl) (by kernel_rfl) (by kernel_rfl) ?hQc2 ?hyc2 hH0 ?_
          case hic2 => simp only [List.getElem?_toArray, List.getElem?_cons_zero, List.getElem?_cons_succ]; rfl
          case hQc2 => exact fun _ _ _ h => h
          case hyc2 => refine Or.inl ⟨by rfl, ?_⟩; intro W hSw; (try dsimp only at hSw); go_simp; try with_reducible rfl
          simp only [Act.put, List.setIfInBounds_toArray, List.set_cons_zero, List.set_cons_succ]
          refine wpAnyH_take (i := 3) (oi := ?oc3) (v := ?vc3) ?hic3 (by kernel_rfl) (by kernel_rfl) (by kernel_rfl) ?hQc3 ?hyc3 hH0 ?_
          case hic3 => simp only [List.getElem?_toArray, List.getElem?_cons_zero, List.getElem?_cons_succ]; rfl
          case hQc3 => exact fun _ _ _ h => h
          case hyc3 => refine Or.inl ⟨by rfl, ?_⟩; intro W hSw; (try dsimp only at hSw); go_simp; try with_reducible rfl
          simp only [Act.put, List.setIfInBounds_toArray, List.set_cons_zero, List.set_cons_succ]
          refine wpAnyH_take (i := 4) (oi := ?oc4) (v := ?vc4) ?hic4 (by kernel_rfl) (by kernel_rfl) (by kernel_rfl) ?hQc4 ?hyc4 hH0 ?_
          case hic4 => simp only [List.getElem?_toArray, List.getElem?_cons_zero, List.getElem?_cons_succ]; rfl
          case hQc4 => exact fun _ _ _ h => h
          case hyc4 => refine Or.inl ⟨by rfl, ?_⟩; intro W hSw; (try dsimp only at hSw); go_simp; try with_reducible rfl
          simp only [Act.put, List.setIfInBounds_toArray, List.set_cons_zero, List.set_cons_succ]
          refine wpAnyH_take (i := 5) (oi := ?oc5) (v := ?vc5) ?hic5 (by kernel_rfl) (by kernel_rfl) (by kernel_rfl) ?hQc5 ?hyc5 hH0 ?_
          case hic5 => simp only [List.getElem?_toArray, List.getElem?_cons_zero, List.getElem?_cons_succ]; rfl
          case hQc5 => exact fun _ _ _ h => h
          case hyc5 => refine Or.inl ⟨by rfl, ?_⟩; intro W hSw; (try dsimp only at hSw); go_simp; try with_reducible rfl
          simp only [Act.put, List.setIfInBounds_toArray, List.set_cons_zero, List.set_cons_succ]
          refine wpAnyH_take (i := 6) (oi := ?oc6) (v := ?vc6) ?hic6 (by kernel_rfl) (by kernel_rfl) (by kernel_rfl) ?hQc6 ?hyc6 hH0 ?_
          case hic6 => simp only [List.getElem?_toArray, List.getElem?_cons_zero, List.getElem?_cons_succ]; rfl
          case hQc6 => exact fun _ _ _ h => h
          case hyc6 => refine Or.inl ⟨by rfl, ?_⟩; intro W hSw; (try dsimp only at hSw); go_simp; try with_reducible rfl
          simp only [Act.put, List.setIfInBounds_toArray, List.set_cons_zero, List.set_cons_succ]
          refine wpAnyH_take (i := 7) (oi := ?oc7) (v := ?vc7) ?hic7 (by kernel_rfl) (by kernel_rfl) (by kernel_rfl) ?hQc7 ?hyc7 hH0 ?_
          case hic7 => simp only [List.getElem?_toArray, List.getElem?_cons_zero, List.getElem?_cons_succ]; rfl
          case hQc7 => exact fun _ _ _ h => h
          case hyc7 => refine Or.inl ⟨by rfl, ?_⟩; intro W hSw; (try dsimp only at hSw); go_simp; try with_reducible rfl
          simp only [Act.put, List.setIfInBounds_toArray, List.set_cons_zero, List.set_cons_succ]
          refine wpAnyH_take (i := 8) (oi := ?oc8) (v := ?vc8) ?hic8 (by kernel_rfl) (by kernel_rfl) (by kernel_rfl) ?hQc8 ?hyc8 hH0 ?_
          case hic8 => simp only [List.getElem?_toArray, List.getElem?_cons_zero, List.getElem?_cons_succ]; rfl
          case hQc8 => exact fun _ _ _ h => h
          case hyc8 => refine Or.inl ⟨by rfl, ?_⟩; intro W hSw; (try dsimp only at hSw); go_simp; try with_reducible rfl
          simp only [Act.put, List.setIfInBounds_toArray, List.set_cons_zero, List.set_cons_succ]
          refine wpAnyH_take (i := 9) (oi := ?oc9) (v := ?vc9) ?hic9 (by kernel_rfl) (by kernel_rfl) (by kernel_rfl) ?hQc9 ?hyc9 hH0 ?_
          case hic9 => simp only [List.getElem?_toArray, List.getElem?_cons_zero, List.getElem?_cons_succ]; rfl
          case hQc9 => exact fun _ _ _ h => h
          case hyc9 => refine Or.inl ⟨by rfl, ?_⟩; intro W hSw; (try dsimp only at hSw); go_simp; try with_reducible rfl
          simp only [Act.put, List.setIfInBounds_toArray, List.set_cons_zero, List.set_cons_succ]
          refine wpAnyH_take (i := 10) (oi := ?oc10) (v := ?vc10) ?hic10 (by kernel_rfl) (by kernel_rfl) (by kernel_rfl) ?hQc10 ?hyc10 hH0 ?_
          case hic10 => simp only [List.getElem?_toArray, List.getElem?_cons_zero, List.getElem?_cons_succ]; rfl
          case hQc10 => exact fun _ _ _ h => h
          case hyc10 => refine Or.inl ⟨by rfl, ?_⟩; intro W hSw; (try dsimp only at hSw); go_simp; try with_reducible rfl
          simp only [Act.put, List.setIfInBounds_toArray, List.set_cons_zero, List.set_cons_succ]
          refine wpAnyH_take (i := 11) (oi := ?oc11) (v := ?vc11) ?hic11 (by kernel_rfl) (by kernel_rfl) (by kernel_rfl) ?hQc11 ?hyc11 hH0 ?_
          case hic11 => simp only [List.getElem?_toArray, List.getElem?_cons_zero, List.getElem?_cons_succ]; rfl
          case hQc11 => exact fun _ _ _ h => h
          case hyc11 => refine Or.inl ⟨by rfl, ?_⟩; intro W hSw; (try dsimp only at hSw); go_simp; try with_reducible rfl
          simp only [Act.put, List.setIfInBounds_toArray, List.set_cons_zero, List.set_cons_succ]
          refine wpAnyH_take (i := 12) (oi := ?oc12) (v := ?vc12) ?hic12 (by kernel_rfl) (by kernel_rfl) (by kernel_rfl) ?hQc12 ?hyc12 hH0 ?_
          case hic12 => simp only [List.getElem?_toArray, List.getElem?_cons_zero, List.getElem?_cons_succ]; rfl
          case hQc12 => exact fun _ _ _ h => h
          case hyc12 => refine Or.inl ⟨by rfl, ?_⟩; intro W hSw; (try dsimp only at hSw); go_simp; try with_reducible rfl
          simp only [Act.put, List.setIfInBounds_toArray, List.set_cons_zero, List.set_cons_succ]
          refine wpAnyH_take (i := 13) (oi := ?oc13) (v := ?vc13) ?hic13 (by kernel_rfl) (by kernel_rfl) (by kernel_rfl) ?hQc13 ?hyc13 hH0 ?_
          case hic13 => simp only [List.getElem?_toArray, List.getElem?_cons_zero, List.getElem?_cons_succ]; rfl
          case hQc13 => exact fun _ _ _ h => h
          case hyc13 => refine Or.inl ⟨by rfl, ?_⟩; intro W hSw; (try dsimp only at hSw); go_simp; try with_reducible rfl
          simp only [Act.put, List.setIfInBounds_toArray, List.set_cons_zero, List.set_cons_succ]
          refine wpAnyH_take (i := 14) (oi := ?oc14) (v := ?vc14) ?hic14 (by kernel_rfl) (by kernel_rfl) (by kernel_rfl) ?hQc14 ?hyc14 hH0 ?_
          case hic14 => simp only [List.getElem?_toArray, List.getElem?_cons_zero, List.getElem?_cons_succ]; rfl
          case hQc14 => exact fun _ _ _ h => h
          case hyc14 => refine Or.inl ⟨by rfl, ?_⟩; intro W hSw; (try dsimp only at hSw); go_simp; try with_reducible rfl
          simp only [Act.put, List.setIfInBounds_toArray, List.set_cons_zero, List.set_cons_succ]
          refine wpAnyH_take (i := 15) (oi := ?oc15) (v := ?vc15) ?hic15 (by kernel_rfl) (by kernel_rfl) (by kernel_rfl) ?hQc15 ?hyc15 hH0 ?_
          case hic15 => simp only [List.getElem?_toArray, List.getElem?_cons_zero, List.getElem?_cons_succ]; rfl
          case hQc15 => exact fun _ _ _ h => h
          case hyc15 => refine Or.inl ⟨by rfl, ?_⟩; intro W hSw; (try dsimp only at hSw); go_simp; try with_reducible rfl
          simp only [Act.put, List.setIfInBounds_toArray, List.set_cons_zero, List.set_cons_succ]
          refine wpAnyH_take (i := 16) (oi := ?oc16) (v := ?vc16) ?hic16 (by kernel_rfl) (by kernel_rfl) (by kernel_rfl) ?hQc16 ?hyc16 hH0 ?_
          case hic16 => simp only [List.getElem?_toArray, List.getElem?_cons_zero, List.getElem?_cons_succ]; rfl
          case hQc16 => exact fun _ _ _ h => h
          case hyc16 => refine Or.inl ⟨by rfl, ?_⟩; intro W hSw; (try dsimp only at hSw); go_simp; try with_reducible rfl
          simp only [Act.put, List.setIfInBounds_toArray, List.set_cons_zero, List.set_cons_succ]
          refine wpAnyH_take (i := 17) (oi := ?oc17) (v := ?vc17) ?hic17 (by kernel_rfl) (by kernel_rfl) (by kernel_rfl) ?hQc17 ?hyc17 hH0 ?_
          case hic17 => simp only [List.getElem?_toArray, List.getElem?_cons_zero, List.getElem?_cons_succ]; rfl
          case hQc17 => exact fun _ _ _ h => h
          case hyc17 => refine Or.inl ⟨by rfl, ?_⟩; intro W hSw; (try dsimp only at hSw); go_simp; try with_reducible rfl
          simp only [Act.put, List.setIfInBounds_toArray, List.set_cons_zero, List.set_cons_succ]
          refine wpAnyH_take (i := 18) (oi := ?oc18) (v := ?vc18) ?hic18 (by kernel_rfl) (by kernel_rfl) (by kernel_rfl) ?hQc18 ?hyc18 hH0 ?_
          case hic18 => simp only [List.getElem?_toArray, List.getElem?_cons_zero, List.getElem?_cons_succ]; rfl
          case hQc18 => exact fun _ _ _ h => h
          case hyc18 => refine Or.inl ⟨by rfl, ?_⟩; intro W hSw; (try dsimp only at hSw); go_simp; try with_reducible rfl
          simp only [Act.put, List.setIfInBounds_toArray, List.set_cons_zero, List.set_cons_succ]
          refine wpAnyH_take (i := 19) (oi := ?oc19) (v := ?vc19) ?hic19 (by kernel_rfl) (by kernel_rfl) (by kernel_rfl) ?hQc19 ?hyc19 hH0 ?_
          case hic19 => simp only [List.getElem?_toArray, List.getElem?_cons_zero, List.getElem?_cons_succ]; rfl
          case hQc19 => exact fun _ _ _ h => h
          case hyc19 => refine Or.inl ⟨by rfl, ?_⟩; intro W hSw; (try dsimp only at hSw); go_simp; try with_reducible rfl
          simp only [Act.put, List.setIfInBounds_toArray, List.set_cons_zero, List.set_cons_succ]
          refine wpAnyH_take (i := 20) (oi := ?oc20) (v := ?vc20) ?hic20 (by kernel_rfl) (by kernel_rfl) (by kernel_rfl) ?hQc20 ?hyc20 hH0 ?_
          case hic20 => simp only [List.getElem?_toArray, List.getElem?_cons_zero, List.getElem?_cons_succ]; rfl
          case hQc20 => exact fun _ _ _ h => h
          case hyc20 => refine Or.inl ⟨by rfl, ?_⟩; intro W hSw; (try dsimp only at hSw); go_simp; try with_reducible rfl
          simp only [Act.put, List.setIfInBounds_toArray, List.set_cons_zero, List.set_cons_succ]
          refine wpAnyH_take (i := 21) (oi := ?oc21) (v := ?vc21) ?hic21 (by kernel_rfl) (by kernel_rfl) (by kernel_rfl) ?hQc21 ?hyc21 hH0 ?_
          case hic21 => simp only [List.getElem?_toArray, List.getElem?_cons_zero, List.getElem?_cons_succ]; rfl
          case hQc21 => exact fun _ _ _ h => h
          case hyc21 => refine Or.inl ⟨by rfl, ?_⟩; intro W hSw; (try dsimp only at hSw); go_simp; try with_reducible rfl
          simp only [Act.put, List.setIfInBounds_toArray, List.set_cons_zero, List.set_cons_succ]
          refine wpAnyH_take (i := 23) (oi := ?oc23) (v := ?vc23) ?hic23 (by kernel_rfl) (by kernel_rfl) (by kernel_rfl) ?hQc23 ?hyc23 hH0 ?_
          case hic23 => simp only [List.getElem?_toArray, List.getElem?_cons_zero, List.getElem?_cons_succ]; rfl
          case hQc23 => exact fun _ _ _ h => h
          case hyc23 => refine Or.inl ⟨by rfl, ?_⟩; intro W hSw; (try dsimp only at hSw); go_simp; try with_reducible rfl
          simp only [Act.put, List.setIfInBounds_toArray, List.set_cons_zero, List.set_cons_succ]
          clear hH0
          refine wpAnyH_ready (rs := [22]) (by kernel_rfl) (by simp) ?_
          refine AllReadyH.cons (o := ?oc22) ?hoc22 (fun K' hK => ?_) AllReadyH.nil
          case hoc22 => simp only [List.getElem?_toArray, List.getElem?_cons_zero, List.getElem?_cons_succ]; rfl
          go_simp
          refine (CE.out _ _ _ HM7.out HZ7.out (bx_below B1.out)).mono ?_
          rintro r w6 ⟨rfl, hb6⟩
          have B2 := Lib.hid (bx_more B1.out hb6)
          clear hb6
          refine hK.out _ _ (MKS.out _ B2.out) (fun hH1 => ?_)
          clear hK K'
          (try simp only [Act.put, List.setIfInBounds_toArray, List.set_cons_zero, List.set_cons_succ])
          refine wpAnyH_take (i := 24) (oi := ?oc24) (v := ?vc24) ?hic24 (by kernel_rfl) (by kernel_rfl) (by kernel_rfl) ?hQc24 ?hyc24 hH1 ?_
          case hic24 => simp only [List.getElem?_toArray, List.getElem?_cons_zero, List.getElem?_cons_succ]; rfl
          case hQc24 => exact fun _ _ _ h => h
          case hyc24 => refine Or.inl ⟨by rfl, ?_⟩; intro W hSw; (try dsimp only at hSw); go_simp; try with_reducible rfl
          simp only [Act.put, List.setIfInBounds_toArray, List.set_cons_zero, List.set_cons_succ]
          refine wpAnyH_take (i := 25) (oi := ?oc25) (v := ?vc25) ?hic25 (by kernel_rfl) (by kernel_rfl) (by kernel_rfl) ?hQc25 ?hyc25 hH1 ?_
          case hic25 => simp only [List.getElem?_toArray, List.getElem?_cons_zero, List.getElem?_cons_succ]; rfl
          case hQc25 => exact fun _ _ _ h => h
          case hyc25 => refine Or.inl ⟨by rfl, ?_⟩; intro W hSw; (try dsimp only at hSw); go_simp; try with_reducible rfl
          simp only [Act.put, List.setIfInBounds_toArray, List.set_cons_zero, List.set_cons_succ]
          refine wpAnyH_take (i := 26) (oi := ?oc26) (v := ?vc26) ?hic26 (by kernel_rfl) (by kernel_rfl) (by kernel_rfl) ?hQc26 ?hyc26 hH1 ?_
          case hic26 => simp only [List.getElem?_toArray, List.getElem?_cons_zero, List.getElem?_cons_succ]; rfl
          case hQc26 => exact fun _ _ _ h => h
          case hyc26 => refine Or.inl ⟨by rfl, ?_⟩; intro W hSw; (try dsimp only at hSw); go_simp; try with_reducible rfl
          simp only [Act.put, List.setIfInBounds_toArray, List.set_cons_zero, List.set_cons_succ]
          refine wpAnyH_take (i := 27) (oi := ?oc27) (v := ?vc27) ?hic27 (by kernel_rfl) (by kernel_rfl) (by kernel_rfl) ?hQc27 ?hyc27 hH1 ?_
          case hic27 => simp only [List.getElem?_toArray, List.getElem?_cons_zero, List.getElem?_cons_succ]; rfl
          case hQc27 => exact fun _ _ _ h => h
          case hyc27 => refine Or.inl ⟨by rfl, ?_⟩; intro W hSw; (try dsimp only at hSw); go_simp; try with_reducible rfl
          simp only [Act.put, List.setIfInBounds_toArray, List.set_cons_zero, List.set_cons_succ]
          refine wpAnyH_take (i := 29) (oi := ?oc29) (v := ?vc29) ?hic29 (by kernel_rfl) (by kernel_rfl) (by kernel_rfl) ?hQc29 ?hyc29 hH1 ?_
          case hic29 => simp only [List.getElem?_toArray, List.getElem?_cons_zero, List.getElem?_cons_succ]; rfl
          case hQc29 => exact fun _ _ _ h => h
          case hyc29 => refine Or.inl ⟨by rfl, ?_⟩; intro W hSw; (try dsimp only at hSw); go_simp; try with_reducible rfl
          simp only [Act.put, List.setIfInBounds_toArray, List.set_cons_zero, List.set_cons_succ]
          refine wpAnyH_take (i := 30) (oi := ?oc30) (v := ?vc30) ?hic30 (by kernel_rfl) (by kernel_rfl) (by kernel_rfl) ?hQc30 ?hyc30 hH1 ?_
          case hic30 => simp only [List.getElem?_toArray, List.getElem?_cons_zero, List.getElem?_cons_succ]; rfl
          case hQc30 => exact fun _ _ _ h => h
          case hyc30 => refine Or.inl ⟨by rfl, ?_⟩; intro W hSw; (try dsimp only at hSw); go_simp; try with_reducible rfl
          simp only [Act.put, List.setIfInBounds_toArray, List.set_cons_zero, List.set_cons_succ]
          clear hH1
          refine wpAnyH_ready (rs := [28]) (by kernel_rfl) (by simp) ?_
          refine AllReadyH.cons (o := ?oc28) ?hoc28 (fun K' hK => ?_) AllReadyH.nil
          case hoc28 => simp only [List.getElem?_toArray, List.getElem?_cons_zero, List.getElem?_cons_succ]; rfl
          go_simp
          refine (HC.out _).mono ?_
          rintro r w7 ⟨rfl, hb7⟩
          have B3 := Lib.hid (bx_more B2.out hb7)
          clear hb7
          refine hK.out _ _ (MKS.out _ B3.out) (fun hH2 => ?_)
          clear hK K'
          (try simp only [Act.put, List.setIfInBounds_toArray, List.set_cons_zero, List.set_cons_succ])
          refine wpAnyH_take (i := 31) (oi := ?oc31) (v := ?vc31) ?hic31 (by kernel_rfl) (by kernel_rfl) (by kernel_rfl) ?hQc31 ?hyc31 hH2 ?_
          case hic31 => simp only [List.getElem?_toArray, List.getElem?_cons_zero, List.getElem?_cons_succ]; rfl
          case hQc31 => exact fun _ _ _ h => h
          case hyc31 => refine Or.inl ⟨by rfl, ?_⟩; intro W hSw; (try dsimp only at hSw); go_simp; try with_reducible rfl
          simp only [Act.put, List.setIfInBounds_toArray, List.set_cons_zero, List.set_cons_succ]
          refine wpAnyH_take (i := 32) (oi := ?oc32) (v := ?vc32) ?hic32 (by kernel_rfl) (by kernel_rfl) (by kernel_rfl) ?hQc32 ?hyc32 hH2 ?_
          case hic32 => simp only [List.getElem?_toArray, List.getElem?_cons_zero, List.getElem?_cons_succ]; rfl
          case hQc32 => exact fun _ _ _ h => h
          case hyc32 => refine Or.inl ⟨by rfl, ?_⟩; intro W hSw; (try dsimp only at hSw); go_simp; try with_reducible rfl
          simp only [Act.put, List.setIfInBounds_toArray, List.set_cons_zero, List.set_cons_succ]
          clear hH2
          refine wpAnyH_ready (rs := [33]) (by kernel_rfl) (by simp) ?_
          refine AllReadyH.cons (o := ?oc33) ?hoc33 (fun K' hK => ?_) AllReadyH.nil
          case hoc33 => simp only [List.getElem?_toArray, List.getElem?_cons_zero, List.getElem?_cons_succ]; rfl
          go_simp
          refine hK.out _ _ (MKS.out _ B3.out) (fun hH3 => ?_)
          clear hK K'
          (try simp only [Act.put, List.setIfInBounds_toArray, List.set_cons_zero, List.set_cons_succ])
          clear hH3
          refine wpAnyH_done (by kernel_rfl) ?_ _
          go_wp2_with fail
          go_ret
          exact ⟨rfl, bx_below B3.out⟩

    · have hr' : rightM m = false := by cases e : rightM m; rfl; exact absurd e hr
      have ht : takeM [] = (none, 3) := rfl
      have hs0 := putM_not hr'
      have hn0 := not_epoch hr'
      rw [hsp] at hs0
      rw [HN.out] at hn0
      subst hs0 hn0
      have CT := Lib.hid (fun (X : World) (hX : Below W.heap.size W X) => (show Calls Tryd.prog 13 #[.string ⟨#[]⟩] X fun r w' => GotTake none 3 X r w' from takeM_any [] _ _ ht (by simp) X (tabs_below HT.out hX)))
      have CR2 := Lib.hid (fun (X : World) (u : Value) (B : Nat) (hu : IsMsg B X u m) (hB : B ≤ X.heap.size) (hX : Below W.heap.size W X) => CR.out X u B false hr' hu hB hX)
      clear ht hr hr' CR hsp
      go_wp2_with fail
      refine (CT.out _ (bx_below HRG.out)).mono ?_
      rintro r w6 ⟨v6, rfl, hn6, -, hb6⟩
      obtain rfl := hn6 rfl
      have HK6 := Lib.hid (bstep HK5.out hb6)
      replace HRG := Lib.hid (bx_more HRG.out hb6)
      clear hb6 HK5 hn6
      go_wp2_with fail
      refine (CR2.out _ _ _ (HM.out.keep HK6.out (Nat.le_refl _)) HK6.out.size (bx_below HRG.out)).mono ?_
      rintro r w7 ⟨rfl, hb7⟩
      replace HRG := Lib.hid (bx_more HRG.out hb7)
      clear hb7
      go_wp2_with fail
      go_ret
      exact ⟨rfl, bx_below HRG.out⟩

theorem walkMessageEpochs (v : Value) (d : DW) (s : DS) (W : World) (hv : v = .agg (d.cells s).toArray) (h : DOk W.heap.size W d s) (hsz : SizeD d) (hT : Tabs W) :
    Calls Tryd.prog 6 #[v] W fun r w' => r = .returned (.bool true) ∧ Below W.heap.size W w' := by
  obtain ⟨ca, ck, sa, sk, ba, bk, ma, mc, ea, ec, va, vk, la, lk, rfl⟩ := h.forms
  obtain ⟨k, n0, n1, n2, n3, n4, n5, ch, si, bo, mk, en, ev, b, st⟩ := d
  subst hv
  cases hm : madeD ⟨k, n0, n1, n2, n3, n4, n5, ch, si, bo, mk, en, ev, b, st⟩ with
  | none => exact epochs_none k n0 n1 n2 n3 n4 n5 ch si bo mk en ev b st ca sa ba ma ea va la ck sk bk mc ec vk lk W h hsz hT hm
  | some m => exact epochs_some k n0 n1 n2 n3 n4 n5 ch si bo mk en ev b st ca sa ba ma ea va la ck sk bk mc ec vk lk W h hsz hT m hm _ rfl
end Go.Proofs.YtflojipkgaocnaaDoor
