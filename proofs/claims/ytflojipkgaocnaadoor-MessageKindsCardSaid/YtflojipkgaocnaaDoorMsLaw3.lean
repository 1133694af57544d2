/-
  The walk of bucketlinelaw7.MessageKinds. Printed by gen_mslaw3.py of this claim's writer.
-/
import Derived.Test.YtflojipkgaocnaaDoorMsTwo
import Derived.Test.YtflojipkgaocnaaDoorMsShown
import Derived.Deep.RegionHeld3
import Derived.Deep.QuietTactic
import Derived.BigQuiet
import Derived.IntWalk
namespace Go.Proofs.YtflojipkgaocnaaDoor
open Go.RowKit
set_option linter.unusedSimpArgs false
set_option linter.unusedVariables false

set_option maxRecDepth 100000 in
set_option maxHeartbeats 12800000 in
theorem kinds_lit (k n0 n1 n2 n3 n4 n5 : Int) (ch si bo : List Int) (mk : List (Int × Int)) (en : List EN) (ev : List EV) (b : BW) (st : ByteArray) (ca sa ba ma ea va la : Option Addr) (ck sk bk mc ec vk lk : Nat) (yk yn0 yn1 yn2 yn3 yn4 yn5 : Int) (ych ysi ybo : List Int) (ymk : List (Int × Int)) (yen : List EN) (yev : List EV) (yb : BW) (yst : ByteArray) (yca ysa yba yma yea yva yla : Option Addr) (yck ysk ybk ymc yec yvk ylk : Nat) (W : World) (h : DOk W.heap.size W ⟨k, n0, n1, n2, n3, n4, n5, ch, si, bo, mk, en, ev, b, st⟩ ⟨.slice ca ch.length ck, .slice sa si.length sk, .slice ba bo.length bk, .slice ma mk.length mc, .slice ea en.length ec, .slice va ev.length vk, .slice la b.events.length lk⟩) (hy : DOk W.heap.size W ⟨yk, yn0, yn1, yn2, yn3, yn4, yn5, ych, ysi, ybo, ymk, yen, yev, yb, yst⟩ ⟨.slice yca ych.length yck, .slice ysa ysi.length ysk, .slice yba ybo.length ybk, .slice yma ymk.length ymc, .slice yea yen.length yec, .slice yva yev.length yvk, .slice yla yb.events.length ylk⟩) (hsz : SizeD ⟨k, n0, n1, n2, n3, n4, n5, ch, si, bo, mk, en, ev, b, st⟩) (hsy : SizeD ⟨yk, yn0, yn1, yn2, yn3, yn4, yn5, ych, ysi, ybo, ymk, yen, yev, yb, yst⟩) (hT : Tabs W) (xa xb : Option Msg) (hxa : madeD ⟨k, n0, n1, n2, n3, n4, n5, ch, si, bo, mk, en, ev, b, st⟩ = xa) (hxb : madeD ⟨yk, yn0, yn1, yn2, yn3, yn4, yn5, ych, ysi, ybo, ymk, yen, yev, yb, yst⟩ = xb) :
    Calls Tryd.prog 5 #[.agg #[.int .i64 k, .int .i64 n0, .int .i64 n1, .int .i64 n2, .int .i64 n3, .int .i64 n4, .int .i64 n5, .slice ca ch.length ck, .slice sa si.length sk, .slice ba bo.length bk, .slice ma mk.length mc, .slice ea en.length ec, .slice va ev.length vk, .string b.stream, .int .i64 b.expect, .int .i64 b.session, .int .i64 b.seq, .slice la b.events.length lk, .string st], .agg #[.int .i64 yk, .int .i64 yn0, .int .i64 yn1, .int .i64 yn2, .int .i64 yn3, .int .i64 yn4, .int .i64 yn5, .slice yca ych.length yck, .slice ysa ysi.length ysk, .slice yba ybo.length ybk, .slice yma ymk.length ymc, .slice yea yen.length yec, .slice yva yev.length yvk, .string yb.stream, .int .i64 yb.expect, .int .i64 yb.session, .int .i64 yb.seq, .slice yla yb.events.length ylk, .string yst]] W fun r w' => r = .returned (.bool true) ∧ Below W.heap.size W w' := by
  have HT := Lib.hid hT
  have q1 := iface_neq
  have q2 := iface_eql
  have q3 := nil_eql
  have q4 := nil_neq
  have CSA := Lib.hid (fun (X : World) (hX : Below W.heap.size W X) => small_any W.heap.size (.agg #[.int .i64 k, .int .i64 n0, .int .i64 n1, .int .i64 n2, .int .i64 n3, .int .i64 n4, .int .i64 n5, .slice ca ch.length ck, .slice sa si.length sk, .slice ba bo.length bk, .slice ma mk.length mc, .slice ea en.length ec, .slice va ev.length vk, .string b.stream, .int .i64 b.expect, .int .i64 b.session, .int .i64 b.seq, .slice la b.events.length lk, .string st]) ⟨k, n0, n1, n2, n3, n4, n5, ch, si, bo, mk, en, ev, b, st⟩ ⟨.slice ca ch.length ck, .slice sa si.length sk, .slice ba bo.length bk, .slice ma mk.length mc, .slice ea en.length ec, .slice va ev.length vk, .slice la b.events.length lk⟩ X rfl (h.keep hX (Nat.le_refl _)) hX.size hsz)
  have CSB := Lib.hid (fun (X : World) (hX : Below W.heap.size W X) => small_any W.heap.size (.agg #[.int .i64 yk, .int .i64 yn0, .int .i64 yn1, .int .i64 yn2, .int .i64 yn3, .int .i64 yn4, .int .i64 yn5, .slice yca ych.length yck, .slice ysa ysi.length ysk, .slice yba ybo.length ybk, .slice yma ymk.length ymc, .slice yea yen.length yec, .slice yva yev.length yvk, .string yb.stream, .int .i64 yb.expect, .int .i64 yb.session, .int .i64 yb.seq, .slice yla yb.events.length ylk, .string yst]) ⟨yk, yn0, yn1, yn2, yn3, yn4, yn5, ych, ysi, ybo, ymk, yen, yev, yb, yst⟩ ⟨.slice yca ych.length yck, .slice ysa ysi.length ysk, .slice yba ybo.length ybk, .slice yma ymk.length ymc, .slice yea yen.length yec, .slice yva yev.length yvk, .slice yla yb.events.length ylk⟩ X rfl (hy.keep hX (Nat.le_refl _)) hX.size hsy)
  have CMA := Lib.hid (fun (X : World) (hX : Below W.heap.size W X) => made_any W.heap.size (.agg #[.int .i64 k, .int .i64 n0, .int .i64 n1, .int .i64 n2, .int .i64 n3, .int .i64 n4, .int .i64 n5, .slice ca ch.length ck, .slice sa si.length sk, .slice ba bo.length bk, .slice ma mk.length mc, .slice ea en.length ec, .slice va ev.length vk, .string b.stream, .int .i64 b.expect, .int .i64 b.session, .int .i64 b.seq, .slice la b.events.length lk, .string st]) ⟨k, n0, n1, n2, n3, n4, n5, ch, si, bo, mk, en, ev, b, st⟩ ⟨.slice ca ch.length ck, .slice sa si.length sk, .slice ba bo.length bk, .slice ma mk.length mc, .slice ea en.length ec, .slice va ev.length vk, .slice la b.events.length lk⟩ _ hxa X rfl (h.keep hX (Nat.le_refl _)) hX.size)
  have CMB := Lib.hid (fun (X : World) (hX : Below W.heap.size W X) => made_any W.heap.size (.agg #[.int .i64 yk, .int .i64 yn0, .int .i64 yn1, .int .i64 yn2, .int .i64 yn3, .int .i64 yn4, .int .i64 yn5, .slice yca ych.length yck, .slice ysa ysi.length ysk, .slice yba ybo.length ybk, .slice yma ymk.length ymc, .slice yea yen.length yec, .slice yva yev.length yvk, .string yb.stream, .int .i64 yb.expect, .int .i64 yb.session, .int .i64 yb.seq, .slice yla yb.events.length ylk, .string yst]) ⟨yk, yn0, yn1, yn2, yn3, yn4, yn5, ych, ysi, ybo, ymk, yen, yev, yb, yst⟩ ⟨.slice yca ych.length yck, .slice ysa ysi.length ysk, .slice yba ybo.length ybk, .slice yma ymk.length ymc, .slice yea yen.length yec, .slice yva yev.length yvk, .slice yla yb.events.length ylk⟩ _ hxb X rfl (hy.keep hX (Nat.le_refl _)) hX.size)
  have CMM := Lib.hid (fun (X : World) (hX : Below W.heap.size W X) (x : Option Msg) (hx : madeD ⟨k, (-1), n1, n2, n3, n4, n5, ch, si, bo, mk, en, ev, b, st⟩ = x) => made_any W.heap.size (.agg #[.int .i64 k, .int .i64 (-1), .int .i64 n1, .int .i64 n2, .int .i64 n3, .int .i64 n4, .int .i64 n5, .slice ca ch.length ck, .slice sa si.length sk, .slice ba bo.length bk, .slice ma mk.length mc, .slice ea en.length ec, .slice va ev.length vk, .string b.stream, .int .i64 b.expect, .int .i64 b.session, .int .i64 b.seq, .slice la b.events.length lk, .string st]) ⟨k, (-1), n1, n2, n3, n4, n5, ch, si, bo, mk, en, ev, b, st⟩ ⟨.slice ca ch.length ck, .slice sa si.length sk, .slice ba bo.length bk, .slice ma mk.length mc, .slice ea en.length ec, .slice va ev.length vk, .slice la b.events.length lk⟩ x hx X rfl ((show DOk W.heap.size W ⟨k, (-1), n1, n2, n3, n4, n5, ch, si, bo, mk, en, ev, b, st⟩ ⟨.slice ca ch.length ck, .slice sa si.length sk, .slice ba bo.length bk, .slice ma mk.length mc, .slice ea en.length ec, .slice va ev.length vk, .slice la b.events.length lk⟩ from ⟨h.c, h.i, h.o, h.m, h.e, h.v, h.b⟩).keep hX (Nat.le_refl _)) hX.size)
  have HXA := Lib.hid hxa
  have HXB := Lib.hid hxb
  have HRG := Lib.hid (two_new (w := W) (.cells #[.int .i64 k, .int .i64 n0, .int .i64 n1, .int .i64 n2, .int .i64 n3, .int .i64 n4, .int .i64 n5, .slice ca ch.length ck, .slice sa si.length sk, .slice ba bo.length bk, .slice ma mk.length mc, .slice ea en.length ec, .slice va ev.length vk, .string b.stream, .int .i64 b.expect, .int .i64 b.session, .int .i64 b.seq, .slice la b.events.length lk, .string st] 30) (.cells #[.int .i64 yk, .int .i64 yn0, .int .i64 yn1, .int .i64 yn2, .int .i64 yn3, .int .i64 yn4, .int .i64 yn5, .slice yca ych.length yck, .slice ysa ysi.length ysk, .slice yba ybo.length ybk, .slice yma ymk.length ymc, .slice yea yen.length yec, .slice yva yev.length yvk, .string yb.stream, .int .i64 yb.expect, .int .i64 yb.session, .int .i64 yb.seq, .slice yla yb.events.length ylk, .string yst] 30))
  clear h hy hsz hsy hT hxa hxb
  go_enter Tryd.func5, Tryd.ntmps5
  go_wp2_with fail
  refine (shown_any _ (tabs_below HT.out (two_below HRG.out))).mono ?_
  rintro r w1 ⟨rfl, hb1⟩
  replace HRG := Lib.hid (two_more HRG.out hb1)
  clear hb1
  go_wp2_with (refine wpList_load_mid rfl 30 _ rfl W.heap.size 0 (by rfl) [.int .i64 k, .int .i64 n0, .int .i64 n1, .int .i64 n2, .int .i64 n3, .int .i64 n4, .int .i64 n5, .slice ca ch.length ck, .slice sa si.length sk, .slice ba bo.length bk, .slice ma mk.length mc, .slice ea en.length ec, .slice va ev.length vk, .string b.stream, .int .i64 b.expect, .int .i64 b.session, .int .i64 b.seq, .slice la b.events.length lk, .string st] _ (heap_range (two_heapA HRG.out)) Tryd.underlying30 rfl (by kernel_rfl) ?_)
  refine (CSA.out _ (two_below HRG.out)).mono ?_
  rintro r w2 ⟨qa, rfl, hqa, hb2⟩
  have HQA := Lib.hid hqa
  replace HRG := Lib.hid (two_more HRG.out hb2)
  clear hb2 hqa
  go_wp2_with (refine wpList_load_mid rfl 30 _ rfl (W.heap.size + 1) 0 (by rfl) [.int .i64 yk, .int .i64 yn0, .int .i64 yn1, .int .i64 yn2, .int .i64 yn3, .int .i64 yn4, .int .i64 yn5, .slice yca ych.length yck, .slice ysa ysi.length ysk, .slice yba ybo.length ybk, .slice yma ymk.length ymc, .slice yea yen.length yec, .slice yva yev.length yvk, .string yb.stream, .int .i64 yb.expect, .int .i64 yb.session, .int .i64 yb.seq, .slice yla yb.events.length ylk, .string yst] _ (heap_range (two_heapB HRG.out)) Tryd.underlying30 rfl (by kernel_rfl) ?_)
  refine (CSB.out _ (two_below HRG.out)).mono ?_
  rintro r w3 ⟨qb, rfl, hqb, hb3⟩
  have HQB := Lib.hid hqb
  replace HRG := Lib.hid (two_more HRG.out hb3)
  clear hb3 hqb
  go_wp2_with (refine wpList_load_mid rfl 30 _ rfl W.heap.size 0 (by rfl) [.int .i64 k, .int .i64 n0, .int .i64 n1, .int .i64 n2, .int .i64 n3, .int .i64 n4, .int .i64 n5, .slice ca ch.length ck, .slice sa si.length sk, .slice ba bo.length bk, .slice ma mk.length mc, .slice ea en.length ec, .slice va ev.length vk, .string b.stream, .int .i64 b.expect, .int .i64 b.session, .int .i64 b.seq, .slice la b.events.length lk, .string st] _ (heap_range (two_heapA HRG.out)) Tryd.underlying30 rfl (by kernel_rfl) ?_)
  refine (CMA.out _ (two_below HRG.out)).mono ?_
  rintro r w4 ⟨v4, rfl, hn4, hm4, hb4⟩
  have HN4 := Lib.hid hn4
  have HM4 := Lib.hid hm4
  replace HRG := Lib.hid (two_more HRG.out hb4)
  clear hb4 hn4 hm4
  go_wp2_with (refine wpList_load_mid rfl 30 _ rfl (W.heap.size + 1) 0 (by rfl) [.int .i64 yk, .int .i64 yn0, .int .i64 yn1, .int .i64 yn2, .int .i64 yn3, .int .i64 yn4, .int .i64 yn5, .slice yca ych.length yck, .slice ysa ysi.length ysk, .slice yba ybo.length ybk, .slice yma ymk.length ymc, .slice yea yen.length yec, .slice yva yev.length yvk, .string yb.stream, .int .i64 yb.expect, .int .i64 yb.session, .int .i64 yb.seq, .slice yla yb.events.length ylk, .string yst] _ (heap_range (two_heapB HRG.out)) Tryd.underlying30 rfl (by kernel_rfl) ?_)
  refine (CMB.out _ (two_below HRG.out)).mono ?_
  rintro r w5 ⟨v5, rfl, hn5, hm5, hb5⟩
  have HN5 := Lib.hid hn5
  have HM5 := Lib.hid hm5
  have HK5 := Lib.hid hb5
  replace HRG := Lib.hid (two_more HRG.out hb5)
  clear hb5 hn5 hm5 CSA CSB CMA CMB
  cases qa with
  | false =>
    go_wp2_with fail
    go_ret
    exact ⟨rfl, two_below HRG.out⟩
  | true =>
  cases qb with
  | false =>
    go_wp2_with fail
    go_ret
    exact ⟨rfl, two_below HRG.out⟩
  | true =>
  cases xa with
  | none =>
    obtain rfl := HN4.out rfl
    go_wp2_with fail
    go_ret
    exact ⟨rfl, two_below HRG.out⟩
  | some m =>
  cases xb with
  | none =>
    obtain rfl := HN5.out rfl
    have hm := HM4.out m rfl
    obtain ⟨Tv, pv, Fv, rfl, hmt, hcf, hc⟩ := hasKind hm
    clear hm hmt hcf hc
    go_wp2_with fail
    go_ret
    exact ⟨rfl, two_below HRG.out⟩
  | some m' =>
  have hm := HM4.out m rfl
  have hm' := HM5.out m' rfl
  have HMA := Lib.hid (hm.keep HK5.out (Nat.le_refl _))
  have HMB := Lib.hid hm'
  have HZA := Lib.hid HK5.out.size
  obtain ⟨Tv, pv, Fv, rfl, hmt, hcf, hc⟩ := hasKind hm
  clear hmt hcf hc
  obtain ⟨Tu, pu, Fu, rfl, hmt, hcf, hc⟩ := hasKind hm'
  clear hmt hcf hc hm hm' HM4 HM5 HN4 HN5 HK5
  have ha := HQA.out rfl
  have hb := HQB.out rfl
  have HLA := Lib.hid (made_light ha HXA.out)
  have HLB := Lib.hid (made_light hb HXB.out)
  have hka : (m.kind : Int) = k := made_kind HXA.out
  have hkb : (m'.kind : Int) = yk := made_kind HXB.out
  obtain ⟨z, hz⟩ := made_again (e := ⟨k, (-1), n1, n2, n3, n4, n5, ch, si, bo, mk, en, ev, b, st⟩) HXA.out rfl
  have HLZ := Lib.hid (made_light (show SmallD ⟨k, (-1), n1, n2, n3, n4, n5, ch, si, bo, mk, en, ev, b, st⟩ from ⟨ha.c, ha.i, ha.o, ha.m, ha.e, ha.v, ha.s, ha.bs, ha.bn, ha.es, ha.vs, ha.be⟩) hz)
  have hrz : rightM z = false := not_num (made_nums hz) (show (-1 : Int) < 0 by decide)
  have hpz := putM_not hrz
  have CMZ := Lib.hid (fun (X : World) (hX : Below W.heap.size W X) => CMM.out X hX _ hz)
  have CRZ := Lib.hid (fun (X : World) (u : Value) (B : Nat) (hu : IsMsg B X u z) (hB : B ≤ X.heap.size) (hX : Below W.heap.size W X) => rightM_any B u z false hrz X hu hB (tabs_below HT.out hX) HLZ.out)
  have CPZ := Lib.hid (fun (X : World) (u : Value) (B : Nat) (hu : IsMsg B X u z) (hB : B ≤ X.heap.size) (hX : Below W.heap.size W X) => putM_any B u z ⟨#[]⟩ hpz X hu hB (tabs_below HT.out hX) HLZ.out)
  obtain ⟨s, hs⟩ : ∃ s, putM m = s := ⟨_, rfl⟩
  obtain ⟨s', hs'⟩ : ∃ s, putM m' = s := ⟨_, rfl⟩
  have CPA := Lib.hid (fun (X : World) (u : Value) (B : Nat) (hu : IsMsg B X u m) (hB : B ≤ X.heap.size) (hX : Below W.heap.size W X) => putM_any B u m s hs X hu hB (tabs_below HT.out hX) HLA.out)
  have CPB := Lib.hid (fun (X : World) (u : Value) (B : Nat) (hu : IsMsg B X u m') (hB : B ≤ X.heap.size) (hX : Below W.heap.size W X) => putM_any B u m' s' hs' X hu hB (tabs_below HT.out hX) HLB.out)
  have gA : s.toList.isEmpty = !rightM m := by rw [← hs]; exact right_iff_put m
  have key : (0 < s.size ∧ (∀ h : 0 < s.size, ((s[0]'h).toNat : Int) = k) ∧ s.toList.isEmpty = false ∧ ((k == yk) = true ∨ (k == yk) = false ∧ (s.toList == s'.toList) = false)) ∨ s.toList.isEmpty = true := by
    by_cases hr : rightM m = true
    · left
      have hf := first_kind hr
      rw [hs, hka] at hf
      refine ⟨hf.1, hf.2, by rw [gA, hr]; rfl, ?_⟩
      by_cases e : k = yk
      · exact .inl (by rw [e]; exact beq_self_eq_true yk)
      · exact .inr ⟨beq_eq_false_iff_ne.2 e, by rw [← hs, ← hs']; exact kinds_ne (fun e2 => e (by rw [← hka, ← hkb, e2])) hr⟩
    · right
      rw [gA]
      cases e : rightM m
      · rfl
      · exact absurd e hr
  have eK : IntKind.i64.wrap k = k := by rw [← hka]; have := (kind_bd m).2; rw [IntKind.wrap_i64]; omega
  have KEY := Lib.hid key
  have EK := Lib.hid eK
  obtain ⟨qe, hqe⟩ : ∃ q, (s.toList == s'.toList) = q := ⟨_, rfl⟩
  obtain ⟨qk, hqk⟩ : ∃ q, (k == yk) = q := ⟨_, rfl⟩
  have HQE := Lib.hid hqe
  have HQK := Lib.hid hqk
  clear ha hb hka hkb hz hrz hpz hs hs' gA key eK CMM HQA HQB HXA HXB hqe hqk HLA HLB HLZ
  go_wp2_with fail
  refine (CPA.out _ _ _ HMA.out HZA.out (two_below HRG.out)).mono ?_
  rintro r w6 ⟨rfl, hb6⟩
  have HMB2 := Lib.hid (HMB.out.keep hb6 (Nat.le_refl _))
  have HZB := Lib.hid hb6.size
  replace HRG := Lib.hid (two_more HRG.out hb6)
  clear hb6 HMA HZA HMB
  go_wp2_with fail
  refine (CPB.out _ _ _ HMB2.out HZB.out (two_below HRG.out)).mono ?_
  rintro r w7 ⟨rfl, hb7⟩
  replace HRG := Lib.hid (two_more HRG.out hb7)
  clear hb7 HMB2 HZB CPA CPB
  have a0 : w7.cell? ⟨W.heap.size, 0, none⟩ = some (.int .i64 k) := by rw [Lib.cell_of_heap (two_heapA HRG.out)]; rfl
  have b0 : w7.cell? ⟨W.heap.size + 1, 0, none⟩ = some (.int .i64 yk) := by rw [Lib.cell_of_heap (two_heapB HRG.out)]; rfl
  have cz : w7.cell? ⟨W.heap.size, 1, none⟩ = some (.int .i64 n0) := by rw [Lib.cell_of_heap (two_heapA HRG.out)]; rfl
  have fz : w7.frozen? ⟨W.heap.size, 1, none⟩ = false := Lib.frozen_of_heap (two_heapA HRG.out) 1
  rcases KEY.out with ⟨h0, hidx, hem, hcase⟩ | hem
  · have i0 : (0 : Int) < (s.size : Int) := by omega
    have eK := EK.out
    rcases hcase with hk | ⟨hk, he⟩
    · obtain rfl : k = yk := by simpa using hk
      clear hk HQE HQK KEY EK
      go_wp2_with fail
      go_quiet (fail)
      go_wp2_with (refine wpList_load_mid rfl 30 _ rfl W.heap.size 0 (by rfl) [.int .i64 k, .int .i64 (-1), .int .i64 n1, .int .i64 n2, .int .i64 n3, .int .i64 n4, .int .i64 n5, .slice ca ch.length ck, .slice sa si.length sk, .slice ba bo.length bk, .slice ma mk.length mc, .slice ea en.length ec, .slice va ev.length vk, .string b.stream, .int .i64 b.expect, .int .i64 b.session, .int .i64 b.seq, .slice la b.events.length lk, .string st] _ (range_set (two_heapA (below_drewN HRG.out _))) Tryd.underlying30 rfl (by kernel_rfl) ?_)
      refine (CMZ.out _ ((two_below (below_drewN HRG.out _)).setCell (Nat.le_refl _) _)).mono ?_
      rintro r w8 ⟨v8, rfl, -, hm8, hb8⟩
      have hm := hm8 z rfl
      have HM := Lib.hid hm
      obtain ⟨T8, p8, F8, rfl, hmt, hcf, hc⟩ := hasKind hm
      have HB8 := Lib.hid (bstep ((two_below (below_drewN HRG.out _)).setCell (Nat.le_refl _) _) hb8)
      clear hm hmt hcf hc hm8 hb8 a0 b0 cz fz
      go_wp2_with fail
      refine (CPZ.out _ _ _ HM.out (Nat.le_refl _) HB8.out).mono ?_
      rintro r w9 ⟨rfl, hb9⟩
      go_wp2_with fail
      refine (CRZ.out _ _ _ (HM.out.keep hb9 (Nat.le_refl _)) hb9.size (bstep HB8.out hb9)).mono ?_
      rintro r w10 ⟨rfl, hb10⟩
      go_wp2_with fail
      go_ret
      exact ⟨rfl, bstep (bstep HB8.out hb9) hb10⟩
    · have hk1 : (k != yk) = true := by rw [bne, hk]; rfl
      clear HQE HQK KEY EK
      go_wp2_with fail
      go_quiet (fail)
      go_wp2_with (refine wpList_load_mid rfl 30 _ rfl W.heap.size 0 (by rfl) [.int .i64 k, .int .i64 (-1), .int .i64 n1, .int .i64 n2, .int .i64 n3, .int .i64 n4, .int .i64 n5, .slice ca ch.length ck, .slice sa si.length sk, .slice ba bo.length bk, .slice ma mk.length mc, .slice ea en.length ec, .slice va ev.length vk, .string b.stream, .int .i64 b.expect, .int .i64 b.session, .int .i64 b.seq, .slice la b.events.length lk, .string st] _ (range_set (two_heapA (below_drewN HRG.out _))) Tryd.underlying30 rfl (by kernel_rfl) ?_)
      refine (CMZ.out _ ((two_below (below_drewN HRG.out _)).setCell (Nat.le_refl _) _)).mono ?_
      rintro r w8 ⟨v8, rfl, -, hm8, hb8⟩
      have hm := hm8 z rfl
      have HM := Lib.hid hm
      obtain ⟨T8, p8, F8, rfl, hmt, hcf, hc⟩ := hasKind hm
      have HB8 := Lib.hid (bstep ((two_below (below_drewN HRG.out _)).setCell (Nat.le_refl _) _) hb8)
      clear hm hmt hcf hc hm8 hb8 a0 b0 cz fz
      go_wp2_with fail
      refine (CPZ.out _ _ _ HM.out (Nat.le_refl _) HB8.out).mono ?_
      rintro r w9 ⟨rfl, hb9⟩
      go_wp2_with fail
      refine (CRZ.out _ _ _ (HM.out.keep hb9 (Nat.le_refl _)) hb9.size (bstep HB8.out hb9)).mono ?_
      rintro r w10 ⟨rfl, hb10⟩
      go_wp2_with fail
      go_ret
      exact ⟨rfl, bstep (bstep HB8.out hb9) hb10⟩
  · clear KEY EK
    cases qk with
    | true =>
      obtain rfl : k = yk := by simpa using HQK.out
      clear HQE HQK
      go_wp2_with fail
      go_quiet (fail)
      go_wp2_with (refine wpList_load_mid rfl 30 _ rfl W.heap.size 0 (by rfl) [.int .i64 k, .int .i64 (-1), .int .i64 n1, .int .i64 n2, .int .i64 n3, .int .i64 n4, .int .i64 n5, .slice ca ch.length ck, .slice sa si.length sk, .slice ba bo.length bk, .slice ma mk.length mc, .slice ea en.length ec, .slice va ev.length vk, .string b.stream, .int .i64 b.expect, .int .i64 b.session, .int .i64 b.seq, .slice la b.events.length lk, .string st] _ (range_set (two_heapA (below_drewN HRG.out _))) Tryd.underlying30 rfl (by kernel_rfl) ?_)
      refine (CMZ.out _ ((two_below (below_drewN HRG.out _)).setCell (Nat.le_refl _) _)).mono ?_
      rintro r w8 ⟨v8, rfl, -, hm8, hb8⟩
      have hm := hm8 z rfl
      have HM := Lib.hid hm
      obtain ⟨T8, p8, F8, rfl, hmt, hcf, hc⟩ := hasKind hm
      have HB8 := Lib.hid (bstep ((two_below (below_drewN HRG.out _)).setCell (Nat.le_refl _) _) hb8)
      clear hm hmt hcf hc hm8 hb8 a0 b0 cz fz
      go_wp2_with fail
      refine (CPZ.out _ _ _ HM.out (Nat.le_refl _) HB8.out).mono ?_
      rintro r w9 ⟨rfl, hb9⟩
      go_wp2_with fail
      refine (CRZ.out _ _ _ (HM.out.keep hb9 (Nat.le_refl _)) hb9.size (bstep HB8.out hb9)).mono ?_
      rintro r w10 ⟨rfl, hb10⟩
      go_wp2_with fail
      go_ret
      exact ⟨rfl, bstep (bstep HB8.out hb9) hb10⟩
    | false =>
      have hk := HQK.out
      have he := HQE.out
      have hk1 : (k != yk) = true := by rw [bne, hk]; rfl
      clear HQE HQK
      cases qe with
      | true =>
        go_wp2_with fail
        go_quiet (fail)
        go_wp2_with (refine wpList_load_mid rfl 30 _ rfl W.heap.size 0 (by rfl) [.int .i64 k, .int .i64 (-1), .int .i64 n1, .int .i64 n2, .int .i64 n3, .int .i64 n4, .int .i64 n5, .slice ca ch.length ck, .slice sa si.length sk, .slice ba bo.length bk, .slice ma mk.length mc, .slice ea en.length ec, .slice va ev.length vk, .string b.stream, .int .i64 b.expect, .int .i64 b.session, .int .i64 b.seq, .slice la b.events.length lk, .string st] _ (range_set (two_heapA (below_drewN HRG.out _))) Tryd.underlying30 rfl (by kernel_rfl) ?_)
        refine (CMZ.out _ ((two_below (below_drewN HRG.out _)).setCell (Nat.le_refl _) _)).mono ?_
        rintro r w8 ⟨v8, rfl, -, hm8, hb8⟩
        have hm := hm8 z rfl
        have HM := Lib.hid hm
        obtain ⟨T8, p8, F8, rfl, hmt, hcf, hc⟩ := hasKind hm
        have HB8 := Lib.hid (bstep ((two_below (below_drewN HRG.out _)).setCell (Nat.le_refl _) _) hb8)
        clear hm hmt hcf hc hm8 hb8 a0 b0 cz fz
        go_wp2_with fail
        refine (CPZ.out _ _ _ HM.out (Nat.le_refl _) HB8.out).mono ?_
        rintro r w9 ⟨rfl, hb9⟩
        go_wp2_with fail
        refine (CRZ.out _ _ _ (HM.out.keep hb9 (Nat.le_refl _)) hb9.size (bstep HB8.out hb9)).mono ?_
        rintro r w10 ⟨rfl, hb10⟩
        go_wp2_with fail
        go_ret
        exact ⟨rfl, bstep (bstep HB8.out hb9) hb10⟩
      | false =>
        go_wp2_with fail
        go_quiet (fail)
        go_wp2_with (refine wpList_load_mid rfl 30 _ rfl W.heap.size 0 (by rfl) [.int .i64 k, .int .i64 (-1), .int .i64 n1, .int .i64 n2, .int .i64 n3, .int .i64 n4, .int .i64 n5, .slice ca ch.length ck, .slice sa si.length sk, .slice ba bo.length bk, .slice ma mk.length mc, .slice ea en.length ec, .slice va ev.length vk, .string b.stream, .int .i64 b.expect, .int .i64 b.session, .int .i64 b.seq, .slice la b.events.length lk, .string st] _ (range_set (two_heapA (below_drewN HRG.out _))) Tryd.underlying30 rfl (by kernel_rfl) ?_)
        refine (CMZ.out _ ((two_below (below_drewN HRG.out _)).setCell (Nat.le_refl _) _)).mono ?_
        rintro r w8 ⟨v8, rfl, -, hm8, hb8⟩
        have hm := hm8 z rfl
        have HM := Lib.hid hm
        obtain ⟨T8, p8, F8, rfl, hmt, hcf, hc⟩ := hasKind hm
        have HB8 := Lib.hid (bstep ((two_below (below_drewN HRG.out _)).setCell (Nat.le_refl _) _) hb8)
        clear hm hmt hcf hc hm8 hb8 a0 b0 cz fz
        go_wp2_with fail
        refine (CPZ.out _ _ _ HM.out (Nat.le_refl _) HB8.out).mono ?_
        rintro r w9 ⟨rfl, hb9⟩
        go_wp2_with fail
        refine (CRZ.out _ _ _ (HM.out.keep hb9 (Nat.le_refl _)) hb9.size (bstep HB8.out hb9)).mono ?_
        rintro r w10 ⟨rfl, hb10⟩
        go_wp2_with fail
        go_ret
        exact ⟨rfl, bstep (bstep HB8.out hb9) hb10⟩

theorem walkMessageKinds (v u : Value) (d : DW) (s : DS) (e : DW) (f : DS) (W : World) (hv : v = .agg (d.cells s).toArray) (hu : u = .agg (e.cells f).toArray) (h : DOk W.heap.size W d s) (hy : DOk W.heap.size W e f) (hsz : SizeD d) (hsy : SizeD e) (hT : Tabs W) :
    Calls Tryd.prog 5 #[v, u] W fun r w' => r = .returned (.bool true) ∧ Below W.heap.size W w' := by
  obtain ⟨ca, ck, sa, sk, ba, bk, ma, mc, ea, ec, va, vk, la, lk, rfl⟩ := h.forms
  obtain ⟨yca, yck, ysa, ysk, yba, ybk, yma, ymc, yea, yec, yva, yvk, yla, ylk, rfl⟩ := hy.forms
  obtain ⟨k, n0, n1, n2, n3, n4, n5, ch, si, bo, mk, en, ev, b, st⟩ := d
  obtain ⟨yk, yn0, yn1, yn2, yn3, yn4, yn5, ych, ysi, ybo, ymk, yen, yev, yb, yst⟩ := e
  subst hv hu
  exact kinds_lit k n0 n1 n2 n3 n4 n5 ch si bo mk en ev b st ca sa ba ma ea va la ck sk bk mc ec vk lk yk yn0 yn1 yn2 yn3 yn4 yn5 ych ysi ybo ymk yen yev yb yst yca ysa yba yma yea yva yla yck ysk ybk ymc yec yvk ylk W h hy hsz hsy hT _ _ rfl rfl
end Go.Proofs.YtflojipkgaocnaaDoor
