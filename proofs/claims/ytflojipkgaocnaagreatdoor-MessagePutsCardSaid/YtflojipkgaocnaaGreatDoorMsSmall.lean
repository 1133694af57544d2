/-
  The walk of bucketlinelaw7.small. Printed by gen_mssmall.py of this claim's writer.
-/
import Derived.Test.YtflojipkgaocnaaGreatDoorMsOpen
import Derived.BigQuiet
import Derived.IntWalk
import Derived.Deep.QuietTactic
namespace Go.Proofs.YtflojipkgaocnaaGreatDoor
open Go.RowKit
set_option linter.unusedSimpArgs false
set_option linter.unusedVariables false

/-- What small asks of an entry. -/
def EntS (x : EN) (n : Nat) : Prop := x.b.stream.size ≤ n ∧ ∀ j, (h : j < x.b.events.length) → j < 30 → x.b.events[j].kind.size ≤ n ∧ x.b.events[j].data.size ≤ n
theorem EntS.up {x : EN} {n m : Nat} (h : EntS x n) (hm : n ≤ m) : EntS x m := ⟨Nat.le_trans h.1 hm, fun j hj h3 => ⟨Nat.le_trans (h.2 j hj h3).1 hm, Nat.le_trans (h.2 j hj h3).2 hm⟩⟩
structure SmallD (d : DW) : Prop where
  c : d.chain.length ≤ 40
  i : d.since.length ≤ 40
  o : d.boot.length ≤ 40
  m : d.marks.length ≤ 60
  e : d.entries.length ≤ 20
  v : d.events.length ≤ 40
  s : d.stream.size ≤ 300
  bs : d.b.stream.size ≤ 300
  bn : d.b.events.length ≤ 20
  es : ∀ x ∈ d.entries, x.b.stream.size < 20000 ∧ ∀ j, (h : j < x.b.events.length) → j < 30 → x.b.events[j].kind.size < 20000 ∧ x.b.events[j].data.size < 20000
  vs : ∀ x ∈ d.events, x.kind.size < 20000 ∧ x.data.size < 20000
  be : ∀ x ∈ d.b.events, x.kind.size < 20000 ∧ x.data.size < 20000
def SomeB7 (P : Prop) (w : World) (e : Ending) (w' : World) : Prop := ∃ b : Bool, e = .returned (.bool b) ∧ (b = true → P) ∧ Below w.heap.size w w'
theorem box19 {w W : World} {cs : Array Value} {t : TypeId} (hb : Below (w.heap.size + 1) (w.alloc (.cells cs t)) W) (j : Nat) (v : Value) (h : cs[j]? = some v) : W.cell? ⟨w.heap.size, j, none⟩ = some v :=
  (hb.cell (p := ⟨w.heap.size, j, none⟩) (by simp)).trans (by rw [World.cell?_alloc_new]; exact h)

set_option maxRecDepth 100000 in
set_option maxHeartbeats 12800000 in
theorem small_lit (B : Nat) (k n0 n1 n2 n3 n4 n5 : Int) (ch si bo : List Int) (mk : List (Int × Int)) (en : List EN) (ev : List EV) (b : BW) (st : ByteArray) (ca sa ba ma ea va la : Option Addr) (ck sk bk mc ec vk lk : Nat) (w : World) (h : DOk B w ⟨k, n0, n1, n2, n3, n4, n5, ch, si, bo, mk, en, ev, b, st⟩ ⟨.slice ca ch.length ck, .slice sa si.length sk, .slice ba bo.length bk, .slice ma mk.length mc, .slice ea en.length ec, .slice va ev.length vk, .slice la b.events.length lk⟩) (hB : B ≤ w.heap.size) (hs : SizeD ⟨k, n0, n1, n2, n3, n4, n5, ch, si, bo, mk, en, ev, b, st⟩) :
    Calls Tryz.prog 5 #[.agg #[.int .i64 k, .int .i64 n0, .int .i64 n1, .int .i64 n2, .int .i64 n3, .int .i64 n4, .int .i64 n5, .slice ca ch.length ck, .slice sa si.length sk, .slice ba bo.length bk, .slice ma mk.length mc, .slice ea en.length ec, .slice va ev.length vk, .string b.stream, .int .i64 b.expect, .int .i64 b.session, .int .i64 b.seq, .slice la b.events.length lk, .string st]] w (SomeB7 (SmallD ⟨k, n0, n1, n2, n3, n4, n5, ch, si, bo, mk, en, ev, b, st⟩) w) := by
  have HOK := Lib.hid h
  have HS := Lib.hid hs
  have HSE := Lib.hid hs.v
  have HSB := Lib.hid hs.b.2
  have HB := Lib.hid (bx_new (w := w) (.cells #[.int .i64 k, .int .i64 n0, .int .i64 n1, .int .i64 n2, .int .i64 n3, .int .i64 n4, .int .i64 n5, .slice ca ch.length ck, .slice sa si.length sk, .slice ba bo.length bk, .slice ma mk.length mc, .slice ea en.length ec, .slice va ev.length vk, .string b.stream, .int .i64 b.expect, .int .i64 b.session, .int .i64 b.seq, .slice la b.events.length lk, .string st] 30))
  clear h hs
  by_cases c0 : 40 < ch.length
  · have g0 : (40 : Int) < (ch.length : Int) := by omega
    go_enter Tryz.func5, Tryz.ntmps5
    go_wp2_with fail
    go_ret
    exact ⟨false, rfl, (fun e => by cases e), bx_below HB.out⟩
  have g0 : ¬ (40 : Int) < (ch.length : Int) := by omega
  by_cases c1 : 40 < si.length
  · have g1 : (40 : Int) < (si.length : Int) := by omega
    go_enter Tryz.func5, Tryz.ntmps5
    go_wp2_with fail
    go_ret
    exact ⟨false, rfl, (fun e => by cases e), bx_below HB.out⟩
  have g1 : ¬ (40 : Int) < (si.length : Int) := by omega
  by_cases c2 : 40 < bo.length
  · have g2 : (40 : Int) < (bo.length : Int) := by omega
    go_enter Tryz.func5, Tryz.ntmps5
    go_wp2_with fail
    go_ret
    exact ⟨false, rfl, (fun e => by cases e), bx_below HB.out⟩
  have g2 : ¬ (40 : Int) < (bo.length : Int) := by omega
  by_cases c3 : 60 < mk.length
  · have g3 : (60 : Int) < (mk.length : Int) := by omega
    go_enter Tryz.func5, Tryz.ntmps5
    go_wp2_with fail
    go_ret
    exact ⟨false, rfl, (fun e => by cases e), bx_below HB.out⟩
  have g3 : ¬ (60 : Int) < (mk.length : Int) := by omega
  by_cases c4 : 20 < en.length
  · have g4 : (20 : Int) < (en.length : Int) := by omega
    go_enter Tryz.func5, Tryz.ntmps5
    go_wp2_with fail
    go_ret
    exact ⟨false, rfl, (fun e => by cases e), bx_below HB.out⟩
  have g4 : ¬ (20 : Int) < (en.length : Int) := by omega
  by_cases c5 : 40 < ev.length
  · have g5 : (40 : Int) < (ev.length : Int) := by omega
    go_enter Tryz.func5, Tryz.ntmps5
    go_wp2_with fail
    go_ret
    exact ⟨false, rfl, (fun e => by cases e), bx_below HB.out⟩
  have g5 : ¬ (40 : Int) < (ev.length : Int) := by omega
  by_cases c6 : 300 < st.size
  · have g6 : (300 : Int) < (st.size : Int) := by omega
    go_enter Tryz.func5, Tryz.ntmps5
    go_wp2_with fail
    go_ret
    exact ⟨false, rfl, (fun e => by cases e), bx_below HB.out⟩
  have g6 : ¬ (300 : Int) < (st.size : Int) := by omega
  by_cases c7 : 300 < b.stream.size
  · have g7 : (300 : Int) < (b.stream.size : Int) := by omega
    go_enter Tryz.func5, Tryz.ntmps5
    go_wp2_with fail
    go_ret
    exact ⟨false, rfl, (fun e => by cases e), bx_below HB.out⟩
  have g7 : ¬ (300 : Int) < (b.stream.size : Int) := by omega
  by_cases c8 : 20 < b.events.length
  · have g8 : (20 : Int) < (b.events.length : Int) := by omega
    go_enter Tryz.func5, Tryz.ntmps5
    go_wp2_with fail
    go_ret
    exact ⟨false, rfl, (fun e => by cases e), bx_below HB.out⟩
  have g8 : ¬ (20 : Int) < (b.events.length : Int) := by omega
  go_enter Tryz.func5, Tryz.ntmps5
  go_wp2_with fail
  have y11 := box19 HB.out 11 _ rfl
  have y12 := box19 HB.out 12 _ rfl
  have y17 := box19 HB.out 17 _ rfl
  go_loopw [3, 4, 5] (fun t3 t4 _ wr => ∃ i n : Nat, i ≤ en.length ∧ t4 = .int .i64 i ∧ t3 = .int .i64 n ∧ n ≤ i * 8584986789425152 ∧ (∀ a, (ha : a < en.length) → a < i → EntS en[a] n) ∧ Below (w.heap.size + 1) (w.alloc (.cells #[.int .i64 k, .int .i64 n0, .int .i64 n1, .int .i64 n2, .int .i64 n3, .int .i64 n4, .int .i64 n5, .slice ca ch.length ck, .slice sa si.length sk, .slice ba bo.length bk, .slice ma mk.length mc, .slice ea en.length ec, .slice va ev.length vk, .string b.stream, .int .i64 b.expect, .int .i64 b.session, .int .i64 b.seq, .slice la b.events.length lk, .string st] 30)) wr) (fun _ t4 _ _ => en.length - (intOf t4).toNat)
  case atStart => exact ⟨0, 0, Nat.zero_le _, rfl, rfl, by omega, fun a _ h => absurd h (by omega), HB.out⟩
  case round =>
    obtain ⟨i, n, hi, rfl, rfl, hn, hent, hb⟩ := hrel
    have HENT := Lib.hid hent
    have HB := Lib.hid hb
    clear hent hb y11 y12 y17
    have y11 := box19 HB.out 11 _ rfl
    have y12 := box19 HB.out 12 _ rfl
    have y17 := box19 HB.out 17 _ rfl
    by_cases hlt : i < en.length
    · obtain ⟨eb, eo, cap', he, hblk, _, c1, c2, c3, c4, c5, c6, xa, xc, c7, hev⟩ := (HOK.out.e.keep (bx_below HB.out) hB).get i hlt
      obtain ⟨rfl, -, rfl⟩ : ea = some ⟨eb, eo, none⟩ ∧ en.length = en.length ∧ ec = cap' := by injection he with e1 e2 e3; exact ⟨e1, e2, e3⟩
      clear he
      have hsz := HS.out.e en[i] (List.getElem_mem hlt)
      obtain ⟨x, hx⟩ : ∃ x, en[i] = x := ⟨_, rfl⟩
      simp only [hx] at c3 c7 hev hsz
      have HX := Lib.hid hx
      have HEV := Lib.hid hev
      have HSX := Lib.hid hsz.2
      have hs1 := hsz.1
      have hxm : x.b.events.length ≤ 9223372036854775807 := by obtain ⟨_, _, _, h1, h2, _⟩ := hev; unfold maxLen at h2; omega
      have i1 : (0 : Int) ≤ (i : Int) := by omega
      have i2 : (i : Int) < (en.length : Int) := by omega
      clear hx hev hsz c1 c2 c4 c5 c6
      go_wp2_with fail
      go_loopw [3, 5] (fun t3 t5 wi => ∃ kk m : Nat, kk ≤ x.b.events.length ∧ kk ≤ 30 ∧ t5 = .int .i64 kk ∧ t3 = .int .i64 m ∧ n + x.b.stream.size ≤ m ∧ m ≤ n + 140737488351232 + kk * 281474976702464 ∧ (∀ j, (h : j < x.b.events.length) → j < kk → x.b.events[j].kind.size ≤ m ∧ x.b.events[j].data.size ≤ m) ∧ Below (w.heap.size + 1) (w.alloc (.cells #[.int .i64 k, .int .i64 n0, .int .i64 n1, .int .i64 n2, .int .i64 n3, .int .i64 n4, .int .i64 n5, .slice ca ch.length ck, .slice sa si.length sk, .slice ba bo.length bk, .slice ma mk.length mc, .slice (some ⟨eb, eo, none⟩) en.length ec, .slice va ev.length vk, .string b.stream, .int .i64 b.expect, .int .i64 b.session, .int .i64 b.seq, .slice la b.events.length lk, .string st] 30)) wi) (fun _ t5 _ => x.b.events.length - (intOf t5).toNat)
      case atStart => exact ⟨0, n + x.b.stream.size, Nat.zero_le _, by omega, rfl, by go_num, Nat.le_refl _, by omega, fun j _ h => absurd h (by omega), HB.out⟩
      case round =>
        obtain ⟨kk, m, hkk, hk30, rfl, rfl, hm1, hm2, hno, hb⟩ := hrel
        have HNO := Lib.hid hno
        have HBI := Lib.hid hb
        clear hno hb y11 y12 y17 c3 c7
        have y11 := box19 HBI.out 11 _ rfl
        have y12 := box19 HBI.out 12 _ rfl
        have y17 := box19 HBI.out 17 _ rfl
        obtain ⟨eb', eo', cap'', he, hblk', _, c1, c2, c3, c4, c5, c6, xa', xc', c7, hev⟩ := (HOK.out.e.keep (bx_below HBI.out) hB).get i hlt
        obtain ⟨e1, -, rfl⟩ : (some ⟨eb, eo, none⟩ : Option Addr) = some ⟨eb', eo', none⟩ ∧ en.length = en.length ∧ ec = cap'' := by injection he with e1 e2 e3; exact ⟨e1, e2, e3⟩
        injection e1 with e1
        injection e1 with e1 e2 e3
        subst e1 e2
        simp only [HX.out] at c3 c7 hev
        have HEVI := Lib.hid hev
        clear he hev c1 c2 c4 c5 c6
        by_cases hlk : kk < x.b.events.length
        · by_cases hk3 : kk < 30
          · obtain ⟨bb, off, cap3, he, hblk3, _, d1, d2⟩ := HEVI.out.get kk hlk
            obtain ⟨rfl, -, rfl⟩ : xa' = some ⟨bb, off, none⟩ ∧ x.b.events.length = x.b.events.length ∧ xc' = cap3 := by injection he with e1 e2 e3; exact ⟨e1, e2, e3⟩
            clear he
            have hz := HSX.out _ (List.getElem_mem hlk)
            obtain ⟨z, hz0⟩ : ∃ z, x.b.events[kk] = z := ⟨_, rfl⟩
            rw [hz0] at d1 d2 hz
            obtain ⟨hz1, hz2⟩ := hz
            have HZ := Lib.hid hz0
            clear hz0
            have j1 : (0 : Int) ≤ (kk : Int) := by omega
            have j2 : (kk : Int) < (x.b.events.length : Int) := by omega
            have e1 : IntKind.i64.wrap ((m : Int) + (z.data.size : Int)) = (m : Int) + (z.data.size : Int) := by rw [IntKind.wrap_i64]; omega
            have e2 : IntKind.i64.wrap ((m : Int) + (z.data.size : Int) + (z.kind.size : Int)) = (m : Int) + (z.data.size : Int) + (z.kind.size : Int) := by rw [IntKind.wrap_i64]; omega
            go_wp2_with fail
            go_quiet (fail)
            clear e1 e2
            go_wp2_with fail
            go_roundw
            case rel =>
              refine ⟨kk + 1, m + z.data.size + z.kind.size, by omega, by omega, by go_num, by go_num, by omega, by omega, fun j hj hji => ?_, below_drewN HBI.out _⟩
              by_cases e : j = kk
              · subst e
                rw [HZ.out]
                omega
              · have := HNO.out j hj (by omega)
                omega
            case measure => simp [intOf]; omega
          · have g30 : ¬ (kk : Int) < 30 := by omega
            have j2 : (kk : Int) < (x.b.events.length : Int) := by omega
            go_wp2_with fail
            go_roundw
            case rel =>
              refine ⟨i + 1, m, by omega, by go_num, rfl, by omega, fun a ha hai => ?_, HBI.out⟩
              by_cases e : a = i
              · subst e
                rw [HX.out]
                exact ⟨by omega, fun j hj hj3 => HNO.out j hj (by omega)⟩
              · exact (HENT.out a ha (by omega)).up (by omega)
            case measure => simp [intOf]; omega
        · have gk : ¬ (kk : Int) < (x.b.events.length : Int) := by omega
          go_wp2_with fail
          go_roundw
          case rel =>
            refine ⟨i + 1, m, by omega, by go_num, rfl, by omega, fun a ha hai => ?_, HBI.out⟩
            by_cases e : a = i
            · subst e
              rw [HX.out]
              exact ⟨by omega, fun j hj hj3 => HNO.out j hj (by omega)⟩
            · exact (HENT.out a ha (by omega)).up (by omega)
          case measure => simp [intOf]; omega
    · have g : ¬ ((i : Int) < (en.length : Int)) := by omega
      have hii : i = en.length := by omega
      subst hii
      obtain ⟨N1, hN1⟩ : ∃ N1, N1 = n := ⟨_, rfl⟩
      subst hN1
      clear g
      go_wp2_with fail
      go_loopw [3, 6] (fun t3 t6 wr => ∃ i m : Nat, i ≤ ev.length ∧ t6 = .int .i64 i ∧ t3 = .int .i64 m ∧ N1 ≤ m ∧ m ≤ N1 + i * 281474976702464 ∧ (∀ j, (h : j < ev.length) → j < i → ev[j].kind.size ≤ m ∧ ev[j].data.size ≤ m) ∧ Below (w.heap.size + 1) (w.alloc (.cells #[.int .i64 k, .int .i64 n0, .int .i64 n1, .int .i64 n2, .int .i64 n3, .int .i64 n4, .int .i64 n5, .slice ca ch.length ck, .slice sa si.length sk, .slice ba bo.length bk, .slice ma mk.length mc, .slice ea en.length ec, .slice va ev.length vk, .string b.stream, .int .i64 b.expect, .int .i64 b.session, .int .i64 b.seq, .slice la b.events.length lk, .string st] 30)) wr) (fun _ t6 _ => ev.length - (intOf t6).toNat)
      case atStart => exact ⟨0, N1, Nat.zero_le _, rfl, rfl, Nat.le_refl _, by omega, fun j _ h => absurd h (by omega), HB.out⟩
      case round =>
        obtain ⟨i, m, hi, rfl, rfl, hm1, hm2, hno, hb⟩ := hrel
        have HNO := Lib.hid hno
        have HB := Lib.hid hb
        clear hno hb y11 y12 y17
        have y11 := box19 HB.out 11 _ rfl
        have y12 := box19 HB.out 12 _ rfl
        have y17 := box19 HB.out 17 _ rfl
        by_cases hlt : i < ev.length
        · obtain ⟨bb, off, cap', he, hblk, _, d1, d2⟩ := ((HOK.out.v).keep (bx_below HB.out) hB).get i hlt
          obtain ⟨rfl, -, rfl⟩ : va = some ⟨bb, off, none⟩ ∧ ev.length = ev.length ∧ vk = cap' := by injection he with e1 e2 e3; exact ⟨e1, e2, e3⟩
          clear he
          have hz := HSE.out _ (List.getElem_mem hlt)
          obtain ⟨z, hz0⟩ : ∃ z, ev[i] = z := ⟨_, rfl⟩
          rw [hz0] at d1 d2 hz
          obtain ⟨hz1, hz2⟩ := hz
          have HZ := Lib.hid hz0
          clear hz0
          have j1 : (0 : Int) ≤ (i : Int) := by omega
          have j2 : (i : Int) < (ev.length : Int) := by omega
          have e1 : IntKind.i64.wrap ((m : Int) + (z.kind.size : Int)) = (m : Int) + (z.kind.size : Int) := by rw [IntKind.wrap_i64]; omega
          have e2 : IntKind.i64.wrap ((m : Int) + (z.kind.size : Int) + (z.data.size : Int)) = (m : Int) + (z.kind.size : Int) + (z.data.size : Int) := by rw [IntKind.wrap_i64]; omega
          go_wp2_with fail
          go_quiet (fail)
          clear e1 e2
          go_wp2_with fail
          go_roundw
          case rel =>
            refine ⟨i + 1, m + z.kind.size + z.data.size, by omega, by go_num, by go_num, by omega, by omega, fun j hj hji => ?_, below_drewN HB.out _⟩
            by_cases e : j = i
            · subst e
              rw [HZ.out]
              omega
            · have := HNO.out j hj (by omega)
              omega
          case measure => simp [intOf]; omega
        · have g : ¬ ((i : Int) < (ev.length : Int)) := by omega
          have hii : i = ev.length := by omega
          subst hii
          have HEVE := HNO
          obtain ⟨N2, hN2⟩ : ∃ N2, N2 = m := ⟨_, rfl⟩
          subst hN2
          have hN2b : N2 ≤ N1 + ev.length * 281474976702464 := hm2
          have hN2c : N1 ≤ N2 := hm1
          clear hm1 hm2 HNO
          clear g
          go_wp2_with fail
          go_loopw [3, 7] (fun t3 t7 wr => ∃ i m : Nat, i ≤ b.events.length ∧ t7 = .int .i64 i ∧ t3 = .int .i64 m ∧ N2 ≤ m ∧ m ≤ N2 + i * 281474976702464 ∧ (∀ j, (h : j < b.events.length) → j < i → b.events[j].kind.size ≤ m ∧ b.events[j].data.size ≤ m) ∧ Below (w.heap.size + 1) (w.alloc (.cells #[.int .i64 k, .int .i64 n0, .int .i64 n1, .int .i64 n2, .int .i64 n3, .int .i64 n4, .int .i64 n5, .slice ca ch.length ck, .slice sa si.length sk, .slice ba bo.length bk, .slice ma mk.length mc, .slice ea en.length ec, .slice va ev.length vk, .string b.stream, .int .i64 b.expect, .int .i64 b.session, .int .i64 b.seq, .slice la b.events.length lk, .string st] 30)) wr) (fun _ t7 _ => b.events.length - (intOf t7).toNat)
          case atStart => exact ⟨0, N2, Nat.zero_le _, rfl, rfl, Nat.le_refl _, by omega, fun j _ h => absurd h (by omega), HB.out⟩
          case round =>
            obtain ⟨i, m, hi, rfl, rfl, hm1, hm2, hno, hb⟩ := hrel
            have HNO := Lib.hid hno
            have HB := Lib.hid hb
            clear hno hb y11 y12 y17
            have y11 := box19 HB.out 11 _ rfl
            have y12 := box19 HB.out 12 _ rfl
            have y17 := box19 HB.out 17 _ rfl
            by_cases hlt : i < b.events.length
            · obtain ⟨bb, off, cap', he, hblk, _, d1, d2⟩ := ((HOK.out.b).keep (bx_below HB.out) hB).get i hlt
              obtain ⟨rfl, -, rfl⟩ : la = some ⟨bb, off, none⟩ ∧ b.events.length = b.events.length ∧ lk = cap' := by injection he with e1 e2 e3; exact ⟨e1, e2, e3⟩
              clear he
              have hz := HSB.out _ (List.getElem_mem hlt)
              obtain ⟨z, hz0⟩ : ∃ z, b.events[i] = z := ⟨_, rfl⟩
              rw [hz0] at d1 d2 hz
              obtain ⟨hz1, hz2⟩ := hz
              have HZ := Lib.hid hz0
              clear hz0
              have j1 : (0 : Int) ≤ (i : Int) := by omega
              have j2 : (i : Int) < (b.events.length : Int) := by omega
              have e1 : IntKind.i64.wrap ((m : Int) + (z.kind.size : Int)) = (m : Int) + (z.kind.size : Int) := by rw [IntKind.wrap_i64]; omega
              have e2 : IntKind.i64.wrap ((m : Int) + (z.kind.size : Int) + (z.data.size : Int)) = (m : Int) + (z.kind.size : Int) + (z.data.size : Int) := by rw [IntKind.wrap_i64]; omega
              go_wp2_with fail
              go_quiet (fail)
              clear e1 e2
              go_wp2_with fail
              go_roundw
              case rel =>
                refine ⟨i + 1, m + z.kind.size + z.data.size, by omega, by go_num, by go_num, by omega, by omega, fun j hj hji => ?_, below_drewN HB.out _⟩
                by_cases e : j = i
                · subst e
                  rw [HZ.out]
                  omega
                · have := HNO.out j hj (by omega)
                  omega
              case measure => simp [intOf]; omega
            · have g : ¬ ((i : Int) < (b.events.length : Int)) := by omega
              have hii : i = b.events.length := by omega
              subst hii
              clear g
              go_wp2_with fail
              go_ret
              refine ⟨_, rfl, fun hlt => ?_, bx_below HB.out⟩
              have h20 : m < 20000 := by have := hlt; simp only [decide_eq_true_eq] at this; omega
              exact ⟨show ch.length ≤ 40 by omega, show si.length ≤ 40 by omega, show bo.length ≤ 40 by omega, show mk.length ≤ 60 by omega, show en.length ≤ 20 by omega, show ev.length ≤ 40 by omega, show st.size ≤ 300 by omega, show b.stream.size ≤ 300 by omega, show b.events.length ≤ 20 by omega,
                fun x hx => by
                  obtain ⟨i, hi, rfl⟩ := List.getElem_of_mem hx
                  have h1 := HENT.out i hi hi
                  exact ⟨Nat.lt_of_le_of_lt h1.1 (by omega), fun j hj hj30 => ⟨Nat.lt_of_le_of_lt (h1.2 j hj hj30).1 (by omega), Nat.lt_of_le_of_lt (h1.2 j hj hj30).2 (by omega)⟩⟩,
                fun x hx => by
                  obtain ⟨i, hi, rfl⟩ := List.getElem_of_mem hx
                  have h1 := HEVE.out i hi hi
                  exact ⟨Nat.lt_of_le_of_lt h1.1 (by omega), Nat.lt_of_le_of_lt h1.2 (by omega)⟩,
                fun x hx => by
                  obtain ⟨i, hi, rfl⟩ := List.getElem_of_mem hx
                  have h1 := HNO.out i hi hi
                  exact ⟨Nat.lt_of_le_of_lt h1.1 (by omega), Nat.lt_of_le_of_lt h1.2 (by omega)⟩⟩

theorem small_any (B : Nat) (v : Value) (d : DW) (s : DS) (w : World) (hv : v = .agg (d.cells s).toArray) (h : DOk B w d s) (hB : B ≤ w.heap.size) (hs : SizeD d) :
    Calls Tryz.prog 5 #[v] w (SomeB7 (SmallD d) w) := by
  obtain ⟨ca, ck, sa, sk, ba, bk, ma, mc, ea, ec, va, vk, la, lk, rfl⟩ := h.forms
  obtain ⟨k, n0, n1, n2, n3, n4, n5, ch, si, bo, mk, en, ev, b, st⟩ := d
  subst hv
  exact small_lit B k n0 n1 n2 n3 n4 n5 ch si bo mk en ev b st ca sa ba ma ea va la ck sk bk mc ec vk lk w h hB hs
end Go.Proofs.YtflojipkgaocnaaGreatDoor
