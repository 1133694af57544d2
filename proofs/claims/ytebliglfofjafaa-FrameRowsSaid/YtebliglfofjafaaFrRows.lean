/-
  The walks over rows of frames: small, same, Row, the references' Row and Scan.
-/
import Derived.Test.YtebliglfofjafaaFrWalk
import Derived.Test.YtebliglfofjafaaFrPlain2
import Derived.Test.YtebliglfofjafaaBuild
import Derived.Test.YtebliglfofjafaaArgs
namespace Go.Proofs.Ytebliglfofjafaa
open Go.RowKit

def lists (ss : List ByteArray) : List (List UInt8) := ss.map (fun s => s.data.toList)
theorem lists_take (ss : List ByteArray) (k : Nat) : lists (ss.take k) = (lists ss).take k := by simp [lists]
theorem lists_append (a b : List ByteArray) : lists (a ++ b) = lists a ++ lists b := by simp [lists]

theorem IsStrs.below {w w' : World} {v : Value} {ss : List ByteArray} (hb : Below w.heap.size w w') (h : IsStrs w v ss) : IsStrs w' v ss := by
  obtain ⟨a, cap, rfl, h1, h2, h3⟩ := h
  refine ⟨a, cap, rfl, h1, h2, fun hp => ?_⟩
  obtain ⟨b, off, rfl, hlt, hc⟩ := h3 hp
  exact ⟨b, off, rfl, Nat.lt_of_lt_of_le hlt hb.size, fun i hi => by rw [hb.cell (p := ⟨b, off + i, none⟩) hlt]; exact hc i hi⟩

theorem IsStrs.at_ {w : World} {a : Option Addr} {cap : Nat} {n : Nat} {ss : List ByteArray} (h : IsStrs w (.slice a n cap) ss) : n = ss.length ∧ (∀ s ∈ ss, s.size ≤ maxLen) ∧ ss.length ≤ maxLen ∧
    (0 < ss.length → ∃ b off, a = some ⟨b, off, none⟩ ∧ b < w.heap.size ∧ ∀ i, (h : i < ss.length) → w.cell? ⟨b, off + i, none⟩ = some (.string ss[i])) := by
  obtain ⟨a', cap', he, h1, h2, h3⟩ := h
  injection he with e1 e2 e3
  subst e1 e2 e3
  exact ⟨rfl, h1, h2, h3⟩

/-- Can payloads be gone through? -/
def SmallP (ss : List ByteArray) : Prop := ss.length ≤ 30 ∧ ∀ i, (h : i < ss.length) → ss[i].size ≤ 8500 ∧ (3 < i → ss[i].size ≤ 300)
def BoolIs (p : Prop) (w : World) (e : Ending) (w' : World) : Prop := ∃ b : Bool, e = .returned (.bool b) ∧ (b = true ↔ p) ∧ w = w'
def BoolIsD (p : Prop) (w : World) (e : Ending) (w' : World) : Prop := ∃ b : Bool, e = .returned (.bool b) ∧ (b = true ↔ p) ∧ ∃ n, w' = w.drewN n

set_option maxHeartbeats 800000 in
theorem small_any (v : Value) (ss : List ByteArray) (w : World) (hv : IsStrs w v ss) :
    Calls Try.prog 10 #[v] w (BoolIs (SmallP ss) w) := by
  obtain ⟨a, cap, rfl, hsz, hlen, hcell⟩ := hv
  have hm := hlen
  unfold maxLen at hm
  have Hcell := Lib.hid hcell
  clear hcell
  by_cases h30 : 30 < ss.length
  · go_enter Try.func10, Try.ntmps10
    go_wp2_with fail
    go_ret
    exact ⟨false, rfl, ⟨fun h => by simp at h, fun h => by have := h.1; omega⟩, rfl⟩
  · go_enter Try.func10, Try.ntmps10
    go_wp2_with fail
    go_loop [3] (fun t3 => ∃ k : Nat, k ≤ ss.length ∧ t3 = .int .i64 k ∧ (∀ i, (h : i < ss.length) → i < k → ss[i].size ≤ 8500 ∧ (3 < i → ss[i].size ≤ 300))) (fun i => ss.length - (intOf i).toNat)
    case atStart => exact ⟨0, Nat.zero_le _, rfl, fun i _ h => absurd h (by omega)⟩
    case round =>
      obtain ⟨k, hk, rfl, hok⟩ := hrel
      have Hok := Lib.hid hok
      clear hok
      by_cases hlt : k < ss.length
      · obtain ⟨b, off, rfl, hblk, hc⟩ := Hcell.out (by omega)
        obtain ⟨s, hse⟩ : ∃ s, ss[k] = s := ⟨_, rfl⟩
        have hc1 := hc k hlt
        rw [hse] at hc1
        have Hse := Lib.hid hse
        clear hc hse
        have i1 : (0 : Int) ≤ (k : Int) := by omega
        by_cases hbig : 8500 < s.size
        · go_wp2_with fail
          go_ret
          exact ⟨false, rfl, ⟨fun h => by simp at h, fun h => by have := (h.2 k hlt).1; rw [Hse.out] at this; omega⟩, rfl⟩
        · by_cases h3 : 3 < k
          · by_cases h300 : 300 < s.size
            · go_wp2_with fail
              go_ret
              exact ⟨false, rfl, ⟨fun h => by simp at h, fun h => by have := (h.2 k hlt).2 h3; rw [Hse.out] at this; omega⟩, rfl⟩
            · go_wp2_with fail
              go_round
              case rel =>
                refine ⟨k + 1, by omega, by go_num, fun i hi hik => ?_⟩
                by_cases e : i = k
                · subst e; rw [Hse.out]; exact ⟨by omega, fun _ => by omega⟩
                · exact Hok.out i hi (by omega)
              case measure => simp [intOf]; omega
          · go_wp2_with fail
            go_round
            case rel =>
              refine ⟨k + 1, by omega, by go_num, fun i hi hik => ?_⟩
              by_cases e : i = k
              · subst e; rw [Hse.out]; exact ⟨by omega, fun h => absurd h h3⟩
              · exact Hok.out i hi (by omega)
            case measure => simp [intOf]; omega
      · go_wp2_with fail
        go_ret
        exact ⟨true, rfl, ⟨fun _ => ⟨by omega, fun i hi => Hok.out i hi (by omega)⟩, fun _ => rfl⟩, rfl⟩

set_option maxHeartbeats 1600000 in
theorem same_any (v1 v2 : Value) (xs ys : List ByteArray) (w : World) (h1 : IsStrs w v1 xs) (h2 : IsStrs w v2 ys) :
    Calls Try.prog 19 #[v1, v2] w (BoolIsD (xs = ys) w) := by
  obtain ⟨a, cap, rfl, hsz, hlen, hcell⟩ := h1
  obtain ⟨a2, cap2, rfl, hsz2, hlen2, hcell2⟩ := h2
  have hm := hlen
  have hm2 := hlen2
  unfold maxLen at hm hm2
  have Hcell := Lib.hid hcell
  have Hcell2 := Lib.hid hcell2
  clear hcell hcell2
  by_cases hl : xs.length = ys.length
  · have g0 : ((xs.length : Int) != (ys.length : Int)) = false := by rw [bne_eq_false_iff_eq]; omega
    have Hl := Lib.hid hl
    clear hl
    go_enter Try.func19, Try.ntmps19
    go_wp2_with fail
    go_loopw [5] (fun t5 wr => ∃ k : Nat, k ≤ xs.length ∧ t5 = .int .i64 k ∧ xs.take k = ys.take k ∧ ∃ n, wr = w.drewN n) (fun i _ => xs.length - (intOf i).toNat)
    case atStart => exact ⟨0, Nat.zero_le _, rfl, rfl, 0, rfl⟩
    case round =>
      obtain ⟨k, hk, rfl, hok, nd, rfl⟩ := hrel
      have Hok := Lib.hid hok
      clear hok
      by_cases hlt : k < xs.length
      · obtain ⟨b, off, rfl, hblk, hc⟩ := Hcell.out (by omega)
        obtain ⟨b2, off2, rfl, hblk2, hc2⟩ := Hcell2.out (by have := Hl.out; omega)
        have hlt2 : k < ys.length := by have := Hl.out; omega
        obtain ⟨s, hse⟩ : ∃ s, xs[k] = s := ⟨_, rfl⟩
        obtain ⟨t, hte⟩ : ∃ t, ys[k] = t := ⟨_, rfl⟩
        have hc1 := hc k hlt
        rw [hse] at hc1
        have hc3 := hc2 k hlt2
        rw [hte] at hc3
        have Hse := Lib.hid hse
        have Hte := Lib.hid hte
        clear hc hc2 hse hte
        have i1 : (0 : Int) ≤ (k : Int) := by omega
        have i2 : (k : Int) < (xs.length : Int) := by omega
        have i3 : (k : Int) < (ys.length : Int) := by omega
        by_cases hst : s = t
        · have gs : (s.toList == t.toList) = true := by rw [hst]; simp
          have Hst := Lib.hid hst
          clear hst
          go_wp2_with fail
          go_quiet (fail)
          go_wp2_with fail
          go_roundw
          case rel =>
            refine ⟨k + 1, by omega, by go_num, ?_, _, rfl⟩
            rw [List.take_succ_eq_append_getElem hlt, List.take_succ_eq_append_getElem hlt2, Hok.out, Hse.out, Hte.out, Hst.out]
          case measure => simp [intOf]; omega
        · have gs : (s.toList == t.toList) = false := by
            rw [beq_eq_false_iff_ne]; intro e
            rw [ByteArray.toList_eq, ByteArray.toList_eq] at e
            exact hst (ext_list e)
          go_wp2_with fail
          go_quiet (fail)
          go_wp2_with fail
          go_ret
          refine ⟨false, rfl, ⟨fun h => by simp at h, fun h => ?_⟩, ⟨_, World.drewN_drewN _ _ _⟩⟩
          exfalso
          have e1 : xs[k] = ys[k] := by simp [h]
          rw [Hse.out, Hte.out] at e1
          exact hst e1
      · go_wp2_with fail
        go_ret
        refine ⟨true, rfl, ⟨fun _ => ?_, fun _ => rfl⟩, _, rfl⟩
        have h1 := Hok.out
        have h2 := Hl.out
        rw [List.take_of_length_le (by omega), List.take_of_length_le (by omega)] at h1
        exact h1
  · have g0 : ((xs.length : Int) != (ys.length : Int)) = true := by rw [bne_iff_ne]; omega
    go_enter Try.func19, Try.ntmps19
    go_wp2_with fail
    go_ret
    exact ⟨false, rfl, ⟨fun h => by simp at h, fun h => absurd (congrArg List.length h) hl⟩, 0, rfl⟩

/-- What a row of payloads comes to. -/
def RowIs (ss : List ByteArray) (w : World) (e : Ending) (w' : World) : Prop :=
  e = .returned (.tuple #[.string (bstr (rowFr (lists ss)).1), .int .i64 ((rowFr (lists ss)).2 : Int)]) ∧ Below w.heap.size w w'

theorem lists_split (ss : List ByteArray) (k : Nat) (h : k < ss.length) (s : ByteArray) (hs : ss[k] = s) : lists ss = lists (ss.take k) ++ s.data.toList :: lists (ss.drop (k + 1)) := by
  conv => lhs; rw [← List.take_append_drop k ss, List.drop_eq_getElem_cons h, hs]
  rw [lists_append]
  rfl

theorem rowLen_bound : ∀ (l : List (List UInt8)), (∀ p ∈ l, fits p) → rowLen l ≤ 8008 * l.length
  | [], _ => by simp [rowLen]
  | p :: l, h => by
    have h1 := rowLen_bound l (fun q hq => h q (List.mem_cons_of_mem _ hq))
    have h2 := (h p List.mem_cons_self).2
    rw [rowLen, List.length_cons]
    omega

set_option maxRecDepth 100000 in
set_option maxHeartbeats 1600000 in
theorem row_any (v : Value) (ss : List ByteArray) (w : World) (hv : IsStrs w v ss) (hmany : ss.length ≤ 1000) :
    Calls Try.prog 13 #[v] w (RowIs ss w) := by
  obtain ⟨a, cap, rfl, hsz, hlen, hcell⟩ := hv
  have Hcell := Lib.hid hcell
  have Hsz := Lib.hid hsz
  clear hcell hlen hsz
  have hnew := builder_new w
  have hbel0 : Below w.heap.size w (w.alloc (.cells #[.pointer none, .slice none 0 0] 45)) := (Below.refl _ _).alloc (Nat.le_refl _) _
  go_enter Try.func13, Try.ntmps13
  go_wp2_with fail
  go_loopw [6, 7, 8, 11] (fun _ _ _ t11 wr => ∃ k : Nat, k ≤ ss.length ∧ t11 = .int .i64 k ∧ (∀ p ∈ lists (ss.take k), fits p) ∧ Lib.IsBuilder 45 5 w.heap.size w.heap.size (bcells (rowBytes (lists (ss.take k)))) wr ∧ Below w.heap.size w wr) (fun _ _ _ i _ => ss.length - (intOf i).toNat)
  case atStart => exact ⟨0, Nat.zero_le _, rfl, fun p hp => by simp [lists] at hp, by rw [List.take_zero]; exact hnew, hbel0⟩
  case round =>
    clear hnew hbel0
    obtain ⟨k, hk, rfl, hfit, hbd, hb⟩ := hrel
    have Hfit := Lib.hid hfit
    have Hbd := Lib.hid hbd
    clear hfit hbd
    by_cases hlt : k < ss.length
    · obtain ⟨bl, off, rfl, hblk, hcells⟩ := Hcell.out (by omega)
      obtain ⟨s, hse⟩ : ∃ s, ss[k] = s := ⟨_, rfl⟩
      have hc1 : wr.cell? ⟨bl, off + k, none⟩ = some (.string s) := by rw [hb.cell (p := ⟨bl, off + k, none⟩) hblk, hcells k hlt, hse]
      have hs1 : s.size ≤ maxLen := Hsz.out s (by rw [← hse]; exact List.getElem_mem hlt)
      have hsp := lists_split ss k hlt s hse
      have htk : lists (ss.take (k + 1)) = lists (ss.take k) ++ [s.data.toList] := by
        rw [List.take_succ_eq_append_getElem hlt, hse, lists_append]; rfl
      have Htk := Lib.hid htk
      have Hsp := Lib.hid hsp
      clear hcells hse hsp htk
      have i1 : (0 : Int) ≤ (k : Int) := by omega
      by_cases hf : fits s.data.toList
      · obtain ⟨q, hq⟩ : ∃ q : ByteArray, q.data.toList = frame s.data.toList := ⟨bstr _, rfl⟩
        have hp := frPut_str s q 0 (by rw [putFr_fits hf, hq]) hs1 wr
        have hql : q.size = 8 + s.data.toList.length := by have := congrArg List.length hq; rw [frame_len] at this; simpa using this
        have hrl := rowLen_bound _ Hfit.out
        rw [show (lists (ss.take k)).length = k by simp [lists]; omega] at hrl
        have hrb : (rowBytes (lists (ss.take k))).length ≤ 8008 * k := by rw [rowBytes_len]; exact hrl
        have hs8 := hf.2
        have Hp := Lib.hid hp
        have Hq := Lib.hid hq
        have Hql := Lib.hid hql
        have Hrb := Lib.hid hrb
        clear hp hq hrl hql hrb
        go_wp2_with fail
        refine Hp.out.mono ?_
        rintro e w2 ⟨rfl, h2⟩
        have hb2 := bstep hb h2
        have hwr := writeString_any w.heap.size w.heap.size _ q w2 (builder_below h2 Hbd.out) (by have := Hrb.out; have := Hql.out; omega) hb2.size
        have Hwr := Lib.hid hwr
        clear hwr
        go_wp2_with fail
        refine Hwr.out.mono ?_
        rintro e w3 ⟨rfl, h3, h4⟩
        go_wp2_with fail
        go_roundw
        case rel =>
          refine ⟨k + 1, by omega, by go_num, ?_, ?_, hb2.trans h4⟩
          · rw [Htk.out]
            intro p hp
            rcases List.mem_append.1 hp with hp | hp
            · exact Hfit.out p hp
            · rw [List.mem_singleton.1 hp]; exact hf
          · rw [Htk.out, rowBytes_snoc, ← Hq.out]; exact h3
        case measure => simp [intOf]; omega
      · have hbad := putFr_bad hf
        have hp := frPut_str s ⟨#[]⟩ (putFr s.data.toList).2 (by
          conv => lhs; rw [show putFr s.data.toList = ((putFr s.data.toList).1, (putFr s.data.toList).2) from rfl, hbad.1]) hs1 wr
        have hrow : rowFr (lists ss) = ([], (putFr s.data.toList).2) := by rw [Hsp.out]; exact rowFr_bad _ _ _ Hfit.out hf
        have hbad2 := hbad.2
        generalize (putFr s.data.toList).2 = er at hp hrow hbad2
        have ge : ((er : Int) != 0) = true := by rw [bne_iff_ne]; omega
        have Hp := Lib.hid hp
        have Hrow := Lib.hid hrow
        clear hp hrow hbad hbad2
        go_wp2_with fail
        refine Hp.out.mono ?_
        rintro e w2 ⟨rfl, h2⟩
        go_wp2_with fail
        go_ret2
        refine ⟨?_, bstep hb h2⟩
        rw [Hrow.out]
        rfl
    · have hk2 : k = ss.length := by omega
      subst hk2
      rw [List.take_length] at Hfit Hbd
      have hrow := rowFr_all _ Hfit.out
      have hst := builder_string w.heap.size w.heap.size _ wr Hbd.out hb.size
      have Hst := Lib.hid hst
      have Hrow := Lib.hid hrow
      clear hst hrow
      go_wp2_with fail
      refine Hst.out.mono ?_
      rintro e w2 ⟨rfl, h2⟩
      go_wp2_with fail
      go_ret2
      refine ⟨?_, hb.trans h2⟩
      rw [Hrow.out]
      rfl

set_option maxRecDepth 100000 in
set_option maxHeartbeats 1600000 in
theorem refRow_any (v : Value) (ss : List ByteArray) (w : World) (hv : IsStrs w v ss) (hmany : ss.length ≤ 1000) :
    Calls Try.prog 14 #[v] w (RowIs ss w) := by
  obtain ⟨a, cap, rfl, hsz, hlen, hcell⟩ := hv
  have Hcell := Lib.hid hcell
  have Hsz := Lib.hid hsz
  clear hcell hlen hsz
  go_enter Try.func14, Try.ntmps14
  go_wp2_with fail
  go_loopw [4, 5, 6, 7] (fun t4 t5 _ _ wr => ∃ k : Nat, k ≤ ss.length ∧ t5 = .int .i64 k ∧ (∀ p ∈ lists (ss.take k), fits p) ∧ (∃ b : ByteArray, b.data.toList = rowBytes (lists (ss.take k)) ∧ t4 = .string b) ∧ Below w.heap.size w wr) (fun _ i _ _ _ => ss.length - (intOf i).toNat)
  case atStart => exact ⟨0, Nat.zero_le _, rfl, fun p hp => by simp [lists] at hp, ⟨_, by simp [lists, rowBytes], rfl⟩, Below.refl _ _⟩
  case round =>
    obtain ⟨k, hk, rfl, hfit, ⟨b, hbl, rfl⟩, hb⟩ := hrel
    have Hfit := Lib.hid hfit
    have Hbl := Lib.hid hbl
    clear hfit hbl
    by_cases hlt : k < ss.length
    · obtain ⟨bl, off, rfl, hblk, hcells⟩ := Hcell.out (by omega)
      obtain ⟨s, hse⟩ : ∃ s, ss[k] = s := ⟨_, rfl⟩
      have hc1 : wr.cell? ⟨bl, off + k, none⟩ = some (.string s) := by rw [hb.cell (p := ⟨bl, off + k, none⟩) hblk, hcells k hlt, hse]
      have hs1 : s.size ≤ maxLen := Hsz.out s (by rw [← hse]; exact List.getElem_mem hlt)
      have hsp := lists_split ss k hlt s hse
      have htk : lists (ss.take (k + 1)) = lists (ss.take k) ++ [s.data.toList] := by
        rw [List.take_succ_eq_append_getElem hlt, hse, lists_append]; rfl
      have Htk := Lib.hid htk
      have Hsp := Lib.hid hsp
      clear hcells hse hsp htk
      have i1 : (0 : Int) ≤ (k : Int) := by omega
      by_cases hf : fits s.data.toList
      · obtain ⟨q, hq⟩ : ∃ q : ByteArray, q.data.toList = frame s.data.toList := ⟨bstr _, rfl⟩
        have hp := refFrPut_str s q 0 (by rw [putFr_fits hf, hq]) hs1 wr
        have hql : q.size = 8 + s.data.toList.length := by have := congrArg List.length hq; rw [frame_len] at this; simpa using this
        have hrl := rowLen_bound _ Hfit.out
        rw [show (lists (ss.take k)).length = k by simp [lists]; omega, ← rowBytes_len, ← Hbl.out] at hrl
        have hbz : b.data.toList.length = b.size := by simp
        have hs8 := hf.2
        have hadd : ∀ W : World, (Op.stringOp .add b q).run Try.prog W = .ok (.string (b ++ q)) W := fun W => run_string_add_sum (P := Try.prog) (w := W) _ _ (by omega)
        have Hp := Lib.hid hp
        have Hq := Lib.hid hq
        clear hp hq hrl hql hbz
        go_wp2_with fail
        refine Hp.out.mono ?_
        rintro e w2 ⟨rfl, h2⟩
        go_wp2_with fail
        go_roundw
        case rel =>
          refine ⟨k + 1, by omega, by go_num, ?_, ⟨_, ?_, rfl⟩, bstep hb h2⟩
          · rw [Htk.out]
            intro p hp
            rcases List.mem_append.1 hp with hp | hp
            · exact Hfit.out p hp
            · rw [List.mem_singleton.1 hp]; exact hf
          · rw [Htk.out, rowBytes_snoc, list_addF, Hbl.out, Hq.out]
        case measure => simp [intOf]; omega
      · have hbad := putFr_bad hf
        have hp := refFrPut_str s ⟨#[]⟩ (putFr s.data.toList).2 (by
          conv => lhs; rw [show putFr s.data.toList = ((putFr s.data.toList).1, (putFr s.data.toList).2) from rfl, hbad.1]) hs1 wr
        have hrow : rowFr (lists ss) = ([], (putFr s.data.toList).2) := by rw [Hsp.out]; exact rowFr_bad _ _ _ Hfit.out hf
        have hbad2 := hbad.2
        generalize (putFr s.data.toList).2 = er at hp hrow hbad2
        have ge : ((er : Int) != 0) = true := by rw [bne_iff_ne]; omega
        have Hp := Lib.hid hp
        have Hrow := Lib.hid hrow
        clear hp hrow hbad hbad2
        go_wp2_with fail
        refine Hp.out.mono ?_
        rintro e w2 ⟨rfl, h2⟩
        go_wp2_with fail
        go_ret2
        refine ⟨?_, bstep hb h2⟩
        rw [Hrow.out]
        rfl
    · have hk2 : k = ss.length := by omega
      subst hk2
      rw [List.take_length] at Hfit Hbl
      have hrow := rowFr_all _ Hfit.out
      have Hrow := Lib.hid hrow
      clear hrow
      go_wp2_with fail
      go_ret2
      refine ⟨?_, hb⟩
      rw [Hrow.out]
      simp only
      rw [← Hbl.out]
      rfl
end Go.Proofs.Ytebliglfofjafaa
