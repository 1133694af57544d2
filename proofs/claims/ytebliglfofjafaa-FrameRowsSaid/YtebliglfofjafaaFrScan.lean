/-
  The walk over the reference's Scan.
-/
import Derived.Test.YtebliglfofjafaaFrRows
namespace Go.Proofs.Ytebliglfofjafaa
open Go.RowKit

theorem Try.sinfo : (Try.prog.info? 9).map (fun i => (i.zero, i.size, i.bytes)) = some (some (.string ⟨#[]⟩), 1, 16) := by kernel_rfl

/-- Texts as cells. -/
def scells (l : List (List UInt8)) : List Value := l.map (fun p => Value.string (bstr p))
theorem scells_len (l : List (List UInt8)) : (scells l).length = l.length := by simp [scells]
theorem scells_snoc (l : List (List UInt8)) (p : List UInt8) : scells (l ++ [p]) = scells l ++ [.string (bstr p)] := by simp [scells]

def strLen : Value → Nat | .string s => s.size | _ => 0

/-- What Scan hands back. -/
def ScanIs (s : ByteArray) (w : World) (e : Ending) (w' : World) : Prop :=
  ∃ v, e = .returned (.tuple #[v, .int .i64 (rowLen (scanFr s.data.toList).1 : Int)]) ∧ w'.ownsRow w.heap.size 9 1 v (scanFr s.data.toList).1.length (scells (scanFr s.data.toList).1) ∧ Below w.heap.size w w'

theorem own_strs {w : World} {base : Nat} {v : Value} {n : Nat} {l : List (List UInt8)} (h : w.ownsRow base 9 1 v n (scells l)) (hsz : ∀ p ∈ l, p.length ≤ maxLen) (hm : l.length ≤ maxLen) : IsStrs w v (l.map bstr) := by
  have hl : n = l.length := by have := h.1; rw [scells_len] at this; omega
  have hs : ∀ s ∈ l.map bstr, s.size ≤ maxLen := by
    intro s hs
    obtain ⟨p, hp, rfl⟩ := List.mem_map.1 hs
    rw [bstr_size]; exact hsz p hp
  rcases Nat.eq_zero_or_pos n with h0 | h0
  · have hl0 : l = [] := List.eq_nil_of_length_eq_zero (by omega)
    subst hl0 h0
    rcases h.2 with ⟨rfl, _⟩ | ⟨g, cap, cur, rfl, _⟩
    · exact ⟨none, 0, rfl, by simp, by simp, fun h => absurd h (by simp)⟩
    · exact ⟨some ⟨g, 0, none⟩, cap, rfl, by simp, by simp, fun h => absurd h (by simp)⟩
  · obtain ⟨g, cap, rfl, _, hlt⟩ := h.form h0
    refine ⟨some ⟨g, 0, none⟩, cap, by rw [List.length_map, hl], hs, by simpa using hm, fun _ => ⟨g, 0, rfl, hlt, fun i hi => ?_⟩⟩
    have hi' : i < l.length := by simpa using hi
    have := h.cells (g := g) rfl i (.string (bstr l[i])) (by simp [scells, hi'])
    rw [addr_add_spot _ rfl] at this
    rw [this]
    simp

set_option maxRecDepth 100000 in
set_option maxHeartbeats 1600000 in
theorem refScan_any (s : ByteArray) (w : World) (hs : s.size ≤ 1000000000) :
    Calls Try.prog 18 #[.string s] w (ScanIs s w) := by
  obtain ⟨i0, hi, hz0, hz1, hz2⟩ := info_parts Try.sinfo
  go_enter Try.func18, Try.ntmps18
  go_wp2_with fail
  go_loopw [4, 5, 6, 7, 8] (fun v t5 _ _ _ wr => ∃ (pre : List (List UInt8)) (L : ByteArray), t5 = .string L ∧ scanFr s.data.toList = (pre ++ (scanFr L.data.toList).1, (scanFr L.data.toList).2) ∧ s.size = rowLen pre + L.size ∧ pre.length ≤ rowLen pre ∧
    wr.ownsRow w.heap.size 9 1 v pre.length (scells pre) ∧ Below w.heap.size w wr) (fun _ t _ _ _ _ => strLen t)
  case atStart => exact ⟨[], s, rfl, rfl, by simp [rowLen], by simp, World.ownsRow_nil _ _ _ _, Below.refl _ _⟩
  case round =>
    obtain ⟨pre, L, rfl, hscan, hlen, hpl, hown, hb⟩ := hrel
    have Hscan := Lib.hid hscan
    have Hlen := Lib.hid hlen
    have hbd : rowLen pre + L.size ≤ 1000000000 := by omega
    clear hscan hlen
    have hz := hb.size
    by_cases hok : (takeFr L.data.toList).2.2 = 0
    · obtain ⟨p, hp⟩ : ∃ p : ByteArray, p.data.toList = (takeFr L.data.toList).1 := ⟨bstr _, rfl⟩
      obtain ⟨r, hr⟩ : ∃ r : ByteArray, r.data.toList = (takeFr L.data.toList).2.1 := ⟨bstr _, rfl⟩
      have ht : takeFr L.data.toList = (p.data.toList, r.data.toList, 0) := by rw [hp, hr, ← hok]
      obtain ⟨hl1, hl2⟩ := takeFr_rest ht
      have hstep := scanFr_step ht
      have c1 := refFrTake_str L p r 0 ht (by unfold maxLen; omega) wr
      have C1 := Lib.hid c1
      have Hstep := Lib.hid hstep
      have e1 : L.data.toList.length = L.size := by simp
      have e2 : p.data.toList.length = p.size := by simp
      have e3 : r.data.toList.length = r.size := by simp
      rw [e1, e2, e3] at hl1
      rw [e2] at hl2
      have Hl1 := Lib.hid hl1
      have hrs : r.size < L.size := by omega
      clear c1 ht hp hr hstep e1 e2 e3 hok hl1
      go_wp2_with fail
      refine C1.out.mono ?_
      rintro e w2 ⟨rfl, h2⟩
      have hb2 := bstep hb h2
      have hown2 := own_below h2 hown
      have hz2' := hb2.size
      go_wp2_with (at_builtin; refine wpList_append_lies _ rfl (.tmp 24) (.tmp 26) _ rfl w.heap.size 9 i0 _ 1 16 Try.underlying22 hi hz0 hz1 hz2 rfl (by omega) _ pre.length _ rfl (hown2.alloc _) ⟨w2.heap.size, 0, none⟩ 1 1 [.string p] rfl rfl (World.news_of_block (cs := #[.string p]) (t := 9) (fr := (0, 0)) (heap_alloc_new w2 _)) (by simp [Value.oneCell']) (by omega) (by unfold maxLen; omega) (by omega) (by simp; omega) (w2.heap.size + 1) (by simp) ?_; intro gg cap w3 hown3 hgrow hat hlt2)
      go_roundw
      case rel =>
        refine ⟨pre ++ [p.data.toList], r, rfl, ?_, ?_, ?_, ?_, ?_⟩
        · rw [Hscan.out, Hstep.out]; simp
        · have := Hl1.out; have := Hlen.out; rw [rowLen_snoc]; simp; omega
        · rw [rowLen_snoc]; simp; omega
        · rw [scells_snoc, List.length_append]; exact hown3
        · exact (hb2.alloc hz2' _).grown hgrow (by simp; omega) (fun j hj => (hown2.lt j hj).1)
      case measure => simp [strLen]; exact hrs
    · have hw := takeFr_wrong hok
      have hstop := scanFr_stop hok
      have c1 := refFrTake_str L ⟨#[]⟩ ⟨#[]⟩ (takeFr L.data.toList).2.2 (by
        conv => lhs; rw [show takeFr L.data.toList = ((takeFr L.data.toList).1, (takeFr L.data.toList).2.1, (takeFr L.data.toList).2.2) from rfl, hw.1, hw.2]) (by unfold maxLen; omega) wr
      generalize (takeFr L.data.toList).2.2 = er at c1 hok
      have ge : ((er : Int) != 0) = true := by rw [bne_iff_ne]; omega
      have C1 := Lib.hid c1
      have Hstop := Lib.hid hstop
      have hsub : (s.size : Int) - (L.size : Int) = (rowLen pre : Int) := by have := Hlen.out; omega
      clear c1 hw hstop hok
      go_wp2_with fail
      refine C1.out.mono ?_
      rintro e w2 ⟨rfl, h2⟩
      go_wp2_with fail
      go_ret2
      have hs1 : (scanFr s.data.toList).1 = pre := by rw [Hscan.out, Hstop.out]; simp
      exact ⟨_, by rw [hs1]; rfl, by rw [hs1]; exact own_below h2 hown, bstep hb h2⟩
end Go.Proofs.Ytebliglfofjafaa
