/-
  The walks of bucketlinelaw12's small functions: sameTexts, same, small, pick.
-/
import Derived.Test.YtpadbkplknnopaaTmOps
import Derived.Laws.StructEq
import Derived.Deep.QuietTactic
namespace Go.Proofs.Ytpadbkplknnopaa
open Go.RowKit

/-- A slice of texts. -/
def IsStrs (B : Nat) (w : World) (v : Value) (l : List ByteArray) : Prop :=
  ∃ (a : Option Addr) (cap : Nat), v = .slice a l.length cap ∧ (0 < l.length → ∃ b off, a = some ⟨b, off, none⟩ ∧ b < B ∧ ∀ i, (h : i < l.length) → w.cell? ⟨b, off + i, none⟩ = some (.string l[i]))
theorem IsStrs.keep {B B' : Nat} {w w' : World} {v : Value} {l : List ByteArray} (h : IsStrs B w v l) (hb : Below B' w w') (hB : B ≤ B') : IsStrs B w' v l := by
  obtain ⟨a, cap, rfl, h5⟩ := h
  refine ⟨a, cap, rfl, fun hp => ?_⟩
  obtain ⟨b, off, rfl, hlt, hc⟩ := h5 hp
  exact ⟨b, off, rfl, hlt, fun i hi => by rw [hb.cell (p := ⟨b, off + i, none⟩) (Nat.lt_of_lt_of_le hlt hB)]; exact hc i hi⟩
theorem IsStrs.up {B B' : Nat} {w : World} {v : Value} {l : List ByteArray} (h : IsStrs B w v l) (hB : B ≤ B') : IsStrs B' w v l := by
  obtain ⟨a, cap, rfl, h5⟩ := h
  refine ⟨a, cap, rfl, fun hp => ?_⟩
  obtain ⟨b, off, rfl, hlt, hc⟩ := h5 hp
  exact ⟨b, off, rfl, Nat.lt_of_lt_of_le hlt hB, hc⟩
theorem IsStrs.form {B : Nat} {w : World} {v : Value} {l : List ByteArray} (h : IsStrs B w v l) : ∃ a cap, v = .slice a l.length cap := by
  obtain ⟨a, cap, rfl, _⟩ := h
  exact ⟨a, cap, rfl⟩
theorem IsStrs.get {B : Nat} {w : World} {v : Value} {l : List ByteArray} (h : IsStrs B w v l) (i : Nat) (hi : i < l.length) : ∃ b off cap, v = .slice (some ⟨b, off, none⟩) l.length cap ∧ b < B ∧ w.cell? ⟨b, off + i, none⟩ = some (.string l[i]) := by
  obtain ⟨a, cap, rfl, h5⟩ := h
  obtain ⟨b, off, rfl, hlt, hc⟩ := h5 (by omega)
  exact ⟨b, off, cap, rfl, hlt, hc i hi⟩
theorem OwnS.strs {w : World} {b : Nat} {v : Value} {l : List ByteArray} (h : OwnS w b v l) : IsStrs w.heap.size w v l := by
  rcases h.2 with ⟨rfl, h0⟩ | ⟨g, cap, cur, rfl, hb, hg, hn, hc, hsz, htk⟩
  · have : l = [] := List.eq_nil_of_length_eq_zero h0
    subst this
    exact ⟨none, 0, rfl, fun h => absurd h (by simp)⟩
  · refine ⟨_, _, rfl, fun hp => ⟨g, 0, rfl, (Array.getElem?_eq_some_iff.1 hg).1, fun i hi => ?_⟩⟩
    rw [Nat.zero_add, cell_of_row w g i cur _ _ hg, ← Array.getElem?_toList]
    have h1 : (cur.toList.take (l.length * 1))[i]? = some (.string l[i]) := by
      rw [htk, scells, List.getElem?_map, List.getElem?_eq_getElem hi]
      rfl
    rwa [List.getElem?_take_of_lt (by omega)] at h1

set_option maxRecDepth 100000 in
set_option maxHeartbeats 1600000 in
theorem sameTexts_any (B : Nat) (v u : Value) (l : List ByteArray) (hmax : l.length ≤ 9223372036854775807) (w : World) (h1 : IsStrs B w v l) (h2 : IsStrs B w u l) (hB : B ≤ w.heap.size) :
    Calls Try.prog 14 #[v, u] w fun r w' => r = .returned (.bool true) ∧ Below w.heap.size w w' := by
  have H1 := Lib.hid h1
  have H2 := Lib.hid h2
  obtain ⟨a1, c1, rfl⟩ := h1.form
  obtain ⟨a2, c2, rfl⟩ := h2.form
  have HB := Lib.hid hB
  clear h1 h2 hB
  go_enter Try.func14, Try.ntmps14
  go_wp2_with fail
  go_loopw [4, 5] (fun _ t5 wr => ∃ k : Nat, k ≤ l.length ∧ t5 = .int .i64 k ∧ Below w.heap.size w wr) (fun _ t5 _ => l.length - (intOf t5).toNat)
  case atStart => exact ⟨0, Nat.zero_le _, rfl, Below.refl _ _⟩
  case round =>
    obtain ⟨k, hk, rfl, hbl⟩ := hrel
    by_cases hlt : k < l.length
    · obtain ⟨b1, o1, q1, he, _, hc1⟩ := (H1.out.keep hbl HB.out).get k hlt
      obtain ⟨rfl, -, rfl⟩ : a1 = some ⟨b1, o1, none⟩ ∧ l.length = l.length ∧ c1 = q1 := by injection he with e1 e2 e3; exact ⟨e1, e2, e3⟩
      clear he
      obtain ⟨b2, o2, q2, he, _, hc2⟩ := (H2.out.keep hbl HB.out).get k hlt
      obtain ⟨rfl, -, rfl⟩ : a2 = some ⟨b2, o2, none⟩ ∧ l.length = l.length ∧ c2 = q2 := by injection he with e1 e2 e3; exact ⟨e1, e2, e3⟩
      clear he
      obtain ⟨y, hy⟩ : ∃ y, l[k] = y := ⟨_, rfl⟩
      rw [hy] at hc1 hc2
      have i1 : (0 : Int) ≤ (k : Int) := by omega
      have i2 : (k : Int) < (l.length : Int) := by omega
      clear hy
      go_wp2_with fail
      go_quiet (fail)
      go_wp2_with fail
      go_roundw
      case rel => exact ⟨k + 1, by omega, by go_num, below_drewN hbl _⟩
      case measure => simp [intOf]; omega
    · have g : ¬ ((k : Int) < (l.length : Int)) := by omega
      go_wp2_with fail
      go_ret
      exact ⟨rfl, hbl⟩

theorem bx2_cells {w X : World} {a0 c0 : Value} {t t' : TypeId} (hb : Below (w.heap.size + 2) ((w.alloc (.cells #[a0] t)).alloc (.cells #[c0] t')) X) :
    X.cell? ⟨w.heap.size, 0, none⟩ = some a0 ∧ X.cell? ⟨w.heap.size + 1, 0, none⟩ = some c0 :=
  ⟨(hb.cell (p := ⟨w.heap.size, 0, none⟩) (by simp)).trans (by simp), (hb.cell (p := ⟨w.heap.size + 1, 0, none⟩) (by simp)).trans (by simp)⟩
theorem bx2_below {w X : World} {o o' : Obj} (h : Below (w.heap.size + 2) ((w.alloc o).alloc o') X) : Below w.heap.size w X := (((Below.refl _ _).alloc (Nat.le_refl _) o).alloc (by rw [World.size_alloc]; omega) o').trans (h.mono (by omega))

set_option maxRecDepth 100000 in
set_option maxHeartbeats 1600000 in
theorem same_any (B : Nat) (v u : Value) (l : List TM) (hmax : l.length ≤ 9223372036854775807) (w : World) (h1 : IsTms B w v l) (h2 : IsTms B w u l) (hB : B ≤ w.heap.size) :
    Calls Try.prog 10 #[v, u] w fun r w' => r = .returned (.bool true) ∧ Below w.heap.size w w' := by
  obtain ⟨lv, rfl, h1⟩ := h1
  obtain ⟨lu, rfl, h2⟩ := h2
  have H1 := Lib.hid h1
  have H2 := Lib.hid h2
  obtain ⟨a1, c1, rfl⟩ := h1.form
  obtain ⟨a2, c2, rfl⟩ := h2.form
  have HB := Lib.hid hB
  have HM := Lib.hid hmax
  clear h1 h2 hB
  go_enter Try.func10, Try.ntmps10
  go_wp2_with fail
  go_loopw [4, 5] (fun _ t5 wr => ∃ k : Nat, k ≤ l.length ∧ t5 = .int .i64 k ∧ Below (w.heap.size + 2) ((w.alloc (.cells #[.slice a1 l.length c1] 34)).alloc (.cells #[.slice a2 l.length c2] 34)) wr) (fun _ t5 _ => l.length - (intOf t5).toNat)
  case atStart => exact ⟨0, Nat.zero_le _, rfl, Below.refl _ _⟩
  case round =>
    obtain ⟨k, hk, rfl, hbl⟩ := hrel
    obtain ⟨y0, y1⟩ := bx2_cells hbl
    have HBL := Lib.hid hbl
    by_cases hlt : k < l.length
    · obtain ⟨b1, o1, q1, he, _, _, hc1, hd1⟩ := (H1.out.keep (bx2_below hbl) HB.out).get k hlt
      obtain ⟨rfl, -, rfl⟩ : a1 = some ⟨b1, o1, none⟩ ∧ l.length = l.length ∧ c1 = q1 := by injection he with e1 e2 e3; exact ⟨e1, e2, e3⟩
      clear he
      obtain ⟨b2, o2, q2, he, _, _, hc2, hd2⟩ := (H2.out.keep (bx2_below hbl) HB.out).get k hlt
      obtain ⟨rfl, -, rfl⟩ : a2 = some ⟨b2, o2, none⟩ ∧ l.length = l.length ∧ c2 = q2 := by injection he with e1 e2 e3; exact ⟨e1, e2, e3⟩
      clear he
      obtain ⟨y, hy⟩ : ∃ y, l[k] = y := ⟨_, rfl⟩
      rw [hy] at hc1 hc2 hd1 hd2
      have i1 : (0 : Int) ≤ (k : Int) := by omega
      have i2 : (k : Int) < (l.length : Int) := by omega
      clear hy hbl
      go_wp2_with fail
      go_quiet (fail)
      go_wp2_with fail
      go_roundw
      case rel => exact ⟨k + 1, by omega, by go_num, below_drewN HBL.out _⟩
      case measure => simp [intOf]; omega
    · have g : ¬ ((k : Int) < (l.length : Int)) := by omega
      clear hbl
      go_wp2_with fail
      go_ret
      exact ⟨rfl, bx2_below HBL.out⟩

def pickT (c : Int) (n : Nat) : Nat := (if c < 0 then -(c + 1) else c).toNat % n
theorem pick_any (c : Int) (hc : -9223372036854775808 ≤ c ∧ c ≤ 9223372036854775807) (n : Nat) (hn : 0 < n) (hn2 : n ≤ 1000) (w : World) :
    Calls Try.prog 8 #[.int .i64 c, .int .i64 n] w fun r w' => r = .returned (.int .i64 (pickT c n : Nat)) ∧ w' = w := by
  have i1 : ¬ (n : Int) = 0 := by omega
  by_cases hc0 : c < 0
  · have e1 : IntKind.i64.wrap (c + 1) = c + 1 := by rw [IntKind.wrap_i64]; omega
    have e2 : IntKind.i64.wrap (-(c + 1)) = -(c + 1) := by rw [IntKind.wrap_i64]; omega
    have hr : pickT c n = (-(c + 1)).toNat % n := by rw [pickT, if_pos hc0]
    obtain ⟨m, hm⟩ : ∃ m : Nat, -(c + 1) = (m : Int) := ⟨(-(c + 1)).toNat, by omega⟩
    rw [hm, Int.toNat_natCast] at hr
    have hlt : m % n < n := Nat.mod_lt _ hn
    have HR := Lib.hid hr
    have e3 : (m : Int).tmod (n : Int) = ((m % n : Nat) : Int) := by rw [Int.tmod_eq_emod_of_nonneg (by omega)]; rfl
    have e4 : IntKind.i64.wrap ((m % n : Nat) : Int) = ((m % n : Nat) : Int) := by rw [IntKind.wrap_i64]; omega
    rw [hm] at e2
    clear hr
    go_enter Try.func8, Try.ntmps8
    go_wp2_with fail
    go_ret
    refine ⟨ret_int ?_, rfl⟩
    rw [HR.out]
    first | rfl | (rw [← e4]; rfl) | skip
  · have hr : pickT c n = c.toNat % n := by rw [pickT, if_neg hc0]
    obtain ⟨m, rfl⟩ : ∃ m : Nat, c = (m : Int) := ⟨c.toNat, by omega⟩
    rw [Int.toNat_natCast] at hr
    have hlt : m % n < n := Nat.mod_lt _ hn
    have HR := Lib.hid hr
    have e3 : (m : Int).tmod (n : Int) = ((m % n : Nat) : Int) := by rw [Int.tmod_eq_emod_of_nonneg (by omega)]; rfl
    have e4 : IntKind.i64.wrap ((m % n : Nat) : Int) = ((m % n : Nat) : Int) := by rw [IntKind.wrap_i64]; omega
    clear hr
    go_enter Try.func8, Try.ntmps8
    go_wp2_with fail
    go_ret
    refine ⟨ret_int ?_, rfl⟩
    rw [HR.out]
    first | rfl | skip

end Go.Proofs.Ytpadbkplknnopaa
