/-
  The walk of slices.Clone at timers.
-/
import Derived.Test.YtpadbkplknnopaaTmApp
import Derived.Lib.SliceRun
import Derived.Deep.Upon
namespace Go.Proofs.Ytpadbkplknnopaa
open Go.RowKit

set_option maxHeartbeats 1600000 in
theorem clone_any (B : Nat) (v : Value) (l : List TM) (w : World) (h : IsTimers B w v l) (hl64 : l.length ≤ 1000) :
    Calls Try.prog 28 #[v] w fun r w' => ∃ v', r = .returned v' ∧ OwnT w' w.heap.size v' l ∧ Below w.heap.size w w' := by
  obtain ⟨i0, hi0, hz0, hz1, hz2⟩ := info_parts Try.tminfo
  obtain ⟨a, cap, rfl⟩ := h.form
  cases a with
  | none =>
    have h0 : l = [] := by
      obtain ⟨a', cap', he, h1, h2, h3, _⟩ := h
      obtain ⟨rfl, -, rfl⟩ : none = a' ∧ l.length = l.length ∧ cap = cap' := by injection he with e1 e2 e3; exact ⟨e1, e2, e3⟩
      have := h3 rfl
      exact List.eq_nil_of_length_eq_zero (by omega)
    subst h0
    have hE : ∀ W : World, (binOp .eql 24 (.slice none 0 cap) (.slice none 0 0)).run Try.prog W = .ok (.bool true) W := fun W => Lib.run_eql_slice_nil (P := Try.prog) W 24 61 _ _ _ 0 0 Try.underlying24
    go_enter Try.func28, Try.ntmps28
    go_wp2_with fail
    go_ret
    exact ⟨_, rfl, World.ownsRow_nil _ _ _ _, Below.refl _ _⟩
  | some ad =>
    by_cases hn : 0 < l.length
    · obtain ⟨b, off, cap', he, hblk, hnews⟩ := h.news hn
      obtain ⟨rfl, rfl⟩ : ad = ⟨b, off, none⟩ ∧ cap = cap' := by injection he with e1 e2 e3; injection e1 with e1; exact ⟨e1, e3⟩
      clear he
      have hnews2 : ∀ j u, (tcells l)[j]? = some u → (w.alloc (.cells #[] 61)).cell? ((⟨b, off, none⟩ : Addr).add j) = some u := fun j u hu => by
        have h5 := hnews j u hu
        rw [add_spot2] at h5 ⊢
        exact ((((Below.refl w.heap.size w).alloc (Nat.le_refl _) (.cells #[] 61)).cell (p := ⟨b, off + j, none⟩) (World.block_lt_of_cell? _ _ h5))).trans h5
      have HN := Lib.hid hnews2
      clear h hnews hnews2
      have hE : ∀ W : World, (binOp .eql 24 (.slice (some ⟨b, off, none⟩) l.length cap) (.slice none 0 0)).run Try.prog W = .ok (.bool false) W := fun W => Lib.run_eql_slice_nil (P := Try.prog) W 24 61 _ _ _ 0 0 Try.underlying24
      go_enter Try.func28, Try.ntmps28
      go_wp2_with (at_builtin; refine wpList_append_emptyT _ rfl _ _ 24 rfl 61 i0 _ 24 Try.underlying24 hi0 hz0 hz1 hz2 rfl ⟨w.heap.size, 0, none⟩ rfl ⟨b, off, none⟩ l.length cap rfl (tcells l) (tcells_len l) HN.out hn (by unfold maxLen; omega) (by omega) ?_; intro cap2 w1 hown hb1; rw [World.size_alloc] at hown)
      go_ret
      exact ⟨_, rfl, own_less (Nat.le_succ _) hown, bstep ((Below.refl w.heap.size w).alloc (Nat.le_refl _) (.cells #[] 61)) hb1⟩
    · have h0 : l = [] := List.eq_nil_of_length_eq_zero (by omega)
      subst h0
      have hE : ∀ W : World, (binOp .eql 24 (.slice (some ad) 0 cap) (.slice none 0 0)).run Try.prog W = .ok (.bool false) W := fun W => Lib.run_eql_slice_nil (P := Try.prog) W 24 61 _ _ _ 0 0 Try.underlying24
      go_enter Try.func28, Try.ntmps28
      go_wp2_with fail
      go_ret
      exact ⟨_, rfl, ⟨rfl, .inr ⟨w.heap.size, 0, #[], rfl, Nat.le_refl _, heap_alloc_new _ _, Nat.le_refl _, Nat.zero_le _, rfl, rfl⟩⟩, (Below.refl _ _).alloc (Nat.le_refl _) _⟩
end Go.Proofs.Ytpadbkplknnopaa
