/-
  A region that draws its order, by what holds at each of its states: in whatever order its operations come up (the states meet again, so nothing is branched over twice).
-/
import Derived.Deep.RegionHeld3
import Derived.WalkKit
namespace Go.Proofs.YtflojipkgaocnaaGreatDoor
open Go.RowKit

theorem count_set {l : List Bool} {i : Nat} (h : l[i]? = some false) : (l.set i true).count true = l.count true + 1 := by
  induction l generalizing i with
  | nil => cases h
  | cons b l ih =>
    cases i with
    | zero =>
      simp only [List.getElem?_cons_zero, Option.some.injEq] at h
      subst h
      simp
    | succ i =>
      simp only [List.getElem?_cons_succ] at h
      simp only [List.set_cons_succ, List.count_cons, ih h]
      omega

theorem count_lt {l : List Bool} {i : Nat} (h : l[i]? = some false) : l.count true < l.length := by
  have h1 := count_set h
  have h2 : (l.set i true).count true ≤ (l.set i true).length := List.count_le_length
  rw [List.length_set] at h2
  omega

/-- The beginning, the number of operations written out. -/
theorem region_begin {P : Program} {ops : Array Oper} {Q : Exit → Act → World → Prop} {S : World → Prop} (n : Nat) (hn : ops.size = n) {id : Nat} {a : Act} {w : World} (hm : P.follows .mixedOrders = true) (hS : S w.drew)
    (h : S w.drew → wpAnyH P .any ops Q S n (Array.replicate n false) a w.drew) : (Code.region id ops true).wp P Q a w := by
  subst hn
  exact wp_region_held_drew hm hS h

/-- J holds of the state, and behind each operation that may come up; or the state is one from which the rest is shown otherwise. -/
theorem wpAnyH_inv {P : Program} {ops : Array Oper} {Q : Exit → Act → World → Prop} {md : Region.Mode} {S : World → Prop} (J : Array Bool → Act → World → Prop)
    (hstep : ∀ listed a w, J listed a w →
      (Region.ready md ops listed ≠ [] ∧ ∀ i ∈ Region.ready md ops listed, wpOp P ops Q i (fun a' w' => S w' ∧ J (listed.setIfInBounds i true) a' w') a w) ∨
      (∀ m, ops.size ≤ m + listed.toList.count true → wpAnyH P md ops Q S m listed a w)) :
    ∀ fuel listed a w, J listed a w → listed.size = ops.size → ops.size ≤ fuel + listed.toList.count true → wpAnyH P md ops Q S fuel listed a w := by
  intro fuel
  induction fuel with
  | zero =>
    intro listed a w hJ hsz hc
    rcases hstep listed a w hJ with ⟨hne, _⟩ | h
    · exfalso
      obtain ⟨i, hi⟩ := List.exists_mem_of_ne_nil _ hne
      have h0 := (mem_ready.1 hi).1
      have hlt : i < listed.size := by
        rcases Nat.lt_or_ge i listed.size with h | h
        · exact h
        · simp [Array.getD, Nat.not_lt.2 h] at h0
      have h1 : listed.toList[i]? = some false := by
        simp only [Array.getD, hlt, dite_true] at h0
        simpa [hlt] using h0
      have := count_lt h1
      rw [Array.length_toList] at this
      omega
    · exact h 0 hc
  | succ fuel ih =>
    intro listed a w hJ hsz hc
    rcases hstep listed a w hJ with ⟨hne, hall⟩ | h
    · refine ⟨fun h0 => absurd h0 hne, fun i hi => wpOp_mono (fun a' w' h => ⟨h.1, ih _ a' w' h.2 (by simpa using hsz) ?_⟩) (hall i hi)⟩
      have h0 := (mem_ready.1 hi).1
      have hlt : i < listed.size := by
        rcases Nat.lt_or_ge i listed.size with h | h
        · exact h
        · simp [Array.getD, Nat.not_lt.2 h] at h0
      have h1 : listed.toList[i]? = some false := by
        simp only [Array.getD, hlt, dite_true] at h0
        simpa [hlt] using h0
      rw [Array.toList_setIfInBounds, count_set h1]
      omega
    · exact h _ hc
end Go.Proofs.YtflojipkgaocnaaGreatDoor
