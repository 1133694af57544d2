/-
  Views, plainly: which are right, who is where.
-/
import Derived.Test.YtapgjjfndbfnpaaDoorCvDel
namespace Go.Proofs.YtapgjjfndbfnpaaDoor.Vw

def largeN : Int := 274877906944
def prevI (l : List Int) (i : Nat) : Int := atI l ((i : Int) - 1)

def OkAt (V : VW) (i : Nat) : Prop :=
  1 ≤ V.chain.getD i 0 ∧ V.chain.getD i 0 ≤ 100 ∧ V.chain.getD i 0 ∉ V.chain.take i ∧ prevI V.since i ≤ V.since.getD i 0 ∧ 1 ≤ V.since.getD i 0 ∧ V.since.getD i 0 ≤ V.epoch ∧ 0 ≤ V.boot.getD i 0 ∧ V.boot.getD i 0 ≤ 274877906944

structure RightV (V : VW) : Prop where
  e1 : 1 ≤ V.epoch
  e2 : V.epoch ≤ 274877906944
  n1 : 1 ≤ V.chain.length
  n2 : V.chain.length ≤ 6
  s : V.since.length = V.chain.length
  b : V.boot.length = V.chain.length
  ok : ∀ i, i < V.chain.length → OkAt V i

open Classical in
noncomputable def rightB (V : VW) : Bool := decide (RightV V)
theorem rightB_iff (V : VW) : rightB V = true ↔ RightV V := by simp [rightB]
theorem rightB_not (V : VW) : rightB V = false ↔ ¬ RightV V := by simp [rightB]
theorem rightB_of {V : VW} (h : RightV V) : rightB V = true := (rightB_iff V).2 h
theorem rightB_no {V : VW} (h : ¬ RightV V) : rightB V = false := (rightB_not V).2 h

noncomputable def placeV (V : VW) (x : Int) : Int := if rightB V = true then idxI V.chain x else -1

theorem idxI_spec (l : List Int) (x : Int) : (idxI l x = -1 ∧ x ∉ l) ∨ ∃ i, ∃ h : i < l.length, idxI l x = i ∧ l[i] = x := by
  by_cases h : x ∈ l
  · right
    refine ⟨l.idxOf x, List.idxOf_lt_length_iff.2 h, ?_, List.getElem_idxOf _⟩
    rw [idxI, if_pos h]
  · left
    exact ⟨by rw [idxI, if_neg h], h⟩

theorem placeV_spec (V : VW) (x : Int) : (placeV V x = -1 ∧ (RightV V → x ∉ V.chain)) ∨ (RightV V ∧ ∃ i, ∃ h : i < V.chain.length, placeV V x = i ∧ V.chain[i] = x) := by
  by_cases hr : RightV V
  · rw [placeV, if_pos (rightB_of hr)]
    rcases idxI_spec V.chain x with ⟨h1, h2⟩ | ⟨i, h, h1, h2⟩
    · exact .inl ⟨h1, fun _ => h2⟩
    · exact .inr ⟨hr, i, h, h1, h2⟩
  · left
    refine ⟨?_, fun h => absurd h hr⟩
    rw [placeV, if_neg (by rw [rightB_no hr]; decide)]

def zeroV : VW := ⟨0, [], [], []⟩
noncomputable def headV (V : VW) : Int := if rightB V = true then V.chain.getD 0 0 else 0
noncomputable def tailV (V : VW) : Int := if rightB V = true then V.chain.getD (V.chain.length - 1) 0 else 0
noncomputable def aheadV (V : VW) (x : Int) : Int := if 0 < placeV V x then atI V.chain (placeV V x - 1) else 0
noncomputable def behindV (V : VW) (x : Int) : Int := if 0 ≤ placeV V x then atI V.chain (placeV V x + 1) else 0
noncomputable def sinceV (V : VW) (x : Int) : Int := if 0 ≤ placeV V x then atI V.since (placeV V x) else 0
noncomputable def bootV (V : VW) (x : Int) : Int := if 0 ≤ placeV V x then atI V.boot (placeV V x) else 0

/-- Without a node: the view, and what is wrong. -/
noncomputable def withoutV (V : VW) (x : Int) : VW × Nat :=
  if rightB V = false then (zeroV, 1)
  else if placeV V x < 0 then (zeroV, 6)
  else if V.chain.length = 1 then (zeroV, 9)
  else if V.epoch = 274877906944 then (zeroV, 4)
  else (⟨V.epoch + 1, V.chain.eraseIdx (placeV V x).toNat, V.since.eraseIdx (placeV V x).toNat, V.boot.eraseIdx (placeV V x).toNat⟩, 0)

noncomputable def withV (V : VW) (x b : Int) : VW × Nat :=
  if rightB V = false ∨ x < 1 ∨ 100 < x ∨ b < 0 ∨ 274877906944 < b then (zeroV, 1)
  else if 0 ≤ placeV V x then (zeroV, 7)
  else if V.chain.length = 6 ∨ V.epoch = 274877906944 then (zeroV, 4)
  else (⟨V.epoch + 1, V.chain ++ [x], V.since ++ [V.epoch + 1], V.boot ++ [b]⟩, 0)
end Go.Proofs.YtapgjjfndbfnpaaDoor.Vw
