/-
  What is held of a lane of a region: a clone, a literal of one int, and the clone with that int behind it: while other lanes go on.
-/
import Derived.Test.YtapgjjfndbfnpaaDoorCvBox
import Derived.Test.YtapgjjfndbfnpaaDoorRegInv
import Derived.Deep.AppendLies
namespace Go.Proofs.YtapgjjfndbfnpaaDoor.Vw
open Go.RowKit

theorem own_grow {base : Nat} {e : TypeId} {size : Nat} {v : Value} {n : Nat} {xs : List Value} {w w' : World} {row : Option Nat} (hg : w.grownBy w' row) (h : w.ownsRow base e size v n xs) (hne : ∀ g, v.ownBlock = some g → row ≠ some g) :
    w'.ownsRow base e size v n xs := by
  obtain ⟨h1, h2⟩ := h
  refine ⟨h1, ?_⟩
  rcases h2 with h2 | ⟨g, cap, cur, rfl, hb, hh, r⟩
  · exact Or.inl h2
  · refine Or.inr ⟨g, cap, cur, rfl, hb, ?_, r⟩
    rw [hg.block g (Array.getElem?_eq_some_iff.1 hh).1 (fun e => hne g rfl e.symm)]
    exact hh

theorem own_base {base base' : Nat} {e : TypeId} {size : Nat} {v : Value} {n : Nat} {xs : List Value} {w : World} (hb : base' ≤ base) (h : w.ownsRow base e size v n xs) : w.ownsRow base' e size v n xs := by
  obtain ⟨h1, h2⟩ := h
  refine ⟨h1, ?_⟩
  rcases h2 with h2 | ⟨g, cap, cur, rfl, hg, r⟩
  · exact Or.inl h2
  · exact Or.inr ⟨g, cap, cur, rfl, Nat.le_trans hb hg, r⟩

theorem news_one {w : World} {g : Nat} {v : Value} (h : w.cell? ⟨g, 0, none⟩ = some v) : ∀ (j : Nat) (u : Value), [v][j]? = some u → w.cell? ((⟨g, 0, none⟩ : Addr).add j) = some u := by
  intro j u hj
  cases j with
  | zero =>
    simp only [List.getElem?_cons_zero, Option.some.injEq] at hj
    subst hj
    rw [add_spot _ rfl]
    exact h
  | succ j => simp at hj

/-- pv: the row that waits for its append (nil, if none). k: the literal is made; a: the append is done. -/
structure Lane (w : World) (B0 : Nat) (e : TypeId) (pv : Value) (l : List Int) (y : Int) (k a : Bool) (u r : Value) : Prop where
  done : a = true → (∃ q m, r = .slice q (l.length + 1) m) ∧ w.ownsRow B0 e 1 r (l.length + 1) (icells (l ++ [y])) ∧ ∀ g, r.ownBlock = some g → pv.ownBlock ≠ some g
  lit : a = false → k = true → ∃ g, u = .slice (some ⟨g, 0, none⟩) 1 1 ∧ g < w.heap.size ∧ w.cell? ⟨g, 0, none⟩ = some (.int .i64 y) ∧ pv.ownBlock ≠ some g

variable {w w' : World} {B0 : Nat} {e : TypeId} {pv pv' : Value} {l : List Int} {y : Int} {k a : Bool} {u r : Value}

theorem Lane.below (h : Lane w B0 e pv l y k a u r) (hb : Below w.heap.size w w') (hp : ∀ j, pv'.ownBlock = some j → w.heap.size ≤ j) : Lane w' B0 e pv' l y k a u r where
  done := fun ha => by
    obtain ⟨h1, h2, _⟩ := h.done ha
    refine ⟨h1, own_below hb h2, fun g hg hpg => ?_⟩
    have := (h2.lt g hg).2
    have := hp g hpg
    omega
  lit := fun ha hk => by
    obtain ⟨g, rfl, h1, h2, _⟩ := h.lit ha hk
    refine ⟨g, rfl, Nat.lt_of_lt_of_le h1 hb.size, by rw [hb.cell (p := ⟨g, 0, none⟩) h1]; exact h2, fun hpg => ?_⟩
    have := hp g hpg
    omega

theorem Lane.alloc (h : Lane w B0 e pv l y k a u r) (o : Obj) : Lane (w.alloc o) B0 e pv l y k a u r where
  done := fun ha => by
    obtain ⟨h1, h2, h3⟩ := h.done ha
    exact ⟨h1, own_below ((Below.refl _ _).alloc (Nat.le_refl _) _) h2, h3⟩
  lit := fun ha hk => by
    obtain ⟨g, rfl, h1, h2, h3⟩ := h.lit ha hk
    exact ⟨g, rfl, by rw [World.size_alloc]; omega, by rw [((Below.refl w.heap.size w).alloc (Nat.le_refl _) o).cell (p := ⟨g, 0, none⟩) h1]; exact h2, h3⟩

/-- The literal is made. -/
theorem Lane.mk' (hp : ∀ j, pv.ownBlock = some j → j < w.heap.size) (t : TypeId) (hna : k = false → a = false) (hk : k = false) :
    Lane (w.alloc (.cells #[.int .i64 y] t)) B0 e pv l y true a (.slice (some ⟨w.heap.size, 0, none⟩) 1 1) r where
  done := fun ha => by
    rw [hna hk] at ha
    cases ha
  lit := fun _ _ => ⟨w.heap.size, rfl, by rw [World.size_alloc]; omega, by simp, fun hpg => by have := hp _ hpg; omega⟩

/-- Another lane's append. -/
theorem Lane.grow (h : Lane w B0 e pv l y k a u r) (hg : w.grownBy w' pv.ownBlock) : Lane w' B0 e (.slice none 0 0) l y k a u r where
  done := fun ha => by
    obtain ⟨h1, h2, h3⟩ := h.done ha
    exact ⟨h1, own_grow hg h2 h3, fun _ _ => by simp [Value.ownBlock]⟩
  lit := fun ha hk => by
    obtain ⟨g, rfl, h1, h2, h3⟩ := h.lit ha hk
    exact ⟨g, rfl, Nat.lt_of_lt_of_le h1 hg.size, by rw [hg.cell_far ⟨g, 0, none⟩ h1 (fun e => h3 e.symm)]; exact h2, by simp [Value.ownBlock]⟩

/-- Its own. -/
theorem Lane.app (h : w'.ownsRow B0 e 1 r (l.length + 1) (icells (l ++ [y]))) : Lane w' B0 e (.slice none 0 0) l y k true u r where
  done := fun _ => ⟨own_form h, h, fun _ _ => by simp [Value.ownBlock]⟩
  lit := fun ha => by cases ha
end Go.Proofs.YtapgjjfndbfnpaaDoor.Vw
