/-
  Timers, as a walk is told of them, and plainly: how two stand, where a name is, what is set, cleared, due.
-/
import Derived.Test.YtpadbkplknnopaaShelf
import Derived.Test.YtpadbkplknnopaaAid
import Derived.Lib.Hide
import Derived.BigQuiet
import Derived.LoopN
import Derived.WalkKit
namespace Go.Proofs.Ytpadbkplknnopaa
open Go.RowKit

structure TM where
  name : ByteArray
  at_ : Int

/-- A slice of timers whose cells lie ahead of block B. -/
def IsTimers (B : Nat) (w : World) (v : Value) (l : List TM) : Prop :=
  ∃ (a : Option Addr) (cap : Nat), v = .slice a l.length cap ∧ l.length ≤ cap ∧ cap ≤ maxLen ∧ (a = none → cap = 0) ∧
    (0 < l.length → ∃ b off, a = some ⟨b, off, none⟩ ∧ b < B ∧ ∀ i, (h : i < l.length) → w.cell? ⟨b, off + i * 2, none⟩ = some (.string l[i].name) ∧ w.cell? ⟨b, off + i * 2 + 1, none⟩ = some (.int .i64 l[i].at_))

theorem IsTimers.keep {B B' : Nat} {w w' : World} {v : Value} {l : List TM} (h : IsTimers B w v l) (hb : Below B' w w') (hB : B ≤ B') : IsTimers B w' v l := by
  obtain ⟨a, cap, rfl, h1, h2, h3, h5⟩ := h
  refine ⟨a, cap, rfl, h1, h2, h3, fun hp => ?_⟩
  obtain ⟨b, off, rfl, hlt, hc⟩ := h5 hp
  exact ⟨b, off, rfl, hlt, fun i hi => ⟨by rw [hb.cell (p := ⟨b, off + i * 2, none⟩) (Nat.lt_of_lt_of_le hlt hB)]; exact (hc i hi).1, by rw [hb.cell (p := ⟨b, off + i * 2 + 1, none⟩) (Nat.lt_of_lt_of_le hlt hB)]; exact (hc i hi).2⟩⟩
theorem IsTimers.up {B B' : Nat} {w : World} {v : Value} {l : List TM} (h : IsTimers B w v l) (hB : B ≤ B') : IsTimers B' w v l := by
  obtain ⟨a, cap, rfl, h1, h2, h3, h5⟩ := h
  refine ⟨a, cap, rfl, h1, h2, h3, fun hp => ?_⟩
  obtain ⟨b, off, rfl, hlt, hc⟩ := h5 hp
  exact ⟨b, off, rfl, Nat.lt_of_lt_of_le hlt hB, hc⟩
theorem IsTimers.form {B : Nat} {w : World} {v : Value} {l : List TM} (h : IsTimers B w v l) : ∃ a cap, v = .slice a l.length cap := by
  obtain ⟨a, cap, rfl, _⟩ := h
  exact ⟨a, cap, rfl⟩
/-- Its cells at a place. -/
theorem IsTimers.get {B : Nat} {w : World} {v : Value} {l : List TM} (h : IsTimers B w v l) (i : Nat) (hi : i < l.length) : ∃ b off cap, v = .slice (some ⟨b, off, none⟩) l.length cap ∧ b < B ∧ l.length ≤ cap ∧
    w.cell? ⟨b, off + i * 2, none⟩ = some (.string l[i].name) ∧ w.cell? ⟨b, off + i * 2 + 1, none⟩ = some (.int .i64 l[i].at_) := by
  obtain ⟨a, cap, rfl, h1, h2, h3, h5⟩ := h
  obtain ⟨b, off, rfl, hlt, hc⟩ := h5 (by omega)
  exact ⟨b, off, cap, rfl, hlt, h1, (hc i hi).1, (hc i hi).2⟩
theorem timers_nil (B : Nat) (w : World) : IsTimers B w (.slice none 0 0) [] := ⟨none, 0, rfl, by simp, by simp, fun _ => rfl, fun h => absurd h (by simp)⟩

/-- All of them: a struct of one slice. -/
def IsTms (B : Nat) (w : World) (v : Value) (l : List TM) : Prop := ∃ lv, v = .agg #[lv] ∧ IsTimers B w lv l
theorem IsTms.keep {B B' : Nat} {w w' : World} {v : Value} {l : List TM} (h : IsTms B w v l) (hb : Below B' w w') (hB : B ≤ B') : IsTms B w' v l := by
  obtain ⟨lv, rfl, h1⟩ := h
  exact ⟨lv, rfl, h1.keep hb hB⟩
theorem IsTms.up {B B' : Nat} {w : World} {v : Value} {l : List TM} (h : IsTms B w v l) (hB : B ≤ B') : IsTms B' w v l := by
  obtain ⟨lv, rfl, h1⟩ := h
  exact ⟨lv, rfl, h1.up hB⟩

theorem bx_new {w : World} (o : Obj) : Below (w.heap.size + 1) (w.alloc o) (w.alloc o) := Below.refl _ _
theorem bx_more {w W W' : World} {o : Obj} (h : Below (w.heap.size + 1) (w.alloc o) W) (k : Below W.heap.size W W') : Below (w.heap.size + 1) (w.alloc o) W' := h.trans (k.mono (by have := h.size; simpa using this))
theorem bx_alloc {w W : World} {o : Obj} (h : Below (w.heap.size + 1) (w.alloc o) W) (o' : Obj) : Below (w.heap.size + 1) (w.alloc o) (W.alloc o') := h.alloc (by have := h.size; simpa using this) o'
theorem bx_lt {w W : World} {o : Obj} (h : Below (w.heap.size + 1) (w.alloc o) W) : w.heap.size < W.heap.size := by have := h.size; rw [World.size_alloc] at this; omega
theorem bx_below {w W : World} {o : Obj} (h : Below (w.heap.size + 1) (w.alloc o) W) : Below w.heap.size w W := ((Below.refl _ _).alloc (Nat.le_refl _) _).trans (h.mono (by omega))
theorem box1 {w W : World} {a0 : Value} {t : TypeId} (hb : Below (w.heap.size + 1) (w.alloc (.cells #[a0] t)) W) : W.cell? ⟨w.heap.size, 0, none⟩ = some a0 :=
  (hb.cell (p := ⟨w.heap.size, 0, none⟩) (by simp)).trans (by simp)
theorem box2 {w W : World} {a0 a1 : Value} {t : TypeId} (hb : Below (w.heap.size + 1) (w.alloc (.cells #[a0, a1] t)) W) : W.cell? ⟨w.heap.size, 0, none⟩ = some a0 ∧ W.cell? ⟨w.heap.size, 1, none⟩ = some a1 :=
  ⟨(hb.cell (p := ⟨w.heap.size, 0, none⟩) (by simp)).trans (by simp), (hb.cell (p := ⟨w.heap.size, 1, none⟩) (by simp)).trans (by simp)⟩
theorem bytes_eq {a b : ByteArray} (h : (a.toList == b.toList) = true) : a = b := by
  rw [beq_iff_eq, ByteArray.toList_eq, ByteArray.toList_eq] at h
  exact ByteArray.ext (Array.toList_inj.1 h)

/-! ### plainly -/
/-- Where a name stands; below 0: nowhere. -/
def placeT (n : ByteArray) : List TM → Int
  | [] => -1
  | t :: l => if t.name.toList = n.toList then 0 else if placeT n l < 0 then -1 else placeT n l + 1
/-- How two stand. -/
def orderT (a b : TM) : Int := if a.at_ < b.at_ then -1 else if b.at_ < a.at_ then 1 else Lib.compareBytes a.name.data.toList b.name.data.toList
def nextT : List TM → Int
  | [] => -1
  | t :: _ => t.at_
end Go.Proofs.Ytpadbkplknnopaa
