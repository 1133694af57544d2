/-
  Events and batches, as a walk is told of them, and plainly: which are right, what is wrong with a batch.
-/
import Derived.Test.YtflojipkgaocnaaGreatDoorEvName
namespace Go.Proofs.YtflojipkgaocnaaGreatDoor
open Go.RowKit

structure EV where
  kind : ByteArray
  data : ByteArray
structure BW where
  stream : ByteArray
  expect : Int
  session : Int
  seq : Int
  events : List EV

def EV.val (e : EV) : Value := .agg #[.string e.kind, .string e.data]

/-- A slice of events whose cells lie ahead of block B. -/
def IsEvents (B : Nat) (w : World) (v : Value) (l : List EV) : Prop :=
  ∃ (a : Option Addr) (cap : Nat), v = .slice a l.length cap ∧ l.length ≤ cap ∧ cap ≤ maxLen ∧ (a = none → cap = 0) ∧
    (0 < l.length → ∃ b off, a = some ⟨b, off, none⟩ ∧ b < B ∧ ∀ i, (h : i < l.length) → w.cell? ⟨b, off + i * 2, none⟩ = some (.string l[i].kind) ∧ w.cell? ⟨b, off + i * 2 + 1, none⟩ = some (.string l[i].data))

theorem IsEvents.keep {B B' : Nat} {w w' : World} {v : Value} {l : List EV} (h : IsEvents B w v l) (hb : Below B' w w') (hB : B ≤ B') : IsEvents B w' v l := by
  obtain ⟨a, cap, rfl, h1, h2, h3, h5⟩ := h
  refine ⟨a, cap, rfl, h1, h2, h3, fun hp => ?_⟩
  obtain ⟨b, off, rfl, hlt, hc⟩ := h5 hp
  exact ⟨b, off, rfl, hlt, fun i hi => ⟨by rw [hb.cell (p := ⟨b, off + i * 2, none⟩) (Nat.lt_of_lt_of_le hlt hB)]; exact (hc i hi).1, by rw [hb.cell (p := ⟨b, off + i * 2 + 1, none⟩) (Nat.lt_of_lt_of_le hlt hB)]; exact (hc i hi).2⟩⟩
theorem IsEvents.up {B B' : Nat} {w : World} {v : Value} {l : List EV} (h : IsEvents B w v l) (hB : B ≤ B') : IsEvents B' w v l := by
  obtain ⟨a, cap, rfl, h1, h2, h3, h5⟩ := h
  refine ⟨a, cap, rfl, h1, h2, h3, fun hp => ?_⟩
  obtain ⟨b, off, rfl, hlt, hc⟩ := h5 hp
  exact ⟨b, off, rfl, Nat.lt_of_lt_of_le hlt hB, hc⟩
theorem IsEvents.form {B : Nat} {w : World} {v : Value} {l : List EV} (h : IsEvents B w v l) : ∃ a cap, v = .slice a l.length cap := by
  obtain ⟨a, cap, rfl, _⟩ := h
  exact ⟨a, cap, rfl⟩
/-- Its cells at a place. -/
theorem IsEvents.get {B : Nat} {w : World} {v : Value} {l : List EV} (h : IsEvents B w v l) (i : Nat) (hi : i < l.length) : ∃ b off cap, v = .slice (some ⟨b, off, none⟩) l.length cap ∧ b < B ∧ l.length ≤ cap ∧
    w.cell? ⟨b, off + i * 2, none⟩ = some (.string l[i].kind) ∧ w.cell? ⟨b, off + i * 2 + 1, none⟩ = some (.string l[i].data) := by
  obtain ⟨a, cap, rfl, h1, h2, h3, h5⟩ := h
  obtain ⟨b, off, rfl, hlt, hc⟩ := h5 (by omega)
  exact ⟨b, off, cap, rfl, hlt, h1, (hc i hi).1, (hc i hi).2⟩
theorem events_nil (B : Nat) (w : World) : IsEvents B w (.slice none 0 0) [] := ⟨none, 0, rfl, by simp, by simp, fun _ => rfl, fun h => absurd h (by simp)⟩

/-- A batch. -/
def IsBatch (B : Nat) (w : World) (v : Value) (b : BW) : Prop := ∃ l, v = .agg #[.string b.stream, .int .i64 b.expect, .int .i64 b.session, .int .i64 b.seq, l] ∧ IsEvents B w l b.events
theorem IsBatch.keep {B B' : Nat} {w w' : World} {v : Value} {b : BW} (h : IsBatch B w v b) (hb : Below B' w w') (hB : B ≤ B') : IsBatch B w' v b := by
  obtain ⟨l, rfl, h1⟩ := h
  exact ⟨l, rfl, h1.keep hb hB⟩
theorem IsBatch.up {B B' : Nat} {w : World} {v : Value} {b : BW} (h : IsBatch B w v b) (hB : B ≤ B') : IsBatch B' w v b := by
  obtain ⟨l, rfl, h1⟩ := h
  exact ⟨l, rfl, h1.up hB⟩

/-! ### plainly -/
def rightE (e : EV) : Bool := decide (e.data.size ≤ 200) && nameB e.kind
def numB (n : Int) : Bool := decide (1 ≤ n) && decide (n ≤ 274877906944)
def wrongB (b : BW) : Prop := nameB b.stream = false ∨ b.expect < -1 ∨ 274877906944 < b.expect ∨ numB b.session = false ∨ numB b.seq = false ∨ b.events.length = 0
instance (b : BW) : Decidable (wrongB b) := by unfold wrongB; infer_instance
/-- What is wrong with a batch. -/
def fitsB (b : BW) : Nat :=
  if wrongB b then 1 else if 8 < b.events.length then 4 else if b.events.any (fun e => !rightE e) = true then 1 else 0
end Go.Proofs.YtflojipkgaocnaaGreatDoor
