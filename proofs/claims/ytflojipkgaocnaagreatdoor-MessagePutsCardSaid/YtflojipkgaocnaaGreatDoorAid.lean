/-
  Small laws of this writer's: rows of bytes that the call owns, behind other calls, and as a string.
-/
import Derived.WalkKit
import Derived.Deep.AppendLies
import Derived.Deep.Draws
namespace Go.Proofs.YtflojipkgaocnaaGreatDoor
open Go.RowKit

theorem ret_int {k : IntKind} {a b : Int} (h : a = b) : Ending.returned (.int k a) = .returned (.int k b) := by rw [h]
theorem ret_bool {a b : Bool} (h : a = b) : Ending.returned (.bool a) = .returned (.bool b) := by rw [h]
theorem ret_str {a b : ByteArray} (h : a = b) : Ending.returned (.string a) = .returned (.string b) := by rw [h]

/-- Bytes as cells. -/
def bcells (l : List UInt8) : List Value := l.map (fun b => Value.int .u8 b.toNat)
theorem bcells_len (l : List UInt8) : (bcells l).length = l.length := by simp [bcells]
theorem bcells_nil : bcells [] = [] := rfl
theorem bcells_append (l m : List UInt8) : bcells (l ++ m) = bcells l ++ bcells m := by simp [bcells]
theorem bcells_one (b : UInt8) : bcells [b] = [.int .u8 b.toNat] := rfl
theorem bcells_snoc (l : List UInt8) (b : UInt8) : bcells (l ++ [b]) = bcells l ++ [.int .u8 b.toNat] := by simp [bcells]

/-- A text of bytes. -/
def bstr (l : List UInt8) : ByteArray := ⟨l.toArray⟩
theorem bstr_list (l : List UInt8) : (bstr l).data.toList = l := rfl
theorem bstr_size (l : List UInt8) : (bstr l).size = l.length := by simp [bstr, ByteArray.size]
theorem bstr_of (s : ByteArray) : bstr s.data.toList = s := rfl

theorem below_drewN {B : Nat} {a w : World} (h : Below B a w) (n : Nat) : Below B a (w.drewN n) := ⟨h.os, h.tape, h.output, h.size, h.block⟩

/-- One call behind another. -/
theorem bstep {a w w' : World} (h : Below a.heap.size a w) (k : Below w.heap.size w w') : Below a.heap.size a w' := h.trans (k.mono h.size)

theorem own_below {base : Nat} {e : TypeId} {size : Nat} {v : Value} {n : Nat} {xs : List Value} {w w' : World} (hb : Below w.heap.size w w') (h : w.ownsRow base e size v n xs) : w'.ownsRow base e size v n xs := by
  obtain ⟨h1, h2⟩ := h
  refine ⟨h1, ?_⟩
  rcases h2 with h2 | ⟨g, cap, cur, hv, hg, hh, r⟩
  · exact Or.inl h2
  · exact Or.inr ⟨g, cap, cur, hv, hg, by rw [hb.block g (Array.getElem?_eq_some_iff.1 hh).1]; exact hh, r⟩

/-- 'string(b)', b a row of bytes that the call owns. -/
theorem conv_own {P : Program} {w : World} {base : Nat} {src dst e : TypeId} {v : Value} {n : Nat} {l : List UInt8} (hs : P.underlying src = some (.slice e)) (he : P.underlying e = some (.int .u8)) (hd : P.underlying dst = some .string)
    (h : w.ownsRow base e 1 v n (bcells l)) : (convert src dst v).run P w = .ok (.string (bstr l)) w := by
  have hl : n = l.length := by
    have := h.1
    rw [bcells_len] at this
    omega
  rcases Nat.eq_zero_or_pos n with h0 | h0
  · subst h0
    have hl0 : l = [] := List.eq_nil_of_length_eq_zero hl.symm
    subst hl0
    rcases h.2 with ⟨rfl, _⟩ | ⟨g, cap, cur, rfl, _⟩
    · rw [run_convert_bytes_string w src dst e none 0 0 hs he hd]
      simp [Conv.bytesToString, bstr, ByteArray.empty, ByteArray.emptyWithCapacity]
      rfl
    · exact run_convert_bytes_back w src dst e ⟨g, 0, none⟩ cap [] hs he hd (fun j hj => absurd hj (by simp))
  · obtain ⟨g, cap, rfl, _, _⟩ := h.form h0
    subst hl
    refine run_convert_bytes_back w src dst e ⟨g, 0, none⟩ cap l hs he hd (fun j hj => ?_)
    exact h.cells (g := g) rfl j _ (by simp [bcells, hj])

/-- 'string([]byte{..})': a block that is just made. -/
theorem conv_block {P : Program} (w : World) (src dst e : TypeId) (cap : Nat) (l : List UInt8) (hs : P.underlying src = some (.slice e)) (he : P.underlying e = some (.int .u8)) (hd : P.underlying dst = some .string) :
    (convert src dst (.slice (some ⟨w.heap.size, 0, none⟩) l.length cap)).run P (w.alloc (.cells (bcells l).toArray e)) = .ok (.string (bstr l)) (w.alloc (.cells (bcells l).toArray e)) := by
  refine run_convert_bytes_back _ src dst e ⟨w.heap.size, 0, none⟩ cap l hs he hd (fun j hj => ?_)
  have hadd : (⟨w.heap.size, 0, none⟩ : Addr).add j = ⟨w.heap.size, j, none⟩ := by unfold Addr.add; split <;> simp_all
  rw [hadd, World.cell?_alloc_new]
  simp [bcells, hj]

/-- '[]byte(s)': where it lies, and that its cells are the bytes. -/
theorem conv_text {P : Program} (w : World) (src dst e : TypeId) (s : ByteArray) (hs : P.underlying src = some .string) (hd : P.underlying dst = some (.slice e)) (he : P.underlying e = some (.int .u8)) :
    ∃ (cap : Nat) (C : Array Value), s.size ≤ C.size ∧ (∀ j, (h : j < s.size) → C[j]? = some (.int .u8 (s[j].toNat : Int))) ∧
      (convert src dst (.string s)).run P w = .ok (.slice (some ⟨w.heap.size, 0, none⟩) s.size cap) (w.drew.alloc (.cells C e (C.size, C.size + 1))) :=
  ⟨_, _, by simp [bytesRow], fun j h => bytesRow_at s _ j (by exact h), run_bytes_of_string w src dst e s hs hd he⟩
end Go.Proofs.YtflojipkgaocnaaGreatDoor
