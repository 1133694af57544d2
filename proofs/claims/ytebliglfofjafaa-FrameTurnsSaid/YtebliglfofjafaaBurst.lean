/-
  A text as a row of bytes, and the turning of bits in it.
-/
import Derived.Test.YtebliglfofjafaaCrcBits
import Derived.Test.YtebliglfofjafaaCrcPlain2
import Derived.Test.YtebliglfofjafaaAid
import Derived.Deep.RegionHeld3
import Derived.BigRegion
namespace Go.Proofs.Ytebliglfofjafaa
open Go.RowKit

theorem u32_bounds {a : Int} (w0 : (Lit.int .u32 a).wf = true) : ∃ c : Nat, c < 4294967296 ∧ a = c := by
  have hx : 0 ≤ a ∧ a ≤ 4294967295 := by simpa [Lit.wf, IntKind.min, IntKind.max, IntKind.signed, IntKind.bits] using w0
  exact ⟨a.toNat, by omega, by omega⟩

theorem i64_bounds {a : Int} (w0 : (Lit.int .i64 a).wf = true) : -9223372036854775808 ≤ a ∧ a ≤ 9223372036854775807 := by
  simpa [Lit.wf, IntKind.min, IntKind.max, IntKind.signed, IntKind.bits] using w0

/-- Block B is the text L, turned here and there, and what stands behind it. -/
def TextAt (w : World) (B m : Nat) (L : List UInt8) : Prop :=
  ∃ C : Array Value, C.size = m ∧ L.length ≤ m ∧ w.heap[B]? = some (.cells C 5 (m, m + 1)) ∧ ∀ j, (h : j < L.length) → C[j]? = some (.int .u8 (L[j].toNat : Int))

theorem TextAt.set {w : World} {B m : Nat} {L : List UInt8} (h : TextAt w B m L) (q : Nat) (b : UInt8) : TextAt (w.setCell ⟨B, q, none⟩ (.int .u8 b.toNat)) B m (L.set q b) := by
  obtain ⟨C, h1, h2, h3, h4⟩ := h
  refine ⟨C.setIfInBounds q (.int .u8 b.toNat), by simpa using h1, by simpa using h2, ?_, fun j hj => ?_⟩
  · simp [World.setCell, Array.getElem?_modify, h3]
  · have hj' : j < L.length := by simpa using hj
    have := (Array.getElem?_eq_some_iff.1 (h4 j hj')).1
    rw [Array.getElem?_setIfInBounds, List.getElem_set]
    by_cases e : q = j
    · rw [if_pos e, if_pos e, if_pos (by omega)]
    · rw [if_neg e, if_neg e]; exact h4 j hj'

theorem TextAt.below {w w' : World} {B m : Nat} {L : List UInt8} (hb : Below w.heap.size w w') (h : TextAt w B m L) : TextAt w' B m L := by
  obtain ⟨C, h1, h2, h3, h4⟩ := h
  have hlt : B < w.heap.size := (Array.getElem?_eq_some_iff.1 h3).1
  exact ⟨C, h1, h2, by rw [hb.block B hlt]; exact h3, h4⟩

theorem TextAt.str {P : Program} {w : World} {B m : Nat} {L : List UInt8} (h : TextAt w B m L) (src dst : TypeId) (cap n : Nat) (hn : L.length = n) (hs : P.underlying src = some (.slice 5)) (he : P.underlying 5 = some (.int .u8)) (hd : P.underlying dst = some .string) :
    (convert src dst (.slice (some ⟨B, 0, none⟩) n cap)).run P w = .ok (.string (bstr L)) w := by
  subst hn
  obtain ⟨C, h1, h2, h3, h4⟩ := h
  refine run_convert_bytes_back w src dst 5 ⟨B, 0, none⟩ cap L hs he hd (fun j hj => ?_)
  have hadd : (⟨B, 0, none⟩ : Addr).add j = ⟨B, j, none⟩ := by unfold Addr.add; split <;> simp_all
  rw [hadd, cell_of_row w B j C _ _ h3]
  exact h4 j hj

theorem bytes_eq {L : List UInt8} {s : ByteArray} (e : (bstr L).toList = s.toList) : L = s.data.toList := by
  have h := e
  rw [ByteArray.toList_eq, ByteArray.toList_eq] at h
  exact h

theorem u8_flip (b : UInt8) (r : Nat) (hr : r < 8) : bits .xor .u8 (b.toNat : Int) (2 ^ r % 256) = ((b ^^^ UInt8.ofNat (2 ^ r)).toNat : Int) := by
  have hp : 2 ^ r < 256 := Nat.pow_lt_pow_right (a := 2) (n := 8) (by omega) hr
  have hc : ((2 : Int) ^ r) = ((2 ^ r : Nat) : Int) := by simp
  rw [hc]
  generalize 2 ^ r = p at hp
  have hb : b.toNat < 256 := b.toNat_lt
  rw [show ((p : Int) % 256) = (p : Int) by omega, u8_xor_nat _ _ hb hp, UInt8.toNat_xor, UInt8.toNat_ofNat', Nat.mod_eq_of_lt hp]

theorem bit_on {b i : Nat} (hb : b < 4294967296) (h : (bits .and .u32 ((b : Int) / 2 ^ i) 1 == 1) = true) : b / 2 ^ i % 2 = 1 := by
  have e : ((b : Int) / 2 ^ i) = ((b / 2 ^ i : Nat) : Int) := by simp
  rw [e] at h
  exact u32_odd (Nat.lt_of_le_of_lt (Nat.div_le_self _ _) hb) h
theorem bit_off {b i : Nat} (hb : b < 4294967296) (h : (bits .and .u32 ((b : Int) / 2 ^ i) 1 == 1) = false) : b / 2 ^ i % 2 = 0 := by
  have e : ((b : Int) / 2 ^ i) = ((b / 2 ^ i : Nat) : Int) := by simp
  rw [e] at h
  have := u32_even (Nat.lt_of_le_of_lt (Nat.div_le_self _ _) hb) h
  omega

end Go.Proofs.Ytebliglfofjafaa
