/-
  Rows of anything in memory; entries; messages as interface values.
-/
import Derived.Test.YtflojipkgaocnaaGreatDoorMsMsg
namespace Go.Proofs.YtflojipkgaocnaaGreatDoor
open Go.RowKit
set_option linter.unusedVariables false

/-- A slice whose elements have k cells each, that f tells; they lie ahead of block B. -/
def IsRow {α : Type} (k : Nat) (f : α → List Value) (B : Nat) (w : World) (v : Value) (l : List α) : Prop :=
  ∃ (a : Option Addr) (cap : Nat), v = .slice a l.length cap ∧ l.length ≤ cap ∧ cap ≤ maxLen ∧ (a = none → cap = 0) ∧
    (0 < l.length → ∃ b off, a = some ⟨b, off, none⟩ ∧ b < B ∧ ∀ i, (h : i < l.length) → ∀ j, j < k → w.cell? ⟨b, off + i * k + j, none⟩ = (f l[i])[j]?)
section
variable {α : Type} {k : Nat} {f : α → List Value} {B B' : Nat} {w w' : World} {v : Value} {l : List α}
theorem IsRow.keep (h : IsRow k f B w v l) (hb : Below B' w w') (hB : B ≤ B') : IsRow k f B w' v l := by
  obtain ⟨a, cap, rfl, h1, h2, h3, h5⟩ := h
  refine ⟨a, cap, rfl, h1, h2, h3, fun hp => ?_⟩
  obtain ⟨b, off, rfl, hlt, hc⟩ := h5 hp
  exact ⟨b, off, rfl, hlt, fun i hi j hj => by rw [hb.cell (p := ⟨b, off + i * k + j, none⟩) (Nat.lt_of_lt_of_le hlt hB)]; exact hc i hi j hj⟩
theorem IsRow.up (h : IsRow k f B w v l) (hB : B ≤ B') : IsRow k f B' w v l := by
  obtain ⟨a, cap, rfl, h1, h2, h3, h5⟩ := h
  refine ⟨a, cap, rfl, h1, h2, h3, fun hp => ?_⟩
  obtain ⟨b, off, rfl, hlt, hc⟩ := h5 hp
  exact ⟨b, off, rfl, Nat.lt_of_lt_of_le hlt hB, hc⟩
theorem IsRow.form (h : IsRow k f B w v l) : ∃ a cap, v = .slice a l.length cap := by
  obtain ⟨a, cap, rfl, _⟩ := h
  exact ⟨a, cap, rfl⟩
theorem IsRow.le (h : IsRow k f B w v l) : l.length ≤ 9223372036854775807 := by
  obtain ⟨a, cap, rfl, h1, h2, _⟩ := h
  unfold maxLen at h2
  omega
theorem IsRow.get (h : IsRow k f B w v l) (i : Nat) (hi : i < l.length) : ∃ b off cap, v = .slice (some ⟨b, off, none⟩) l.length cap ∧ b < B ∧ l.length ≤ cap ∧ ∀ j, j < k → w.cell? ⟨b, off + i * k + j, none⟩ = (f l[i])[j]? := by
  obtain ⟨a, cap, rfl, h1, h2, h3, h5⟩ := h
  obtain ⟨b, off, rfl, hlt, hc⟩ := h5 (by omega)
  exact ⟨b, off, cap, rfl, hlt, h1, hc i hi⟩
theorem row_nil (B : Nat) (w : World) : IsRow k f B w (.slice none 0 0) [] := ⟨none, 0, rfl, by simp, by simp, fun _ => rfl, fun h => absurd h (by simp)⟩
end
theorem flat_len {α β : Type} (f : α → List β) (k : Nat) (hf : ∀ x, (f x).length = k) : ∀ l : List α, (l.flatMap f).length = l.length * k
  | [] => by simp
  | x :: l => by
    rw [List.flatMap_cons, List.length_append, flat_len f k hf l, hf, List.length_cons, Nat.add_mul]
    omega
theorem flat_at {α β : Type} (f : α → List β) (k : Nat) (hf : ∀ x, (f x).length = k) : ∀ (l : List α) (i : Nat) (h : i < l.length) (j : Nat), j < k → (l.flatMap f)[i * k + j]? = (f l[i])[j]?
  | [], i, h, _, _ => absurd h (by simp)
  | x :: l, 0, _, j, hj => by
    rw [List.flatMap_cons, Nat.zero_mul, Nat.zero_add, List.getElem?_append_left (by rw [hf]; exact hj)]
    rfl
  | x :: l, i + 1, h, j, hj => by
    rw [List.flatMap_cons, List.getElem?_append_right (by rw [hf, Nat.add_mul]; omega), hf, show (i + 1) * k + j - k = i * k + j by rw [Nat.add_mul]; omega]
    exact flat_at f k hf l i (by simpa using h) j hj
/-- A row of the call's own. -/
theorem row_own {α : Type} {f : α → List Value} {k : Nat} (hf : ∀ x, (f x).length = k) {w : World} {base : Nat} {e : TypeId} {v : Value} {l : List α} (h : w.ownsRow base e k v l.length (l.flatMap f)) : IsRow k f w.heap.size w v l := by
  rcases h.2 with ⟨rfl, h0⟩ | ⟨g, cap, cur, rfl, hb, hg, hn, hc, hsz, htk⟩
  · have : l = [] := List.eq_nil_of_length_eq_zero h0
    subst this
    exact row_nil _ _
  · refine ⟨_, _, rfl, hn, hc, fun e => (by cases e), fun hp => ⟨g, 0, rfl, (Array.getElem?_eq_some_iff.1 hg).1, fun i hi j hj => ?_⟩⟩
    have hij : i * k + j < l.length * k := by
      have : (i + 1) * k ≤ l.length * k := Nat.mul_le_mul_right _ hi
      rw [Nat.add_mul] at this
      omega
    have h1 := flat_at f k hf l i hi j hj
    have hfj : j < (f l[i]).length := by rw [hf]; exact hj
    obtain ⟨u, hu⟩ : ∃ u, (f l[i])[j]? = some u := ⟨_, List.getElem?_eq_getElem hfj⟩
    rw [hu] at h1 ⊢
    rw [Nat.zero_add, cell_of_row w g (i * k + j) cur _ _ hg, ← Array.getElem?_toList]
    rw [← htk, List.getElem?_take_of_lt hij] at h1
    exact h1

/-! ### numbers, marks, entries -/
def icell (n : Int) : List Value := [.int .i64 n]
def mcell (x : Int × Int) : List Value := [.int .i64 x.1, .int .i64 x.2]
def ecell (x : EN × Value) : List Value := [.int .i64 x.1.pos, .int .i64 x.1.epoch, .string x.1.b.stream, .int .i64 x.1.b.expect, .int .i64 x.1.b.session, .int .i64 x.1.b.seq, x.2]
theorem icell_len (n : Int) : (icell n).length = 1 := rfl
theorem mcell_len (x : Int × Int) : (mcell x).length = 2 := rfl
theorem ecell_len (x : EN × Value) : (ecell x).length = 7 := rfl
abbrev IsNums := IsRow 1 icell
abbrev IsMarks := IsRow 2 mcell
def IsEntries (B : Nat) (w : World) (v : Value) (l : List EN) : Prop := ∃ P : List (EN × Value), P.map (·.1) = l ∧ IsRow 7 ecell B w v P ∧ ∀ p ∈ P, IsEvents B w p.2 p.1.b.events
section
variable {B B' : Nat} {w w' : World} {v : Value}
theorem IsRow.at1 {l : List Int} (h : IsRow 1 icell B w v l) (i : Nat) (hi : i < l.length) : ∃ b off cap, v = .slice (some ⟨b, off, none⟩) l.length cap ∧ b < B ∧ l.length ≤ cap ∧ w.cell? ⟨b, off + i, none⟩ = some (.int .i64 l[i]) := by
  obtain ⟨b, off, cap, h1, h2, h3, h4⟩ := h.get i hi
  have := h4 0 (by omega)
  rw [Nat.mul_one, Nat.add_zero] at this
  exact ⟨b, off, cap, h1, h2, h3, this⟩
theorem IsRow.at2 {l : List (Int × Int)} (h : IsRow 2 mcell B w v l) (i : Nat) (hi : i < l.length) : ∃ b off cap, v = .slice (some ⟨b, off, none⟩) l.length cap ∧ b < B ∧ l.length ≤ cap ∧ w.cell? ⟨b, off + i * 2, none⟩ = some (.int .i64 l[i].1) ∧ w.cell? ⟨b, off + i * 2 + 1, none⟩ = some (.int .i64 l[i].2) := by
  obtain ⟨b, off, cap, h1, h2, h3, h4⟩ := h.get i hi
  exact ⟨b, off, cap, h1, h2, h3, h4 0 (by omega), h4 1 (by omega)⟩
theorem IsEntries.keep {l : List EN} (h : IsEntries B w v l) (hb : Below B' w w') (hB : B ≤ B') : IsEntries B w' v l := by
  obtain ⟨P, h1, h2, h3⟩ := h
  exact ⟨P, h1, h2.keep hb hB, fun p hp => (h3 p hp).keep hb hB⟩
theorem IsEntries.up {l : List EN} (h : IsEntries B w v l) (hB : B ≤ B') : IsEntries B' w v l := by
  obtain ⟨P, h1, h2, h3⟩ := h
  exact ⟨P, h1, h2.up hB, fun p hp => (h3 p hp).up hB⟩
theorem IsEntries.form {l : List EN} (h : IsEntries B w v l) : ∃ a cap, v = .slice a l.length cap := by
  obtain ⟨P, h1, h2, h3⟩ := h
  obtain ⟨a, cap, h4⟩ := h2.form
  exact ⟨a, cap, by rw [h4, ← h1, List.length_map]⟩
theorem IsEntries.le {l : List EN} (h : IsEntries B w v l) : l.length ≤ 9223372036854775807 := by
  obtain ⟨P, h1, h2, h3⟩ := h
  rw [← h1, List.length_map]
  exact h2.le
theorem IsEntries.get {l : List EN} (h : IsEntries B w v l) (i : Nat) (hi : i < l.length) : ∃ b off cap, v = .slice (some ⟨b, off, none⟩) l.length cap ∧ b < B ∧ l.length ≤ cap ∧
    w.cell? ⟨b, off + i * 7, none⟩ = some (.int .i64 l[i].pos) ∧ w.cell? ⟨b, off + i * 7 + 1, none⟩ = some (.int .i64 l[i].epoch) ∧ w.cell? ⟨b, off + i * 7 + 2, none⟩ = some (.string l[i].b.stream) ∧
    w.cell? ⟨b, off + i * 7 + 3, none⟩ = some (.int .i64 l[i].b.expect) ∧ w.cell? ⟨b, off + i * 7 + 4, none⟩ = some (.int .i64 l[i].b.session) ∧ w.cell? ⟨b, off + i * 7 + 5, none⟩ = some (.int .i64 l[i].b.seq) ∧
    ∃ ea ec, w.cell? ⟨b, off + i * 7 + 6, none⟩ = some (.slice ea l[i].b.events.length ec) ∧ IsEvents B w (.slice ea l[i].b.events.length ec) l[i].b.events := by
  obtain ⟨P, rfl, h2, h3⟩ := h
  rw [List.length_map] at hi
  obtain ⟨b, off, cap, h4, h5, h6, h7⟩ := h2.get i hi
  have he := h3 P[i] (List.getElem_mem hi)
  obtain ⟨ea, ec, hf⟩ := he.form
  have h8 : w.cell? ⟨b, off + i * 7 + 6, none⟩ = some P[i].2 := h7 6 (by omega)
  rw [hf] at h8 he
  simp only [List.getElem_map, List.length_map]
  exact ⟨b, off, cap, h4, h5, h6, h7 0 (by omega), h7 1 (by omega), h7 2 (by omega), h7 3 (by omega), h7 4 (by omega), h7 5 (by omega), ea, ec, h8, he⟩
theorem entries_nil (B : Nat) (w : World) : IsEntries B w (.slice none 0 0) [] := ⟨[], rfl, row_nil _ _, fun p hp => absurd hp (by simp)⟩
end
/-- An entry by value. -/
def IsEntry (B : Nat) (w : World) (v : Value) (e : EN) : Prop := ∃ lv, v = .agg #[.int .i64 e.pos, .int .i64 e.epoch, .string e.b.stream, .int .i64 e.b.expect, .int .i64 e.b.session, .int .i64 e.b.seq, lv] ∧ IsEvents B w lv e.b.events
theorem IsEntry.keep {B B' : Nat} {w w' : World} {v : Value} {e : EN} (h : IsEntry B w v e) (hb : Below B' w w') (hB : B ≤ B') : IsEntry B w' v e := by
  obtain ⟨lv, h1, h2⟩ := h
  exact ⟨lv, h1, h2.keep hb hB⟩

/-! ### messages -/
def IsMsg (B : Nat) (w : World) (v : Value) : Msg → Prop
  | .beat a b c => v = .iface 57 (.agg #[.int .i64 a, .int .i64 b, .int .i64 c])
  | .join a b => v = .iface 59 (.agg #[.int .i64 a, .int .i64 b])
  | .lease a b => v = .iface 61 (.agg #[.int .i64 a, .int .i64 b])
  | .view a c s b => ∃ cv sv bv, v = .iface 63 (.agg #[.int .i64 a, cv, sv, bv]) ∧ IsNums B w cv c ∧ IsNums B w sv s ∧ IsNums B w bv b
  | .whr a => v = .iface 65 (.agg #[.int .i64 a])
  | .hav a b c l => ∃ lv, v = .iface 67 (.agg #[.int .i64 a, .int .i64 b, .int .i64 c, lv]) ∧ IsMarks B w lv l
  | .logs a b c d e f l => ∃ lv, v = .iface 69 (.agg #[.int .i64 a, .int .i64 b, .int .i64 c, .int .i64 d, .int .i64 e, .int .i64 f, lv]) ∧ IsEntries B w lv l
  | .ack a b c => v = .iface 51 (.agg #[.int .i64 a, .int .i64 b, .int .i64 c])
  | .ask a b c d => v = .iface 71 (.agg #[.int .i64 a, .int .i64 b, .int .i64 c, .int .i64 d])
  | .told a b c d => v = .iface 73 (.agg #[.int .i64 a, .int .i64 b, .int .i64 c, .int .i64 d])
  | .app a b => ∃ lv, v = .iface 75 (.agg #[.int .i64 a, .string b.stream, .int .i64 b.expect, .int .i64 b.session, .int .i64 b.seq, lv]) ∧ IsEvents B w lv b.events
  | .red a s f => v = .iface 77 (.agg #[.int .i64 a, .string s, .int .i64 f])
  | .rep a b c d e f => v = .iface 81 (.agg #[.int .i64 a, .int .i64 b, .int .i64 c, .int .i64 d, .int .i64 e, .int .i64 f])
  | .res a b c l => ∃ lv, v = .iface 83 (.agg #[.int .i64 a, .int .i64 b, .int .i64 c, lv]) ∧ IsEvents B w lv l
theorem IsMsg.keep {B B' : Nat} {w w' : World} {v : Value} {m : Msg} (h : IsMsg B w v m) (hb : Below B' w w') (hB : B ≤ B') : IsMsg B w' v m := by
  cases m <;> first | exact h | (obtain ⟨lv, h1, h2⟩ := h; exact ⟨lv, h1, h2.keep hb hB⟩) | (obtain ⟨cv, sv, bv, h1, h2, h3, h4⟩ := h; exact ⟨cv, sv, bv, h1, h2.keep hb hB, h3.keep hb hB, h4.keep hb hB⟩)
theorem IsMsg.up {B B' : Nat} {w : World} {v : Value} {m : Msg} (h : IsMsg B w v m) (hB : B ≤ B') : IsMsg B' w v m := by
  cases m <;> first | exact h | (obtain ⟨lv, h1, h2⟩ := h; exact ⟨lv, h1, h2.up hB⟩) | (obtain ⟨cv, sv, bv, h1, h2, h3, h4⟩ := h; exact ⟨cv, sv, bv, h1, h2.up hB, h3.up hB, h4.up hB⟩)
end Go.Proofs.YtflojipkgaocnaaGreatDoor
