/-
  message.Right at the messages that a client tells: what they are; Kind, numbers. Printed by gen_rt.py of this claim's writer.
-/
import Derived.Test.YtapgjjfndbfnpaaDoorRtPut
import Derived.WalkKit
import Derived.Deep.AppendLies
namespace Go.Proofs.YtapgjjfndbfnpaaDoor.Ms
open Go.RowKit
set_option linter.unusedSimpArgs false
set_option linter.unusedVariables false

def catL {α : Type} (put : α → List UInt8) (l : List α) : List UInt8 := l.flatMap put
theorem catL_cons {α : Type} {put : α → List UInt8} (x : α) (l : List α) : catL put (x :: l) = put x ++ catL put l := by simp [catL]
def putI (n : Int) : List UInt8 := putN (clampN n)
inductive Msg where
  | whr (a : Int)
  | app (a : Int) (b : BW)
  | red (a : Int) (s : ByteArray) (f : Int)
def Msg.kind : Msg → Nat
  | .whr .. => 5 | .app .. => 11 | .red .. => 12
def Msg.nums : Msg → List Int
  | .whr a => [a]
  | .app a _ => [a]
  | .red a _ _ => [a]
def numM (n : Int) : Bool := decide (0 ≤ n) && decide (n ≤ 274877906944)
def Msg.rest : Msg → List UInt8
  | .app _ b => (putB b).data.toList
  | .red _ s f => putT s.data.toList ++ putI f
  | _ => []
def Msg.restOk : Msg → Bool
  | .app _ b => decide (fitsB b = 0)
  | .red _ s f => nameB s && numM f
  | _ => true
def rightM (m : Msg) : Bool := m.nums.all numM && m.restOk
def bodyM (m : Msg) : List UInt8 := catL putI m.nums ++ m.rest
def putM (m : Msg) : ByteArray := if rightM m = true then bstr (UInt8.ofNat m.kind :: bodyM m) else ⟨#[]⟩
theorem kind_bd (m : Msg) : 1 ≤ m.kind ∧ m.kind ≤ 14 := by cases m <;> simp [Msg.kind]
theorem kind_nat (m : Msg) : (UInt8.ofNat m.kind).toNat = m.kind := toNat_of (by have := (kind_bd m).2; omega)
theorem putM_list {m : Msg} (h : rightM m = true) : (putM m).data.toList = UInt8.ofNat m.kind :: bodyM m := by
  rw [putM, if_pos h, bstr_list]
theorem putM_not {m : Msg} (h : rightM m = false) : putM m = ⟨#[]⟩ := by rw [putM, if_neg (by rw [h]; decide)]


theorem decode_four (s : ByteArray) (p : Nat) : (Utf8.decode s p).2 ≤ 4 := by
  unfold Utf8.decode
  simp only
  repeat' split
  all_goals simp
theorem nameGo_size : ∀ (k : Nat) (s : ByteArray) (p : Nat) (any : Bool), nameGo s k p any = true → s.size ≤ p + 4 * k
  | 0, s, p, any, h => by
    rw [nameGo] at h
    by_cases hp : p < s.size
    · rw [if_pos hp] at h; cases h
    · omega
  | k + 1, s, p, any, h => by
    rw [nameGo] at h
    by_cases hp : p < s.size
    · rw [if_pos hp] at h
      by_cases hn : namedR (Utf8.decode s p).1 = false ∨ wrongR (Utf8.decode s p) = true
      · rw [if_pos hn] at h; cases h
      · rw [if_neg hn] at h
        have h1 := nameGo_size k s _ true h
        have h2 := decode_four s p
        omega
    · omega
theorem nameB_size {s : ByteArray} (h : nameB s = true) : s.size ≤ 128 := by
  have := nameGo_size 32 s 0 false h
  omega
theorem rightE_size {e : EV} (h : rightE e = true) : e.kind.size ≤ 200 ∧ e.data.size ≤ 200 := by
  unfold rightE at h
  simp only [Bool.and_eq_true, decide_eq_true_eq] at h
  exact ⟨Nat.le_trans (nameB_size h.2) (by omega), h.1⟩
theorem fits_sizes {b : BW} (h : fitsB b = 0) : b.stream.size ≤ 128 ∧ ∀ v ∈ b.events, v.kind.size ≤ 200 ∧ v.data.size ≤ 200 := by
  obtain ⟨h1, h2, h3⟩ := fits0' h
  refine ⟨nameB_size (wrong_not h1).1, fun v hv => rightE_size ?_⟩
  have := List.any_eq_false.1 h3 v hv
  simpa using this
theorem fits_light {b : BW} (h : fitsB b = 0) : LightB b := by
  obtain ⟨h1, h2⟩ := fits_sizes h
  exact ⟨by omega, by have := (fits0' h).2.1; omega, fun v hv => ⟨by have := (h2 v hv).1; omega, by have := (h2 v hv).2; omega⟩⟩

theorem putT_ne (l : List UInt8) : putT l ≠ [] := by
  intro e
  have h := putN_pos (clampN l.length)
  unfold putT at e
  have := (List.append_eq_nil_iff.1 e).1
  rw [this] at h
  simp at h
theorem bytesE_ne (v : EV) : (bytesE v).data.toList ≠ [] := by
  rw [bytesE_list]
  intro e
  exact putT_ne _ (List.append_eq_nil_iff.1 e).1
theorem bodyL_cons (v : EV) (l : List EV) : bodyL (v :: l) = (bytesE v).data.toList ++ bodyL l := by simp [bodyL]
theorem bodyL_ne {l : List EV} (h : l ≠ []) : bodyL l ≠ [] := by
  cases l with
  | nil => exact absurd rfl h
  | cons v l =>
    rw [bodyL_cons]
    intro e
    exact bytesE_ne v (List.append_eq_nil_iff.1 e).1
theorem pb_ne {b : BW} (h : fitsB b = 0) : (putB b).data.toList ≠ [] := by
  rw [putB_list h]
  have h5 := (wrong_not (fits0' h).1).2.2.2.2.2
  intro e
  exact bodyL_ne (l := b.events) (by intro e; rw [e] at h5; simp at h5) (List.append_eq_nil_iff.1 e).2
/-- A slice whose elements have k cells each, that f tells; they lie ahead of block B. -/
def IsRow {α : Type} (k : Nat) (f : α → List Value) (B : Nat) (w : World) (v : Value) (l : List α) : Prop :=
  ∃ (a : Option Addr) (cap : Nat), v = .slice a l.length cap ∧ l.length ≤ cap ∧ cap ≤ maxLen ∧ (a = none → cap = 0) ∧
    (0 < l.length → ∃ b off, a = some ⟨b, off, none⟩ ∧ b < B ∧ ∀ i, (h : i < l.length) → ∀ j, j < k → w.cell? ⟨b, off + i * k + j, none⟩ = (f l[i])[j]?)
section
variable {α : Type} {k : Nat} {f : α → List Value} {B B' : Nat} {w w' : World} {v : Value} {l : List α}
theorem IsRow.keep (h : IsRow k f B w v l) (hb : Below B' w w') (hB : B ≤ B') : IsRow k f B w' v l := by
  obtain ⟨a, cap, rfl, h1, h2, h3, h5⟩ := h
  refine ⟨a, cap, rfl, h1, h2, h3, fun hp => ?_⟩
  obtain ⟨b, off, rfl, hlt, hc⟩ := h5 hp
  exact ⟨b, off, rfl, hlt, fun i hi j hj => by rw [hb.cell (p := ⟨b, off + i * k + j, none⟩) (Nat.lt_of_lt_of_le hlt hB)]; exact hc i hi j hj⟩
theorem IsRow.up (h : IsRow k f B w v l) (hB : B ≤ B') : IsRow k f B' w v l := by
  obtain ⟨a, cap, rfl, h1, h2, h3, h5⟩ := h
  refine ⟨a, cap, rfl, h1, h2, h3, fun hp => ?_⟩
  obtain ⟨b, off, rfl, hlt, hc⟩ := h5 hp
  exact ⟨b, off, rfl, Nat.lt_of_lt_of_le hlt hB, hc⟩
theorem IsRow.form (h : IsRow k f B w v l) : ∃ a cap, v = .slice a l.length cap := by
  obtain ⟨a, cap, rfl, _⟩ := h
  exact ⟨a, cap, rfl⟩
theorem IsRow.le (h : IsRow k f B w v l) : l.length ≤ 9223372036854775807 := by
  obtain ⟨a, cap, rfl, h1, h2, _⟩ := h
  unfold maxLen at h2
  omega
theorem IsRow.get (h : IsRow k f B w v l) (i : Nat) (hi : i < l.length) : ∃ b off cap, v = .slice (some ⟨b, off, none⟩) l.length cap ∧ b < B ∧ l.length ≤ cap ∧ ∀ j, j < k → w.cell? ⟨b, off + i * k + j, none⟩ = (f l[i])[j]? := by
  obtain ⟨a, cap, rfl, h1, h2, h3, h5⟩ := h
  obtain ⟨b, off, rfl, hlt, hc⟩ := h5 (by omega)
  exact ⟨b, off, cap, rfl, hlt, h1, hc i hi⟩
theorem row_nil (B : Nat) (w : World) : IsRow k f B w (.slice none 0 0) [] := ⟨none, 0, rfl, by simp, by simp, fun _ => rfl, fun h => absurd h (by simp)⟩
end
theorem flat_len {α β : Type} (f : α → List β) (k : Nat) (hf : ∀ x, (f x).length = k) : ∀ l : List α, (l.flatMap f).length = l.length * k
  | [] => by simp
  | x :: l => by
    rw [List.flatMap_cons, List.length_append, flat_len f k hf l, hf, List.length_cons, Nat.add_mul]
    omega
theorem flat_at {α β : Type} (f : α → List β) (k : Nat) (hf : ∀ x, (f x).length = k) : ∀ (l : List α) (i : Nat) (h : i < l.length) (j : Nat), j < k → (l.flatMap f)[i * k + j]? = (f l[i])[j]?
  | [], i, h, _, _ => absurd h (by simp)
  | x :: l, 0, _, j, hj => by
    rw [List.flatMap_cons, Nat.zero_mul, Nat.zero_add, List.getElem?_append_left (by rw [hf]; exact hj)]
    rfl
  | x :: l, i + 1, h, j, hj => by
    rw [List.flatMap_cons, List.getElem?_append_right (by rw [hf, Nat.add_mul]; omega), hf, show (i + 1) * k + j - k = i * k + j by rw [Nat.add_mul]; omega]
    exact flat_at f k hf l i (by simpa using h) j hj
def icell (n : Int) : List Value := [.int .i64 n]
abbrev IsNums := IsRow 1 icell
section
variable {B B' : Nat} {w w' : World} {v : Value}
theorem IsRow.at1 {l : List Int} (h : IsRow 1 icell B w v l) (i : Nat) (hi : i < l.length) : ∃ b off cap, v = .slice (some ⟨b, off, none⟩) l.length cap ∧ b < B ∧ l.length ≤ cap ∧ w.cell? ⟨b, off + i, none⟩ = some (.int .i64 l[i]) := by
  obtain ⟨b, off, cap, h1, h2, h3, h4⟩ := h.get i hi
  have := h4 0 (by omega)
  rw [Nat.mul_one, Nat.add_zero] at this
  exact ⟨b, off, cap, h1, h2, h3, this⟩
end
/-! ### messages -/
def IsMsg (B : Nat) (w : World) (v : Value) : Msg → Prop
  | .whr a => v = .iface 118 (.agg #[.int .i64 a])
  | .app a b => ∃ lv, v = .iface 52 (.agg #[.int .i64 a, .string b.stream, .int .i64 b.expect, .int .i64 b.session, .int .i64 b.seq, lv]) ∧ IsEvents B w lv b.events
  | .red a s f => v = .iface 120 (.agg #[.int .i64 a, .string s, .int .i64 f])
theorem IsMsg.keep {B B' : Nat} {w w' : World} {v : Value} {m : Msg} (h : IsMsg B w v m) (hb : Below B' w w') (hB : B ≤ B') : IsMsg B w' v m := by
  cases m <;> first | exact h | (obtain ⟨lv, h1, h2⟩ := h; exact ⟨lv, h1, h2.keep hb hB⟩)
theorem IsMsg.up {B B' : Nat} {w : World} {v : Value} {m : Msg} (h : IsMsg B w v m) (hB : B ≤ B') : IsMsg B' w v m := by
  cases m <;> first | exact h | (obtain ⟨lv, h1, h2⟩ := h; exact ⟨lv, h1, h2.up hB⟩)


set_option maxHeartbeats 2000000 in
set_option maxRecDepth 100000 in
/-- WriteByte, at a builder of the call's own. -/
theorem writeByte_any (B b : Nat) (l : List UInt8) (x : UInt8) (w : World) (h : Lib.IsBuilder 143 5 B b (bcells l) w) (hlen : l.length + 1 ≤ 140737488355328) (hBw : B ≤ w.heap.size) :
    Calls Tryd.prog 68 #[.pointer (some ⟨b, 0, none⟩), .int .u8 x.toNat] w fun e w' => e = .returned .nilIface ∧ Lib.IsBuilder 143 5 B b (bcells (l ++ [x])) w' ∧ Below B w w' := by
  obtain ⟨i0, hi, hz0, hz1, hz2⟩ := info_parts bd_byte
  have hbl : (bcells l).length = l.length := bcells_len l
  go_enter Tryd.func68, Tryd.ntmps68
  go_wp2_with fail
  refine (copyCheck_any B b _ _ h).mono ?_
  rintro e w1 ⟨rfl, h1, hb1⟩
  obtain ⟨hB, v, hbk, hown, hne⟩ := h1
  have hsz := hb1.size
  have c0 : w1.cell? ⟨b, 0, none⟩ = some (.pointer (some ⟨b, 0, none⟩)) := by rw [Lib.cell_of_heap hbk]; rfl
  have c1 : w1.cell? ⟨b, 1, none⟩ = some v := by rw [Lib.cell_of_heap hbk]; rfl
  have hlt : b < w1.heap.size := (Array.getElem?_eq_some_iff.1 hbk).1
  have Hbk := Lib.hid hbk
  have Hbl := Lib.hid hbl
  have hvl : v.ownBlock ≠ some b := hne
  clear hbk hbl
  have hown' := hown.alloc (.cells #[.int .u8 x.toNat] 5)
  go_wp2_with (at_builtin; refine wpList_append_lies _ rfl _ _ 141 rfl B 5 i0 _ 1 1 Tryd.underlying141 hi hz0 hz1 hz2 rfl (by omega) _ _ _ rfl hown' ⟨w1.heap.size, 0, none⟩ 1 1 [.int .u8 x.toNat] rfl rfl (World.news_of_block (heap_alloc_new w1 _)) (by simp [Value.oneCell']) (by omega) (by rw [Hbl.out]; unfold maxLen; omega) (by rw [Hbl.out]; omega) (by simp only [World.size_alloc]; omega) _ rfl ?_; intro gg cap w2 hown2 hgrow hat hlt2; have hb2 : w2.heap[b]? = some (.cells #[.pointer (some ⟨b, 0, none⟩), v] 143 (0, 0)) := (hgrow.block b (by simp only [World.size_alloc]; omega) (fun e => hvl e.symm)).trans ((heap_alloc_old w1 _ hlt).trans Hbk.out); have d0 : w2.cell? ⟨b, 0, none⟩ = some (.pointer (some ⟨b, 0, none⟩)) := (by rw [Lib.cell_of_heap hb2]; rfl); have d1 : w2.cell? ⟨b, 1, none⟩ = some v := (by rw [Lib.cell_of_heap hb2]; rfl); have f1 : w2.frozen? ⟨b, 1, none⟩ = false := Lib.frozen_of_heap hb2 1; have Hb2 := Lib.hid hb2; clear hb2)
  go_ret
  refine ⟨rfl, .inr ?_, ?_⟩
  · rw [bcells_append, bcells_one]
    exact Lib.BuilderAt.put (T := 143) (e := 5) hB Hb2.out (bs' := bcells l ++ [.int .u8 x.toNat]) (by rw [List.length_append]; exact hown2) (by decide)
  · exact ((hb1.alloc (by omega) _).grown hgrow (by simp only [World.size_alloc]; omega) (fun k hk => (hown.lt k hk).1)).setCell (p := ⟨b, 1, none⟩) hB _

/-- A value whose method Kind tells a number. -/
def HasKind (v : Value) (k : Nat) : Prop :=
  ∃ (T : TypeId) (p : Value) (F : FuncId), v = .iface T p ∧ (∀ (n : Nat) (W : World), (method (n + 1) T p "Kind").run Tryd.prog W = .ok (F, p) W) ∧ (∀ W : World, (callFunc F #[p]).run Tryd.prog W = .ok (.enter F #[p]) W) ∧ ∀ W : World, Calls Tryd.prog F #[p] W fun e w' => e = .returned (.int .i64 k) ∧ Below W.heap.size W w'

theorem kind_whr (a : Int) (w : World) :
    Calls Tryd.prog 120 #[.agg #[.int .i64 a]] w fun en w' => en = .returned (.int .i64 5) ∧ Below w.heap.size w w' := by
  go_enter Tryd.func120, Tryd.ntmps120
  go_wp2_with fail
  go_ret
  exact ⟨rfl, (Below.refl _ _).alloc (Nat.le_refl _) _⟩

theorem kind_app (a x y z : Int) (s : ByteArray) (l : Value) (nl cl : Nat) (ul : Option Addr) (hl : l = .slice ul nl cl) (w : World) :
    Calls Tryd.prog 116 #[.agg #[.int .i64 a, .string s, .int .i64 x, .int .i64 y, .int .i64 z, l]] w fun en w' => en = .returned (.int .i64 11) ∧ Below w.heap.size w w' := by
  subst hl
  go_enter Tryd.func116, Tryd.ntmps116
  go_wp2_with fail
  go_ret
  exact ⟨rfl, (Below.refl _ _).alloc (Nat.le_refl _) _⟩

theorem kind_red (a f : Int) (s : ByteArray) (w : World) :
    Calls Tryd.prog 121 #[.agg #[.int .i64 a, .string s, .int .i64 f]] w fun en w' => en = .returned (.int .i64 12) ∧ Below w.heap.size w w' := by
  go_enter Tryd.func121, Tryd.ntmps121
  go_wp2_with fail
  go_ret
  exact ⟨rfl, (Below.refl _ _).alloc (Nat.le_refl _) _⟩

theorem hasKind {B : Nat} {w : World} {v : Value} {m : Msg} (h : IsMsg B w v m) : HasKind v m.kind := by
  cases m
  case whr =>
    obtain rfl := h
    exact ⟨118, _, 120, rfl, fun n W => by kernel_rfl, fun W => by kernel_rfl, fun W => kind_whr _ W⟩
  case app =>
    obtain ⟨lv, rfl, i1⟩ := h
    obtain ⟨p1, q1, rfl⟩ := i1.form
    exact ⟨52, _, 116, rfl, fun n W => by kernel_rfl, fun W => by kernel_rfl, fun W => kind_app _ _ _ _ _ _ _ _ _ rfl W⟩
  case red =>
    obtain rfl := h
    exact ⟨120, _, 121, rfl, fun n W => by kernel_rfl, fun W => by kernel_rfl, fun W => kind_red _ _ _ W⟩


theorem row_block (l : List Int) (W : World) (t : TypeId) (fr : Nat × Nat) (hm : l.length ≤ maxLen) (g : Nat) (hg : W.heap.size = g) : IsNums (W.alloc (.cells (l.map (fun n => Value.int .i64 n)).toArray t fr)).heap.size (W.alloc (.cells (l.map (fun n => Value.int .i64 n)).toArray t fr)) (.slice (some ⟨g, 0, none⟩) l.length l.length) l := by
  subst hg
  refine ⟨_, _, rfl, Nat.le_refl _, hm, fun h => (by cases h), fun hp => ⟨W.heap.size, 0, rfl, by simp, fun i hi j hj => ?_⟩⟩
  obtain rfl : j = 0 := by omega
  rw [Nat.zero_add, Nat.mul_one, Nat.add_zero, Lib.cell_of_heap (heap_alloc_new W _)]
  simp [icell, hi]
/-- The numbers of a message, in a slice of the call's own. -/
def GotNums (l : List Int) (w : World) (e : Ending) (w' : World) : Prop := ∃ v, e = .returned (.tuple #[v, .bool true]) ∧ IsNums w'.heap.size w' v l ∧ Below w.heap.size w w'

set_option maxRecDepth 100000 in
set_option maxHeartbeats 3200000 in
theorem others_app (B : Nat) (v : Value) (a : Int) (b : BW) (w : World) (h : IsMsg B w v (.app a b)) :
    Calls Tryd.prog 76 #[v] w fun en w' => GotNums [a] w en w' := by
  obtain ⟨lv, rfl, i1⟩ := h
  obtain ⟨p1, q1, rfl⟩ := i1.form
  clear i1
  have a0 : ∀ (W : World) (v : Value), (Instr.typeAssert (.iface 52 v) 48 186 true).run Tryd.prog W = .ok (.tuple #[(.agg #[.int .i64 0, .int .i64 0, .int .i64 0]), .bool false]) W := fun W v => by kernel_rfl
  have a1 : ∀ (W : World) (v : Value), (Instr.typeAssert (.iface 52 v) 48 189 true).run Tryd.prog W = .ok (.tuple #[(.agg #[.int .i64 0, .int .i64 0, .int .i64 0, .int .i64 0]), .bool false]) W := fun W v => by kernel_rfl
  have a2 : ∀ (W : World) (v : Value), (Instr.typeAssert (.iface 52 v) 48 192 true).run Tryd.prog W = .ok (.tuple #[(.agg #[.int .i64 0, .int .i64 0, .int .i64 0, .int .i64 0]), .bool false]) W := fun W v => by kernel_rfl
  have a3 : ∀ (W : World) (v : Value), (Instr.typeAssert (.iface 52 v) 48 52 true).run Tryd.prog W = .ok (.tuple #[v, .bool true]) W := fun W v => by kernel_rfl
  go_enter Tryd.func76, Tryd.ntmps76
  go_wp2_with fail
  go_ret2
  exact ⟨_, rfl, row_block [a] _ _ _ (by unfold maxLen; simp only [List.length_cons, List.length_nil]; omega) _ (by simp only [World.size_alloc]), (by repeat (first | exact Below.refl _ _ | refine Below.alloc ?_ (by (try simp only [World.size_alloc]); omega) _))⟩

set_option maxRecDepth 100000 in
set_option maxHeartbeats 3200000 in
theorem others_red (B : Nat) (v : Value) (a : Int) (s : ByteArray) (f : Int) (w : World) (h : IsMsg B w v (.red a s f)) :
    Calls Tryd.prog 76 #[v] w fun en w' => GotNums [a] w en w' := by
  obtain rfl := h
  have a0 : ∀ (W : World) (v : Value), (Instr.typeAssert (.iface 120 v) 48 186 true).run Tryd.prog W = .ok (.tuple #[(.agg #[.int .i64 0, .int .i64 0, .int .i64 0]), .bool false]) W := fun W v => by kernel_rfl
  have a1 : ∀ (W : World) (v : Value), (Instr.typeAssert (.iface 120 v) 48 189 true).run Tryd.prog W = .ok (.tuple #[(.agg #[.int .i64 0, .int .i64 0, .int .i64 0, .int .i64 0]), .bool false]) W := fun W v => by kernel_rfl
  have a2 : ∀ (W : World) (v : Value), (Instr.typeAssert (.iface 120 v) 48 192 true).run Tryd.prog W = .ok (.tuple #[(.agg #[.int .i64 0, .int .i64 0, .int .i64 0, .int .i64 0]), .bool false]) W := fun W v => by kernel_rfl
  have a3 : ∀ (W : World) (v : Value), (Instr.typeAssert (.iface 120 v) 48 52 true).run Tryd.prog W = .ok (.tuple #[(.agg #[.int .i64 0, .string ByteArray.empty, .int .i64 0, .int .i64 0, .int .i64 0, .slice none 0 0]), .bool false]) W := fun W v => by kernel_rfl
  have a4 : ∀ (W : World) (v : Value), (Instr.typeAssert (.iface 120 v) 48 120 true).run Tryd.prog W = .ok (.tuple #[v, .bool true]) W := fun W v => by kernel_rfl
  go_enter Tryd.func76, Tryd.ntmps76
  go_wp2_with fail
  go_ret2
  exact ⟨_, rfl, row_block [a] _ _ _ (by unfold maxLen; simp only [List.length_cons, List.length_nil]; omega) _ (by simp only [World.size_alloc]), (by repeat (first | exact Below.refl _ _ | refine Below.alloc ?_ (by (try simp only [World.size_alloc]); omega) _))⟩

set_option maxRecDepth 100000 in
set_option maxHeartbeats 3200000 in
theorem numbers_whr (B : Nat) (v : Value) (a : Int) (w : World) (h : IsMsg B w v (.whr a)) :
    Calls Tryd.prog 63 #[v] w fun en w' => GotNums [a] w en w' := by
  obtain rfl := h
  have a0 : ∀ (W : World) (v : Value), (Instr.typeAssert (.iface 118 v) 48 158 true).run Tryd.prog W = .ok (.tuple #[(.agg #[.int .i64 0, .int .i64 0, .int .i64 0]), .bool false]) W := fun W v => by kernel_rfl
  have a1 : ∀ (W : World) (v : Value), (Instr.typeAssert (.iface 118 v) 48 78 true).run Tryd.prog W = .ok (.tuple #[(.agg #[.int .i64 0, .int .i64 0]), .bool false]) W := fun W v => by kernel_rfl
  have a2 : ∀ (W : World) (v : Value), (Instr.typeAssert (.iface 118 v) 48 162 true).run Tryd.prog W = .ok (.tuple #[(.agg #[.int .i64 0, .int .i64 0]), .bool false]) W := fun W v => by kernel_rfl
  have a3 : ∀ (W : World) (v : Value), (Instr.typeAssert (.iface 118 v) 48 27 true).run Tryd.prog W = .ok (.tuple #[(.agg #[.int .i64 0, .slice none 0 0, .slice none 0 0, .slice none 0 0]), .bool false]) W := fun W v => by kernel_rfl
  have a4 : ∀ (W : World) (v : Value), (Instr.typeAssert (.iface 118 v) 48 118 true).run Tryd.prog W = .ok (.tuple #[v, .bool true]) W := fun W v => by kernel_rfl
  go_enter Tryd.func63, Tryd.ntmps63
  go_wp2_with fail
  go_ret2
  exact ⟨_, rfl, row_block [a] _ _ _ (by unfold maxLen; simp only [List.length_cons, List.length_nil]; omega) _ (by simp only [World.size_alloc]), (by repeat (first | exact Below.refl _ _ | refine Below.alloc ?_ (by (try simp only [World.size_alloc]); omega) _))⟩

set_option maxRecDepth 100000 in
set_option maxHeartbeats 3200000 in
theorem numbers_app (B : Nat) (v : Value) (a : Int) (b : BW) (w : World) (h : IsMsg B w v (.app a b)) (hB : B ≤ w.heap.size) :
    Calls Tryd.prog 63 #[v] w fun en w' => GotNums [a] w en w' := by
  have CO := Lib.hid (fun (X : World) (hX : Below w.heap.size w X) (hM : IsMsg X.heap.size X v (.app a b)) => others_app X.heap.size v a b X hM)
  have HM := Lib.hid (fun (X : World) (hX : Below w.heap.size w X) => (h.keep hX hB).up (Nat.le_trans hB hX.size))
  obtain ⟨lv, rfl, i1⟩ := h
  obtain ⟨p1, q1, rfl⟩ := i1.form
  clear i1
  have a0 : ∀ (W : World) (v : Value), (Instr.typeAssert (.iface 52 v) 48 158 true).run Tryd.prog W = .ok (.tuple #[(.agg #[.int .i64 0, .int .i64 0, .int .i64 0]), .bool false]) W := fun W v => by kernel_rfl
  have a1 : ∀ (W : World) (v : Value), (Instr.typeAssert (.iface 52 v) 48 78 true).run Tryd.prog W = .ok (.tuple #[(.agg #[.int .i64 0, .int .i64 0]), .bool false]) W := fun W v => by kernel_rfl
  have a2 : ∀ (W : World) (v : Value), (Instr.typeAssert (.iface 52 v) 48 162 true).run Tryd.prog W = .ok (.tuple #[(.agg #[.int .i64 0, .int .i64 0]), .bool false]) W := fun W v => by kernel_rfl
  have a3 : ∀ (W : World) (v : Value), (Instr.typeAssert (.iface 52 v) 48 27 true).run Tryd.prog W = .ok (.tuple #[(.agg #[.int .i64 0, .slice none 0 0, .slice none 0 0, .slice none 0 0]), .bool false]) W := fun W v => by kernel_rfl
  have a4 : ∀ (W : World) (v : Value), (Instr.typeAssert (.iface 52 v) 48 118 true).run Tryd.prog W = .ok (.tuple #[(.agg #[.int .i64 0]), .bool false]) W := fun W v => by kernel_rfl
  have a5 : ∀ (W : World) (v : Value), (Instr.typeAssert (.iface 52 v) 48 167 true).run Tryd.prog W = .ok (.tuple #[(.agg #[.int .i64 0, .int .i64 0, .int .i64 0, .slice none 0 0]), .bool false]) W := fun W v => by kernel_rfl
  have a6 : ∀ (W : World) (v : Value), (Instr.typeAssert (.iface 52 v) 48 170 true).run Tryd.prog W = .ok (.tuple #[(.agg #[.int .i64 0, .int .i64 0, .int .i64 0, .int .i64 0, .int .i64 0, .int .i64 0, .slice none 0 0]), .bool false]) W := fun W v => by kernel_rfl
  go_enter Tryd.func63, Tryd.ntmps63
  go_wp2_with fail
  refine (CO.out _ (by repeat (first | exact Below.refl _ _ | refine Below.alloc ?_ (by (try simp only [World.size_alloc]); omega) _)) (HM.out _ (by repeat (first | exact Below.refl _ _ | refine Below.alloc ?_ (by (try simp only [World.size_alloc]); omega) _)))).mono ?_
  rintro en w1 ⟨u, rfl, hu, hb1⟩
  have HU := Lib.hid hu
  have HB := Lib.hid hb1
  obtain ⟨au, cu, rfl⟩ := hu.form
  clear hu hb1
  go_wp2_with fail
  go_ret2
  exact ⟨_, rfl, HU.out, Below.trans (by repeat (first | exact Below.refl _ _ | refine Below.alloc ?_ (by (try simp only [World.size_alloc]); omega) _)) (HB.out.mono (by (try simp only [World.size_alloc]); omega))⟩

set_option maxRecDepth 100000 in
set_option maxHeartbeats 3200000 in
theorem numbers_red (B : Nat) (v : Value) (a : Int) (s : ByteArray) (f : Int) (w : World) (h : IsMsg B w v (.red a s f)) :
    Calls Tryd.prog 63 #[v] w fun en w' => GotNums [a] w en w' := by
  have CO := Lib.hid (fun (X : World) (hX : Below w.heap.size w X) (hM : IsMsg X.heap.size X v (.red a s f)) => others_red X.heap.size v a s f X hM)
  obtain rfl := h
  have a0 : ∀ (W : World) (v : Value), (Instr.typeAssert (.iface 120 v) 48 158 true).run Tryd.prog W = .ok (.tuple #[(.agg #[.int .i64 0, .int .i64 0, .int .i64 0]), .bool false]) W := fun W v => by kernel_rfl
  have a1 : ∀ (W : World) (v : Value), (Instr.typeAssert (.iface 120 v) 48 78 true).run Tryd.prog W = .ok (.tuple #[(.agg #[.int .i64 0, .int .i64 0]), .bool false]) W := fun W v => by kernel_rfl
  have a2 : ∀ (W : World) (v : Value), (Instr.typeAssert (.iface 120 v) 48 162 true).run Tryd.prog W = .ok (.tuple #[(.agg #[.int .i64 0, .int .i64 0]), .bool false]) W := fun W v => by kernel_rfl
  have a3 : ∀ (W : World) (v : Value), (Instr.typeAssert (.iface 120 v) 48 27 true).run Tryd.prog W = .ok (.tuple #[(.agg #[.int .i64 0, .slice none 0 0, .slice none 0 0, .slice none 0 0]), .bool false]) W := fun W v => by kernel_rfl
  have a4 : ∀ (W : World) (v : Value), (Instr.typeAssert (.iface 120 v) 48 118 true).run Tryd.prog W = .ok (.tuple #[(.agg #[.int .i64 0]), .bool false]) W := fun W v => by kernel_rfl
  have a5 : ∀ (W : World) (v : Value), (Instr.typeAssert (.iface 120 v) 48 167 true).run Tryd.prog W = .ok (.tuple #[(.agg #[.int .i64 0, .int .i64 0, .int .i64 0, .slice none 0 0]), .bool false]) W := fun W v => by kernel_rfl
  have a6 : ∀ (W : World) (v : Value), (Instr.typeAssert (.iface 120 v) 48 170 true).run Tryd.prog W = .ok (.tuple #[(.agg #[.int .i64 0, .int .i64 0, .int .i64 0, .int .i64 0, .int .i64 0, .int .i64 0, .slice none 0 0]), .bool false]) W := fun W v => by kernel_rfl
  go_enter Tryd.func63, Tryd.ntmps63
  go_wp2_with fail
  refine (CO.out _ (by repeat (first | exact Below.refl _ _ | refine Below.alloc ?_ (by (try simp only [World.size_alloc]); omega) _)) rfl).mono ?_
  rintro en w1 ⟨u, rfl, hu, hb1⟩
  have HU := Lib.hid hu
  have HB := Lib.hid hb1
  obtain ⟨au, cu, rfl⟩ := hu.form
  clear hu hb1
  go_wp2_with fail
  go_ret2
  exact ⟨_, rfl, HU.out, Below.trans (by repeat (first | exact Below.refl _ _ | refine Below.alloc ?_ (by (try simp only [World.size_alloc]); omega) _)) (HB.out.mono (by (try simp only [World.size_alloc]); omega))⟩

theorem numbers_any (B : Nat) (v : Value) (m : Msg) (w : World) (h : IsMsg B w v m) (hB : B ≤ w.heap.size) : Calls Tryd.prog 63 #[v] w fun e w' => GotNums m.nums w e w' := by
  cases m
  case whr => exact numbers_whr B v _ w h
  case app => exact numbers_app B v _ _ w h hB
  case red => exact numbers_red B v _ _ _ w h
theorem numM_any (n : Int) (b : Bool) (hb : numM n = b) (w : World) :
    Calls Tryd.prog 66 #[.int .i64 n] w fun r w' => r = .returned (.bool b) ∧ w' = w := by
  have Hb := Lib.hid hb
  clear hb
  by_cases h1 : 0 ≤ n
  · go_enter Tryd.func66, Tryd.ntmps66
    go_wp2_with fail
    go_ret
    refine ⟨ret_bool ?_, rfl⟩
    rw [← Hb.out, numM, decide_eq_true h1, Bool.true_and]
  · go_enter Tryd.func66, Tryd.ntmps66
    go_wp2_with fail
    go_ret
    refine ⟨ret_bool ?_, rfl⟩
    rw [← Hb.out, numM, decide_eq_false (by omega), Bool.false_and]

theorem clo1_any (n : Int) (b : Bool) (hb : (fun x => !numM x) n = b) (w : World) :
    Calls Tryd.prog 65 #[.int .i64 n] w fun r w' => r = .returned (.bool b) ∧ Below w.heap.size w w' := by
  have C := Lib.hid (numM_any n _ rfl)
  have Hb := Lib.hid hb
  clear hb
  go_enter Tryd.func65, Tryd.ntmps65
  go_wp2_with fail
  refine (C.out _).mono ?_
  rintro r w1 ⟨rfl, rfl⟩
  go_wp2_with fail
  go_ret
  exact ⟨ret_bool Hb.out, Below.refl _ _⟩

set_option maxRecDepth 100000 in
set_option maxHeartbeats 1600000 in
theorem idxI_any (B : Nat) (v : Value) (l : List Int) (w : World) (h : IsNums B w v l) (hB : B ≤ w.heap.size) :
    Calls Tryd.prog 77 #[v, .func (.func 65) #[] #[]] w fun r w' => ∃ n : Int, r = .returned (.int .i64 n) ∧ (0 ≤ n ↔ l.any (fun x => !numM x) = true) ∧ Below w.heap.size w w' := by
  have H := Lib.hid h
  obtain ⟨a, cap, rfl⟩ := h.form
  have hmax : l.length ≤ 9223372036854775807 := H.out.le
  clear h
  go_enter Tryd.func77, Tryd.ntmps77
  go_wp2_with fail
  go_loopw [4, 5, 8] (fun _ _ t8 wr => ∃ k : Nat, k ≤ l.length ∧ t8 = .int .i64 k ∧ (∀ i, (hi : i < l.length) → i < k → (fun x => !numM x) l[i] = false) ∧ Below w.heap.size w wr) (fun _ _ t8 _ => l.length - (intOf t8).toNat)
  case atStart => exact ⟨0, Nat.zero_le _, rfl, fun i _ h => absurd h (by omega), Below.refl _ _⟩
  case round =>
    obtain ⟨k, hk, rfl, hno, hbl⟩ := hrel
    have Hno := Lib.hid hno
    clear hno
    by_cases hlt : k < l.length
    · obtain ⟨b, off, cap', he, hblk, _, hc1⟩ := (H.out.keep hbl hB).at1 k hlt
      obtain ⟨rfl, -, rfl⟩ : a = some ⟨b, off, none⟩ ∧ l.length = l.length ∧ cap = cap' := by injection he with e1 e2 e3; exact ⟨e1, e2, e3⟩
      clear he
      obtain ⟨y, hy⟩ : ∃ y, l[k] = y := ⟨_, rfl⟩
      rw [hy] at hc1
      have i1 : (0 : Int) ≤ (k : Int) := by omega
      have i2 : (k : Int) < (l.length : Int) := by omega
      obtain ⟨q, hq⟩ : ∃ q, (fun x => !numM x) y = q := ⟨_, rfl⟩
      have C := Lib.hid (clo1_any y q hq wr)
      have Hy := Lib.hid hy
      have Hq := Lib.hid hq
      clear hy hq
      cases q with
      | true =>
        go_wp2_with fail
        refine C.out.mono ?_
        rintro r w1 ⟨rfl, hb1⟩
        go_wp2_with fail
        go_ret
        refine ⟨k, rfl, ⟨fun _ => by simp only [List.any_eq_true]; exact ⟨y, Hy.out ▸ List.getElem_mem hlt, Hq.out⟩, fun _ => by omega⟩, bstep hbl hb1⟩
      | false =>
        go_wp2_with fail
        refine C.out.mono ?_
        rintro r w1 ⟨rfl, hb1⟩
        go_wp2_with fail
        go_roundw
        case rel =>
          refine ⟨k + 1, by omega, by go_num, fun i hi hik => ?_, bstep hbl hb1⟩
          by_cases e : i = k
          · subst e
            rw [Hy.out]
            exact Hq.out
          · exact Hno.out i hi (by omega)
        case measure => simp [intOf]; omega
    · have g : ¬ ((k : Int) < (l.length : Int)) := by omega
      go_wp2_with fail
      go_ret
      refine ⟨-1, rfl, ⟨fun h => absurd h (by omega), fun h => ?_⟩, hbl⟩
      have h' : ∃ x, x ∈ l ∧ numM x = false := by simpa using h
      obtain ⟨x, hx, hw⟩ := h'
      obtain ⟨i, hi, rfl⟩ := List.getElem_of_mem hx
      have := Hno.out i hi (by omega)
      simp only [hw] at this
      cases this

set_option maxHeartbeats 1600000 in
theorem conI_any (B : Nat) (v : Value) (l : List Int) (b : Bool) (hb : l.any (fun x => !numM x) = b) (w : World) (h : IsNums B w v l) (hB : B ≤ w.heap.size) :
    Calls Tryd.prog 64 #[v, .func (.func 65) #[] #[]] w fun r w' => r = .returned (.bool b) ∧ Below w.heap.size w w' := by
  have C := Lib.hid (idxI_any B v l w h hB)
  rw [hb] at C
  clear hb
  go_enter Tryd.func64, Tryd.ntmps64
  go_wp2_with fail
  refine C.out.mono ?_
  rintro r w1 ⟨n, rfl, hn, hb1⟩
  have Hn := Lib.hid hn
  clear hn
  go_wp2_with fail
  go_ret
  refine ⟨ret_bool ?_, hb1⟩
  rw [Bool.eq_iff_iff, decide_eq_true_eq]
  exact Hn.out
end Go.Proofs.YtapgjjfndbfnpaaDoor.Ms
