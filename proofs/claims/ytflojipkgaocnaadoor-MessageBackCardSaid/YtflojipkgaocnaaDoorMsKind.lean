/-
  (*strings.Builder).WriteByte; the methods Kind of all messages, and the call of Kind through the interface. Printed by gen_mskind.py of this claim's writer.
-/
import Derived.Test.YtflojipkgaocnaaDoorMsData
import Derived.Test.YtflojipkgaocnaaDoorBuild
import Derived.Deep.AppendLies
namespace Go.Proofs.YtflojipkgaocnaaDoor
open Go.RowKit
set_option linter.unusedSimpArgs false
set_option linter.unusedVariables false

set_option maxHeartbeats 2000000 in
set_option maxRecDepth 100000 in
/-- WriteByte, at a builder of the call's own. -/
theorem writeByte_any (B b : Nat) (l : List UInt8) (x : UInt8) (w : World) (h : Lib.IsBuilder 94 5 B b (bcells l) w) (hlen : l.length + 1 ≤ 140737488355328) (hBw : B ≤ w.heap.size) :
    Calls Tryd.prog 21 #[.pointer (some ⟨b, 0, none⟩), .int .u8 x.toNat] w fun e w' => e = .returned .nilIface ∧ Lib.IsBuilder 94 5 B b (bcells (l ++ [x])) w' ∧ Below B w w' := by
  obtain ⟨i0, hi, hz0, hz1, hz2⟩ := info_parts bd_byte
  have hbl : (bcells l).length = l.length := bcells_len l
  go_enter Tryd.func21, Tryd.ntmps21
  go_wp2_with fail
  refine (copyCheck_any B b _ _ h).mono ?_
  rintro e w1 ⟨rfl, h1, hb1⟩
  obtain ⟨hB, v, hbk, hown, hne⟩ := h1
  have hsz := hb1.size
  have c0 : w1.cell? ⟨b, 0, none⟩ = some (.pointer (some ⟨b, 0, none⟩)) := by rw [Lib.cell_of_heap hbk]; rfl
  have c1 : w1.cell? ⟨b, 1, none⟩ = some v := by rw [Lib.cell_of_heap hbk]; rfl
  have hlt : b < w1.heap.size := (Array.getElem?_eq_some_iff.1 hbk).1
  have Hbk := Lib.hid hbk
  have Hbl := Lib.hid hbl
  have hvl : v.ownBlock ≠ some b := hne
  clear hbk hbl
  have hown' := hown.alloc (.cells #[.int .u8 x.toNat] 5)
  go_wp2_with (at_builtin; refine wpList_append_lies _ rfl _ _ 42 rfl B 5 i0 _ 1 1 Tryd.underlying42 hi hz0 hz1 hz2 rfl (by omega) _ _ _ rfl hown' ⟨w1.heap.size, 0, none⟩ 1 1 [.int .u8 x.toNat] rfl rfl (World.news_of_block (heap_alloc_new w1 _)) (by simp [Value.oneCell']) (by omega) (by rw [Hbl.out]; unfold maxLen; omega) (by rw [Hbl.out]; omega) (by simp only [World.size_alloc]; omega) _ rfl ?_; intro gg cap w2 hown2 hgrow hat hlt2; have hb2 : w2.heap[b]? = some (.cells #[.pointer (some ⟨b, 0, none⟩), v] 94 (0, 0)) := (hgrow.block b (by simp only [World.size_alloc]; omega) (fun e => hvl e.symm)).trans ((heap_alloc_old w1 _ hlt).trans Hbk.out); have d0 : w2.cell? ⟨b, 0, none⟩ = some (.pointer (some ⟨b, 0, none⟩)) := (by rw [Lib.cell_of_heap hb2]; rfl); have d1 : w2.cell? ⟨b, 1, none⟩ = some v := (by rw [Lib.cell_of_heap hb2]; rfl); have f1 : w2.frozen? ⟨b, 1, none⟩ = false := Lib.frozen_of_heap hb2 1; have Hb2 := Lib.hid hb2; clear hb2)
  go_ret
  refine ⟨rfl, .inr ?_, ?_⟩
  · rw [bcells_append, bcells_one]
    exact Lib.BuilderAt.put (T := 94) (e := 5) hB Hb2.out (bs' := bcells l ++ [.int .u8 x.toNat]) (by rw [List.length_append]; exact hown2) (by decide)
  · exact ((hb1.alloc (by omega) _).grown hgrow (by simp only [World.size_alloc]; omega) (fun k hk => (hown.lt k hk).1)).setCell (p := ⟨b, 1, none⟩) hB _

/-- A value whose method Kind tells a number. -/
def HasKind (v : Value) (k : Nat) : Prop :=
  ∃ (T : TypeId) (p : Value) (F : FuncId), v = .iface T p ∧ (∀ (n : Nat) (W : World), (method (n + 1) T p "Kind").run Tryd.prog W = .ok (F, p) W) ∧ (∀ W : World, (callFunc F #[p]).run Tryd.prog W = .ok (.enter F #[p]) W) ∧ ∀ W : World, Calls Tryd.prog F #[p] W fun e w' => e = .returned (.int .i64 k) ∧ Below W.heap.size W w'

theorem kind_beat (a b c : Int) (w : World) :
    Calls Tryd.prog 98 #[.agg #[.int .i64 a, .int .i64 b, .int .i64 c]] w fun en w' => en = .returned (.int .i64 1) ∧ Below w.heap.size w w' := by
  go_enter Tryd.func98, Tryd.ntmps98
  go_wp2_with fail
  go_ret
  exact ⟨rfl, (Below.refl _ _).alloc (Nat.le_refl _) _⟩

theorem kind_join (a b : Int) (w : World) :
    Calls Tryd.prog 99 #[.agg #[.int .i64 a, .int .i64 b]] w fun en w' => en = .returned (.int .i64 2) ∧ Below w.heap.size w w' := by
  go_enter Tryd.func99, Tryd.ntmps99
  go_wp2_with fail
  go_ret
  exact ⟨rfl, (Below.refl _ _).alloc (Nat.le_refl _) _⟩

theorem kind_lease (a b : Int) (w : World) :
    Calls Tryd.prog 100 #[.agg #[.int .i64 a, .int .i64 b]] w fun en w' => en = .returned (.int .i64 3) ∧ Below w.heap.size w w' := by
  go_enter Tryd.func100, Tryd.ntmps100
  go_wp2_with fail
  go_ret
  exact ⟨rfl, (Below.refl _ _).alloc (Nat.le_refl _) _⟩

theorem kind_view (a : Int) (c s b : Value) (nc cc : Nat) (uc : Option Addr) (ns cs : Nat) (us : Option Addr) (nb cb : Nat) (ub : Option Addr) (hc : c = .slice uc nc cc) (hs : s = .slice us ns cs) (hb : b = .slice ub nb cb) (w : World) :
    Calls Tryd.prog 101 #[.agg #[.int .i64 a, c, s, b]] w fun en w' => en = .returned (.int .i64 4) ∧ Below w.heap.size w w' := by
  subst hc
  subst hs
  subst hb
  go_enter Tryd.func101, Tryd.ntmps101
  go_wp2_with fail
  go_ret
  exact ⟨rfl, (Below.refl _ _).alloc (Nat.le_refl _) _⟩

theorem kind_whr (a : Int) (w : World) :
    Calls Tryd.prog 102 #[.agg #[.int .i64 a]] w fun en w' => en = .returned (.int .i64 5) ∧ Below w.heap.size w w' := by
  go_enter Tryd.func102, Tryd.ntmps102
  go_wp2_with fail
  go_ret
  exact ⟨rfl, (Below.refl _ _).alloc (Nat.le_refl _) _⟩

theorem kind_hav (a b c : Int) (l : Value) (nl cl : Nat) (ul : Option Addr) (hl : l = .slice ul nl cl) (w : World) :
    Calls Tryd.prog 103 #[.agg #[.int .i64 a, .int .i64 b, .int .i64 c, l]] w fun en w' => en = .returned (.int .i64 6) ∧ Below w.heap.size w w' := by
  subst hl
  go_enter Tryd.func103, Tryd.ntmps103
  go_wp2_with fail
  go_ret
  exact ⟨rfl, (Below.refl _ _).alloc (Nat.le_refl _) _⟩

theorem kind_logs (a b c d e f : Int) (l : Value) (nl cl : Nat) (ul : Option Addr) (hl : l = .slice ul nl cl) (w : World) :
    Calls Tryd.prog 104 #[.agg #[.int .i64 a, .int .i64 b, .int .i64 c, .int .i64 d, .int .i64 e, .int .i64 f, l]] w fun en w' => en = .returned (.int .i64 7) ∧ Below w.heap.size w w' := by
  subst hl
  go_enter Tryd.func104, Tryd.ntmps104
  go_wp2_with fail
  go_ret
  exact ⟨rfl, (Below.refl _ _).alloc (Nat.le_refl _) _⟩

theorem kind_ack (a b c : Int) (w : World) :
    Calls Tryd.prog 97 #[.agg #[.int .i64 a, .int .i64 b, .int .i64 c]] w fun en w' => en = .returned (.int .i64 8) ∧ Below w.heap.size w w' := by
  go_enter Tryd.func97, Tryd.ntmps97
  go_wp2_with fail
  go_ret
  exact ⟨rfl, (Below.refl _ _).alloc (Nat.le_refl _) _⟩

theorem kind_ask (a b c d : Int) (w : World) :
    Calls Tryd.prog 105 #[.agg #[.int .i64 a, .int .i64 b, .int .i64 c, .int .i64 d]] w fun en w' => en = .returned (.int .i64 9) ∧ Below w.heap.size w w' := by
  go_enter Tryd.func105, Tryd.ntmps105
  go_wp2_with fail
  go_ret
  exact ⟨rfl, (Below.refl _ _).alloc (Nat.le_refl _) _⟩

theorem kind_told (a b c d : Int) (w : World) :
    Calls Tryd.prog 106 #[.agg #[.int .i64 a, .int .i64 b, .int .i64 c, .int .i64 d]] w fun en w' => en = .returned (.int .i64 10) ∧ Below w.heap.size w w' := by
  go_enter Tryd.func106, Tryd.ntmps106
  go_wp2_with fail
  go_ret
  exact ⟨rfl, (Below.refl _ _).alloc (Nat.le_refl _) _⟩

theorem kind_app (a x y z : Int) (s : ByteArray) (l : Value) (nl cl : Nat) (ul : Option Addr) (hl : l = .slice ul nl cl) (w : World) :
    Calls Tryd.prog 107 #[.agg #[.int .i64 a, .string s, .int .i64 x, .int .i64 y, .int .i64 z, l]] w fun en w' => en = .returned (.int .i64 11) ∧ Below w.heap.size w w' := by
  subst hl
  go_enter Tryd.func107, Tryd.ntmps107
  go_wp2_with fail
  go_ret
  exact ⟨rfl, (Below.refl _ _).alloc (Nat.le_refl _) _⟩

theorem kind_red (a f : Int) (s : ByteArray) (w : World) :
    Calls Tryd.prog 108 #[.agg #[.int .i64 a, .string s, .int .i64 f]] w fun en w' => en = .returned (.int .i64 12) ∧ Below w.heap.size w w' := by
  go_enter Tryd.func108, Tryd.ntmps108
  go_wp2_with fail
  go_ret
  exact ⟨rfl, (Below.refl _ _).alloc (Nat.le_refl _) _⟩

theorem kind_rep (a b c d e f : Int) (w : World) :
    Calls Tryd.prog 109 #[.agg #[.int .i64 a, .int .i64 b, .int .i64 c, .int .i64 d, .int .i64 e, .int .i64 f]] w fun en w' => en = .returned (.int .i64 13) ∧ Below w.heap.size w w' := by
  go_enter Tryd.func109, Tryd.ntmps109
  go_wp2_with fail
  go_ret
  exact ⟨rfl, (Below.refl _ _).alloc (Nat.le_refl _) _⟩

theorem kind_res (a b c : Int) (l : Value) (nl cl : Nat) (ul : Option Addr) (hl : l = .slice ul nl cl) (w : World) :
    Calls Tryd.prog 110 #[.agg #[.int .i64 a, .int .i64 b, .int .i64 c, l]] w fun en w' => en = .returned (.int .i64 14) ∧ Below w.heap.size w w' := by
  subst hl
  go_enter Tryd.func110, Tryd.ntmps110
  go_wp2_with fail
  go_ret
  exact ⟨rfl, (Below.refl _ _).alloc (Nat.le_refl _) _⟩

theorem hasKind {B : Nat} {w : World} {v : Value} {m : Msg} (h : IsMsg B w v m) : HasKind v m.kind := by
  cases m
  case beat =>
    obtain rfl := h
    exact ⟨59, _, 98, rfl, fun n W => by kernel_rfl, fun W => by kernel_rfl, fun W => kind_beat _ _ _ W⟩
  case join =>
    obtain rfl := h
    exact ⟨61, _, 99, rfl, fun n W => by kernel_rfl, fun W => by kernel_rfl, fun W => kind_join _ _ W⟩
  case lease =>
    obtain rfl := h
    exact ⟨63, _, 100, rfl, fun n W => by kernel_rfl, fun W => by kernel_rfl, fun W => kind_lease _ _ W⟩
  case view =>
    obtain ⟨cv, sv, bv, rfl, i1, i2, i3⟩ := h
    obtain ⟨p1, q1, rfl⟩ := i1.form
    obtain ⟨p2, q2, rfl⟩ := i2.form
    obtain ⟨p3, q3, rfl⟩ := i3.form
    exact ⟨65, _, 101, rfl, fun n W => by kernel_rfl, fun W => by kernel_rfl, fun W => kind_view _ _ _ _ _ _ _ _ _ _ _ _ _ rfl rfl rfl W⟩
  case whr =>
    obtain rfl := h
    exact ⟨67, _, 102, rfl, fun n W => by kernel_rfl, fun W => by kernel_rfl, fun W => kind_whr _ W⟩
  case hav =>
    obtain ⟨lv, rfl, i1⟩ := h
    obtain ⟨p1, q1, rfl⟩ := i1.form
    exact ⟨69, _, 103, rfl, fun n W => by kernel_rfl, fun W => by kernel_rfl, fun W => kind_hav _ _ _ _ _ _ _ rfl W⟩
  case logs =>
    obtain ⟨lv, rfl, i1⟩ := h
    obtain ⟨p1, q1, rfl⟩ := i1.form
    exact ⟨71, _, 104, rfl, fun n W => by kernel_rfl, fun W => by kernel_rfl, fun W => kind_logs _ _ _ _ _ _ _ _ _ _ rfl W⟩
  case ack =>
    obtain rfl := h
    exact ⟨53, _, 97, rfl, fun n W => by kernel_rfl, fun W => by kernel_rfl, fun W => kind_ack _ _ _ W⟩
  case ask =>
    obtain rfl := h
    exact ⟨73, _, 105, rfl, fun n W => by kernel_rfl, fun W => by kernel_rfl, fun W => kind_ask _ _ _ _ W⟩
  case told =>
    obtain rfl := h
    exact ⟨75, _, 106, rfl, fun n W => by kernel_rfl, fun W => by kernel_rfl, fun W => kind_told _ _ _ _ W⟩
  case app =>
    obtain ⟨lv, rfl, i1⟩ := h
    obtain ⟨p1, q1, rfl⟩ := i1.form
    exact ⟨77, _, 107, rfl, fun n W => by kernel_rfl, fun W => by kernel_rfl, fun W => kind_app _ _ _ _ _ _ _ _ _ rfl W⟩
  case red =>
    obtain rfl := h
    exact ⟨79, _, 108, rfl, fun n W => by kernel_rfl, fun W => by kernel_rfl, fun W => kind_red _ _ _ W⟩
  case rep =>
    obtain rfl := h
    exact ⟨83, _, 109, rfl, fun n W => by kernel_rfl, fun W => by kernel_rfl, fun W => kind_rep _ _ _ _ _ _ W⟩
  case res =>
    obtain ⟨lv, rfl, i1⟩ := h
    obtain ⟨p1, q1, rfl⟩ := i1.form
    exact ⟨85, _, 110, rfl, fun n W => by kernel_rfl, fun W => by kernel_rfl, fun W => kind_res _ _ _ _ _ _ _ rfl W⟩
end Go.Proofs.YtflojipkgaocnaaDoor
