/-
  (*strings.Builder).WriteByte; the methods Kind of all messages, and the call of Kind through the interface. Printed by gen_mskind.py of this claim's writer.
-/
import Derived.Test.YtflojipkgaocnaaGreatDoorMsData
import Derived.Test.YtflojipkgaocnaaGreatDoorBuild
import Derived.Deep.AppendLies
namespace Go.Proofs.YtflojipkgaocnaaGreatDoor
open Go.RowKit
set_option linter.unusedSimpArgs false
set_option linter.unusedVariables false

set_option maxHeartbeats 2000000 in
set_option maxRecDepth 100000 in
/-- WriteByte, at a builder of the call's own. -/
theorem writeByte_any (B b : Nat) (l : List UInt8) (x : UInt8) (w : World) (h : Lib.IsBuilder 100 5 B b (bcells l) w) (hlen : l.length + 1 ≤ 140737488355328) (hBw : B ≤ w.heap.size) :
    Calls Tryz.prog 26 #[.pointer (some ⟨b, 0, none⟩), .int .u8 x.toNat] w fun e w' => e = .returned .nilIface ∧ Lib.IsBuilder 100 5 B b (bcells (l ++ [x])) w' ∧ Below B w w' := by
  obtain ⟨i0, hi, hz0, hz1, hz2⟩ := info_parts bd_byte
  have hbl : (bcells l).length = l.length := bcells_len l
  go_enter Tryz.func26, Tryz.ntmps26
  go_wp2_with fail
  refine (copyCheck_any B b _ _ h).mono ?_
  rintro e w1 ⟨rfl, h1, hb1⟩
  obtain ⟨hB, v, hbk, hown, hne⟩ := h1
  have hsz := hb1.size
  have c0 : w1.cell? ⟨b, 0, none⟩ = some (.pointer (some ⟨b, 0, none⟩)) := by rw [Lib.cell_of_heap hbk]; rfl
  have c1 : w1.cell? ⟨b, 1, none⟩ = some v := by rw [Lib.cell_of_heap hbk]; rfl
  have hlt : b < w1.heap.size := (Array.getElem?_eq_some_iff.1 hbk).1
  have Hbk := Lib.hid hbk
  have Hbl := Lib.hid hbl
  have hvl : v.ownBlock ≠ some b := hne
  clear hbk hbl
  have hown' := hown.alloc (.cells #[.int .u8 x.toNat] 5)
  go_wp2_with (at_builtin; refine wpList_append_lies _ rfl _ _ 98 rfl B 5 i0 _ 1 1 Tryz.underlying98 hi hz0 hz1 hz2 rfl (by omega) _ _ _ rfl hown' ⟨w1.heap.size, 0, none⟩ 1 1 [.int .u8 x.toNat] rfl rfl (World.news_of_block (heap_alloc_new w1 _)) (by simp [Value.oneCell']) (by omega) (by rw [Hbl.out]; unfold maxLen; omega) (by rw [Hbl.out]; omega) (by simp only [World.size_alloc]; omega) _ rfl ?_; intro gg cap w2 hown2 hgrow hat hlt2; have hb2 : w2.heap[b]? = some (.cells #[.pointer (some ⟨b, 0, none⟩), v] 100 (0, 0)) := (hgrow.block b (by simp only [World.size_alloc]; omega) (fun e => hvl e.symm)).trans ((heap_alloc_old w1 _ hlt).trans Hbk.out); have d0 : w2.cell? ⟨b, 0, none⟩ = some (.pointer (some ⟨b, 0, none⟩)) := (by rw [Lib.cell_of_heap hb2]; rfl); have d1 : w2.cell? ⟨b, 1, none⟩ = some v := (by rw [Lib.cell_of_heap hb2]; rfl); have f1 : w2.frozen? ⟨b, 1, none⟩ = false := Lib.frozen_of_heap hb2 1; have Hb2 := Lib.hid hb2; clear hb2)
  go_ret
  refine ⟨rfl, .inr ?_, ?_⟩
  · rw [bcells_append, bcells_one]
    exact Lib.BuilderAt.put (T := 100) (e := 5) hB Hb2.out (bs' := bcells l ++ [.int .u8 x.toNat]) (by rw [List.length_append]; exact hown2) (by decide)
  · exact ((hb1.alloc (by omega) _).grown hgrow (by simp only [World.size_alloc]; omega) (fun k hk => (hown.lt k hk).1)).setCell (p := ⟨b, 1, none⟩) hB _

/-- A value whose method Kind tells a number. -/
def HasKind (v : Value) (k : Nat) : Prop :=
  ∃ (T : TypeId) (p : Value) (F : FuncId), v = .iface T p ∧ (∀ (n : Nat) (W : World), (method (n + 1) T p "Kind").run Tryz.prog W = .ok (F, p) W) ∧ (∀ W : World, (callFunc F #[p]).run Tryz.prog W = .ok (.enter F #[p]) W) ∧ ∀ W : World, Calls Tryz.prog F #[p] W fun e w' => e = .returned (.int .i64 k) ∧ Below W.heap.size W w'

theorem kind_beat (a b c : Int) (w : World) :
    Calls Tryz.prog 111 #[.agg #[.int .i64 a, .int .i64 b, .int .i64 c]] w fun en w' => en = .returned (.int .i64 1) ∧ Below w.heap.size w w' := by
  go_enter Tryz.func111, Tryz.ntmps111
  go_wp2_with fail
  go_ret
  exact ⟨rfl, (Below.refl _ _).alloc (Nat.le_refl _) _⟩

theorem kind_join (a b : Int) (w : World) :
    Calls Tryz.prog 112 #[.agg #[.int .i64 a, .int .i64 b]] w fun en w' => en = .returned (.int .i64 2) ∧ Below w.heap.size w w' := by
  go_enter Tryz.func112, Tryz.ntmps112
  go_wp2_with fail
  go_ret
  exact ⟨rfl, (Below.refl _ _).alloc (Nat.le_refl _) _⟩

theorem kind_lease (a b : Int) (w : World) :
    Calls Tryz.prog 113 #[.agg #[.int .i64 a, .int .i64 b]] w fun en w' => en = .returned (.int .i64 3) ∧ Below w.heap.size w w' := by
  go_enter Tryz.func113, Tryz.ntmps113
  go_wp2_with fail
  go_ret
  exact ⟨rfl, (Below.refl _ _).alloc (Nat.le_refl _) _⟩

theorem kind_view (a : Int) (c s b : Value) (nc cc : Nat) (uc : Option Addr) (ns cs : Nat) (us : Option Addr) (nb cb : Nat) (ub : Option Addr) (hc : c = .slice uc nc cc) (hs : s = .slice us ns cs) (hb : b = .slice ub nb cb) (w : World) :
    Calls Tryz.prog 114 #[.agg #[.int .i64 a, c, s, b]] w fun en w' => en = .returned (.int .i64 4) ∧ Below w.heap.size w w' := by
  subst hc
  subst hs
  subst hb
  go_enter Tryz.func114, Tryz.ntmps114
  go_wp2_with fail
  go_ret
  exact ⟨rfl, (Below.refl _ _).alloc (Nat.le_refl _) _⟩

theorem kind_whr (a : Int) (w : World) :
    Calls Tryz.prog 115 #[.agg #[.int .i64 a]] w fun en w' => en = .returned (.int .i64 5) ∧ Below w.heap.size w w' := by
  go_enter Tryz.func115, Tryz.ntmps115
  go_wp2_with fail
  go_ret
  exact ⟨rfl, (Below.refl _ _).alloc (Nat.le_refl _) _⟩

theorem kind_hav (a b c : Int) (l : Value) (nl cl : Nat) (ul : Option Addr) (hl : l = .slice ul nl cl) (w : World) :
    Calls Tryz.prog 116 #[.agg #[.int .i64 a, .int .i64 b, .int .i64 c, l]] w fun en w' => en = .returned (.int .i64 6) ∧ Below w.heap.size w w' := by
  subst hl
  go_enter Tryz.func116, Tryz.ntmps116
  go_wp2_with fail
  go_ret
  exact ⟨rfl, (Below.refl _ _).alloc (Nat.le_refl _) _⟩

theorem kind_logs (a b c d e f : Int) (l : Value) (nl cl : Nat) (ul : Option Addr) (hl : l = .slice ul nl cl) (w : World) :
    Calls Tryz.prog 117 #[.agg #[.int .i64 a, .int .i64 b, .int .i64 c, .int .i64 d, .int .i64 e, .int .i64 f, l]] w fun en w' => en = .returned (.int .i64 7) ∧ Below w.heap.size w w' := by
  subst hl
  go_enter Tryz.func117, Tryz.ntmps117
  go_wp2_with fail
  go_ret
  exact ⟨rfl, (Below.refl _ _).alloc (Nat.le_refl _) _⟩

theorem kind_ack (a b c : Int) (w : World) :
    Calls Tryz.prog 110 #[.agg #[.int .i64 a, .int .i64 b, .int .i64 c]] w fun en w' => en = .returned (.int .i64 8) ∧ Below w.heap.size w w' := by
  go_enter Tryz.func110, Tryz.ntmps110
  go_wp2_with fail
  go_ret
  exact ⟨rfl, (Below.refl _ _).alloc (Nat.le_refl _) _⟩

theorem kind_ask (a b c d : Int) (w : World) :
    Calls Tryz.prog 118 #[.agg #[.int .i64 a, .int .i64 b, .int .i64 c, .int .i64 d]] w fun en w' => en = .returned (.int .i64 9) ∧ Below w.heap.size w w' := by
  go_enter Tryz.func118, Tryz.ntmps118
  go_wp2_with fail
  go_ret
  exact ⟨rfl, (Below.refl _ _).alloc (Nat.le_refl _) _⟩

theorem kind_told (a b c d : Int) (w : World) :
    Calls Tryz.prog 119 #[.agg #[.int .i64 a, .int .i64 b, .int .i64 c, .int .i64 d]] w fun en w' => en = .returned (.int .i64 10) ∧ Below w.heap.size w w' := by
  go_enter Tryz.func119, Tryz.ntmps119
  go_wp2_with fail
  go_ret
  exact ⟨rfl, (Below.refl _ _).alloc (Nat.le_refl _) _⟩

theorem kind_app (a x y z : Int) (s : ByteArray) (l : Value) (nl cl : Nat) (ul : Option Addr) (hl : l = .slice ul nl cl) (w : World) :
    Calls Tryz.prog 120 #[.agg #[.int .i64 a, .string s, .int .i64 x, .int .i64 y, .int .i64 z, l]] w fun en w' => en = .returned (.int .i64 11) ∧ Below w.heap.size w w' := by
  subst hl
  go_enter Tryz.func120, Tryz.ntmps120
  go_wp2_with fail
  go_ret
  exact ⟨rfl, (Below.refl _ _).alloc (Nat.le_refl _) _⟩

theorem kind_red (a f : Int) (s : ByteArray) (w : World) :
    Calls Tryz.prog 121 #[.agg #[.int .i64 a, .string s, .int .i64 f]] w fun en w' => en = .returned (.int .i64 12) ∧ Below w.heap.size w w' := by
  go_enter Tryz.func121, Tryz.ntmps121
  go_wp2_with fail
  go_ret
  exact ⟨rfl, (Below.refl _ _).alloc (Nat.le_refl _) _⟩

theorem kind_rep (a b c d e f : Int) (w : World) :
    Calls Tryz.prog 122 #[.agg #[.int .i64 a, .int .i64 b, .int .i64 c, .int .i64 d, .int .i64 e, .int .i64 f]] w fun en w' => en = .returned (.int .i64 13) ∧ Below w.heap.size w w' := by
  go_enter Tryz.func122, Tryz.ntmps122
  go_wp2_with fail
  go_ret
  exact ⟨rfl, (Below.refl _ _).alloc (Nat.le_refl _) _⟩

theorem kind_res (a b c : Int) (l : Value) (nl cl : Nat) (ul : Option Addr) (hl : l = .slice ul nl cl) (w : World) :
    Calls Tryz.prog 123 #[.agg #[.int .i64 a, .int .i64 b, .int .i64 c, l]] w fun en w' => en = .returned (.int .i64 14) ∧ Below w.heap.size w w' := by
  subst hl
  go_enter Tryz.func123, Tryz.ntmps123
  go_wp2_with fail
  go_ret
  exact ⟨rfl, (Below.refl _ _).alloc (Nat.le_refl _) _⟩

theorem hasKind {B : Nat} {w : World} {v : Value} {m : Msg} (h : IsMsg B w v m) : HasKind v m.kind := by
  cases m
  case beat =>
    obtain rfl := h
    exact ⟨57, _, 111, rfl, fun n W => by kernel_rfl, fun W => by kernel_rfl, fun W => kind_beat _ _ _ W⟩
  case join =>
    obtain rfl := h
    exact ⟨59, _, 112, rfl, fun n W => by kernel_rfl, fun W => by kernel_rfl, fun W => kind_join _ _ W⟩
  case lease =>
    obtain rfl := h
    exact ⟨61, _, 113, rfl, fun n W => by kernel_rfl, fun W => by kernel_rfl, fun W => kind_lease _ _ W⟩
  case view =>
    obtain ⟨cv, sv, bv, rfl, i1, i2, i3⟩ := h
    obtain ⟨p1, q1, rfl⟩ := i1.form
    obtain ⟨p2, q2, rfl⟩ := i2.form
    obtain ⟨p3, q3, rfl⟩ := i3.form
    exact ⟨63, _, 114, rfl, fun n W => by kernel_rfl, fun W => by kernel_rfl, fun W => kind_view _ _ _ _ _ _ _ _ _ _ _ _ _ rfl rfl rfl W⟩
  case whr =>
    obtain rfl := h
    exact ⟨65, _, 115, rfl, fun n W => by kernel_rfl, fun W => by kernel_rfl, fun W => kind_whr _ W⟩
  case hav =>
    obtain ⟨lv, rfl, i1⟩ := h
    obtain ⟨p1, q1, rfl⟩ := i1.form
    exact ⟨67, _, 116, rfl, fun n W => by kernel_rfl, fun W => by kernel_rfl, fun W => kind_hav _ _ _ _ _ _ _ rfl W⟩
  case logs =>
    obtain ⟨lv, rfl, i1⟩ := h
    obtain ⟨p1, q1, rfl⟩ := i1.form
    exact ⟨69, _, 117, rfl, fun n W => by kernel_rfl, fun W => by kernel_rfl, fun W => kind_logs _ _ _ _ _ _ _ _ _ _ rfl W⟩
  case ack =>
    obtain rfl := h
    exact ⟨51, _, 110, rfl, fun n W => by kernel_rfl, fun W => by kernel_rfl, fun W => kind_ack _ _ _ W⟩
  case ask =>
    obtain rfl := h
    exact ⟨71, _, 118, rfl, fun n W => by kernel_rfl, fun W => by kernel_rfl, fun W => kind_ask _ _ _ _ W⟩
  case told =>
    obtain rfl := h
    exact ⟨73, _, 119, rfl, fun n W => by kernel_rfl, fun W => by kernel_rfl, fun W => kind_told _ _ _ _ W⟩
  case app =>
    obtain ⟨lv, rfl, i1⟩ := h
    obtain ⟨p1, q1, rfl⟩ := i1.form
    exact ⟨75, _, 120, rfl, fun n W => by kernel_rfl, fun W => by kernel_rfl, fun W => kind_app _ _ _ _ _ _ _ _ _ rfl W⟩
  case red =>
    obtain rfl := h
    exact ⟨77, _, 121, rfl, fun n W => by kernel_rfl, fun W => by kernel_rfl, fun W => kind_red _ _ _ W⟩
  case rep =>
    obtain rfl := h
    exact ⟨81, _, 122, rfl, fun n W => by kernel_rfl, fun W => by kernel_rfl, fun W => kind_rep _ _ _ _ _ _ W⟩
  case res =>
    obtain ⟨lv, rfl, i1⟩ := h
    obtain ⟨p1, q1, rfl⟩ := i1.form
    exact ⟨83, _, 123, rfl, fun n W => by kernel_rfl, fun W => by kernel_rfl, fun W => kind_res _ _ _ _ _ _ _ rfl W⟩
end Go.Proofs.YtflojipkgaocnaaGreatDoor
