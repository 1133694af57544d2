/-
  The walks of the generic functions over slices of ints.
-/
import Derived.Test.YtapgjjfndbfnpaaDoorCvInts
import Derived.Test.YtapgjjfndbfnpaaDoorShelf
import Derived.Test.YtapgjjfndbfnpaaDoorAid
import Derived.BigQuiet
import Derived.LoopN
import Derived.Deep.RegionHeld3
namespace Go.Proofs.YtapgjjfndbfnpaaDoor.Vw
open Go.RowKit

theorem iinfo : (Tryd.prog.info? 3).map (fun i => (i.zero, i.size, i.bytes)) = some (some (.int .i64 0), 1, 8) := by kernel_rfl

/-- append onto a row of the call's own: a slice of ints that came in, nil or not. -/
theorem append_ints {P : Program} {w : World} {ops : Array Oper} {rest : List Oper} {o : Oper} {a : Act} {Q : Exit → Act → World → Prop} (hgd : o.guard = none) (s x : Operand) (t : TypeId)
    (ho : o.op = .call { callee := .builtin .append, args := #[s, x], argTypes := #[t, t] })
    (base : Nat) (e : TypeId) (i : TypeInfo) (z : Value) (bytes : Nat) (ht : P.underlying t = some (.slice e)) (hi : P.info? e = some i) (hz : i.zero = some z)
    (hsize : i.size = 1) (hby : i.bytes = bytes) (hzs : z.cells.size = 1)
    (v : Value) (n : Nat) (xs : List Value) (hs : a.eval s = v) (hown : w.ownsRow base e 1 v n xs)
    (B : Nat) (v2 : Value) (l : List Int) (hx : a.eval x = v2) (hss : IsInts B w v2 l)
    (h63 : n + l.length ≤ maxLen) (hbytes : (n + l.length) * bytes ≤ 140737488355328) (hbase : base ≤ w.heap.size)
    (h : ∀ v' w', w'.ownsRow base e 1 v' (n + l.length) (xs ++ icells l) → w.grownBy w' v.ownBlock → wpList P ops Q rest (a.put o.dst v') w') : wpList P ops Q (o :: rest) a w := by
  obtain ⟨ad, cap, rfl, hn, _, hcap, _, hc⟩ := hss
  cases ad with
  | none =>
    obtain rfl := hcap rfl
    have h0 : l = [] := List.eq_nil_of_length_eq_zero (by omega)
    subst h0
    refine wpList_append_own_none hgd s x t ho base e i 1 ht hi v n xs hs hown hx ?_
    exact h v w (by simpa [icells] using hown) (World.grownBy.refl w _)
  | some ad =>
    refine wpList_append_own w hgd s x t ho base e i z 1 bytes ht hi hz hsize hby hzs (by omega) v n xs hs hown ad l.length cap (icells l) hx (by simp [icells]) (fun j u hu => ?_) (fun u hu => ?_) h63 hbytes hbase (fun v' w' h1 h2 _ => h v' w' h1 h2)
    · have hj : j < l.length := by
        have := (List.getElem?_eq_some_iff.1 hu).1
        simpa [icells] using this
      obtain ⟨b, off, he, _, hcell⟩ := hc (by omega)
      injection he with he
      subst he
      rw [add_spot _ rfl, hcell j hj]
      rw [icells, List.getElem?_map, List.getElem?_eq_getElem hj] at hu
      simpa using hu
    · obtain ⟨s', _, rfl⟩ := List.mem_map.1 hu
      rfl

set_option maxRecDepth 100000 in
theorem clone_any (B : Nat) (v : Value) (l : List Int) (w : World) (h : IsInts B w v l) (hB : B ≤ w.heap.size) (hn : l.length ≤ 1000000) :
    Calls Tryd.prog 48 #[v] w fun e w' => ∃ v', e = .returned v' ∧ w'.ownsRow w.heap.size 3 1 v' l.length (icells l) ∧ Below w.heap.size w w' := by
  obtain ⟨i0, hi, hz0, hz1, hz2⟩ := info_parts iinfo
  have q : ∀ (w : World) (a : Option Addr) (n c n' c' : Nat), (binOp .eql 25 (.slice a n c) (.slice none n' c')).run Tryd.prog w = .ok (.bool a.isNone) w := fun w a n c n' c' => Lib.run_eql_slice_nil w _ _ a n c n' c' Tryd.underlying25
  have H := h
  obtain ⟨a, cap, rfl, h1, h2, h3, h4, h5⟩ := H
  cases a with
  | none =>
    obtain rfl := h3 rfl
    have h0 : l = [] := List.eq_nil_of_length_eq_zero (by omega)
    subst h0
    go_enter Tryd.func48, Tryd.ntmps48
    go_wp2_with fail
    go_ret
    exact ⟨_, rfl, World.ownsRow_nil _ _ _ _, Below.refl _ _⟩
  | some ad =>
    have own0 := World.ownsRow_lit (base := w.heap.size) (e := 3) (size := 1) w #[] 0 (Nat.le_refl _) (by decide) rfl
    have hb0 : Below w.heap.size w (w.alloc (.cells #[] 3)) := (Below.refl _ _).alloc (Nat.le_refl _) _
    have hk := h.keep hb0 hB
    clear h5 h
    go_enter Tryd.func48, Tryd.ntmps48
    go_wp2_with (at_builtin; refine append_ints rfl (.tmp 5) (.tmp 6) _ rfl w.heap.size 3 i0 _ 8 Tryd.underlying25 hi hz0 hz1 hz2 rfl _ 0 [] rfl own0 B _ l rfl hk (by unfold maxLen; omega) (by omega) (by simp) ?_; intro v1 w1 hown1 hg1; have hb1 : Below w.heap.size w w1 := hb0.grown hg1 (by simp) (fun j hj => (own0.lt j hj).1))
    go_ret
    refine ⟨v1, rfl, ?_, hb1⟩
    simpa using hown1

def idxI (l : List Int) (x : Int) : Int := if x ∈ l then (l.idxOf x : Int) else -1

theorem idxOf_eq (l : List Int) (x : Int) (k : Nat) (hk : k < l.length) (h : l[k] = x) (hn : ∀ i, (hi : i < l.length) → i < k → l[i] ≠ x) : l.idxOf x = k := by
  have hx : x ∈ l := h ▸ List.getElem_mem hk
  have h1 : l.idxOf x < l.length := List.idxOf_lt_length_iff.2 hx
  have h2 : l[l.idxOf x] = x := List.getElem_idxOf h1
  rcases Nat.lt_trichotomy (l.idxOf x) k with h3 | h3 | h3
  · exact absurd h2 (hn _ h1 h3)
  · exact h3
  · have := List.not_of_lt_findIdx (p := (· == x)) (xs := l) (i := k) h3
    simp [h] at this

set_option maxHeartbeats 800000 in
theorem index_any (B : Nat) (v : Value) (l : List Int) (x : Int) (w : World) (h : IsInts B w v l) (hn : l.length ≤ 1000000) :
    Calls Tryd.prog 73 #[v, .int .i64 x] w fun e w' => e = .returned (.int .i64 (idxI l x)) ∧ w' = w := by
  have H := Lib.hid h
  obtain ⟨a, cap, rfl⟩ := h.form
  go_enter Tryd.func73, Tryd.ntmps73
  go_wp2_with fail
  go_loop [5, 8] (fun _ t8 => ∃ k : Nat, k ≤ l.length ∧ t8 = .int .i64 k ∧ ∀ i, (hi : i < l.length) → i < k → l[i] ≠ x) (fun _ i => l.length - (intOf i).toNat)
  case atStart => exact ⟨0, Nat.zero_le _, rfl, fun i _ h => absurd h (by omega)⟩
  case round =>
    obtain ⟨k, hk, rfl, hno⟩ := hrel
    have Hno := Lib.hid hno
    clear hno
    by_cases hlt : k < l.length
    · obtain ⟨b, off, cap', he, hblk, _, hcell⟩ := H.out.get k hlt
      obtain ⟨rfl, -, rfl⟩ : a = some ⟨b, off, none⟩ ∧ l.length = l.length ∧ cap = cap' := by injection he with e1 e2 e3; exact ⟨e1, e2, e3⟩
      clear he
      obtain ⟨y, hy⟩ : ∃ y, l[k] = y := ⟨_, rfl⟩
      rw [hy] at hcell
      have i1 : (0 : Int) ≤ (k : Int) := by omega
      have i2 : (k : Int) < (l.length : Int) := by omega
      by_cases hxy : x = y
      · have Hy := Lib.hid hy
        have g : (x == y) = true := by rw [hxy]; simp
        have Hxy := Lib.hid hxy
        clear hxy hy
        go_wp2_with fail
        go_ret
        refine ⟨ret_int ?_, rfl⟩
        have e : l[k] = x := Hy.out.trans Hxy.out.symm
        rw [idxI, if_pos (e ▸ List.getElem_mem hlt), idxOf_eq l x k hlt e Hno.out]
      · have g : (x == y) = false := by rw [beq_eq_false_iff_ne]; exact hxy
        have Hy := Lib.hid hy
        have Hxy := Lib.hid hxy
        clear hxy hy
        go_wp2_with fail
        go_round
        case rel =>
          refine ⟨k + 1, by omega, by go_num, fun i hi hik => ?_⟩
          by_cases e : i = k
          · subst e; rw [Hy.out]; exact fun h => Hxy.out h.symm
          · exact Hno.out i hi (by omega)
        case measure => simp [intOf]; omega
    · have g : ¬ ((k : Int) < (l.length : Int)) := by omega
      go_wp2_with fail
      go_ret
      refine ⟨ret_int ?_, rfl⟩
      rw [idxI, if_neg]
      intro hx
      obtain ⟨i, hi, e⟩ := List.getElem_of_mem hx
      exact Hno.out i hi (by omega) e

theorem idxI_ge (l : List Int) (x : Int) : decide (0 ≤ idxI l x) = decide (x ∈ l) := by
  by_cases h : x ∈ l
  · rw [idxI, if_pos h]; simp [h]
  · rw [idxI, if_neg h]; simp [h]

theorem contains_any (B : Nat) (v : Value) (l : List Int) (x : Int) (w : World) (h : IsInts B w v l) (hn : l.length ≤ 1000000) (b : Bool) (hb : b = decide (x ∈ l)) :
    Calls Tryd.prog 56 #[v, .int .i64 x] w fun e w' => e = .returned (.bool b) ∧ w' = w := by
  have c := Lib.hid (index_any B v l x w h hn)
  have hg := idxI_ge l x
  rw [← hb] at hg
  generalize idxI l x = n at c hg
  clear hb
  go_enter Tryd.func56, Tryd.ntmps56
  go_wp2_with fail
  refine c.out.mono ?_
  rintro e w1 ⟨rfl, rfl⟩
  go_wp2_with fail
  go_ret
  exact ⟨rfl, rfl⟩

end Go.Proofs.YtapgjjfndbfnpaaDoor.Vw
