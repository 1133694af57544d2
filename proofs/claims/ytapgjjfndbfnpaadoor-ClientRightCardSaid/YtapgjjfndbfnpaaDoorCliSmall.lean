/-
  The walks of bucketlinelaw22.pick, fits and small.
-/
import Derived.Test.YtapgjjfndbfnpaaDoorCliLight
import Derived.Test.YtapgjjfndbfnpaaDoorCliOpen
import Derived.Test.YtapgjjfndbfnpaaDoorCliApp
namespace Go.Proofs.YtapgjjfndbfnpaaDoor
open Go.RowKit
set_option linter.unusedSimpArgs false
set_option linter.unusedVariables false

theorem pick_any (c : Int) (hc : Vw.I64 c) (n : Nat) (hn : 0 < n) (hn2 : n ≤ 4294967296) (w : World) :
    Calls Tryd.prog 14 #[.int .i64 c, .int .i64 n] w fun r w' => r = .returned (.int .i64 (pickT c n : Nat)) ∧ w = w' := by
  obtain ⟨hc1, hc2⟩ := hc
  have i1 : ¬ (n : Int) = 0 := by omega
  by_cases hc0 : c < 0
  · have e1 : IntKind.i64.wrap (c + 1) = c + 1 := by rw [IntKind.wrap_i64]; omega
    have e2 : IntKind.i64.wrap (-(c + 1)) = -(c + 1) := by rw [IntKind.wrap_i64]; omega
    have hr : pickT c n = (-(c + 1)).toNat % n := by rw [pickT, if_pos hc0]
    obtain ⟨m, hm⟩ : ∃ m : Nat, -(c + 1) = (m : Int) := ⟨(-(c + 1)).toNat, by omega⟩
    rw [hm, Int.toNat_natCast] at hr
    have hlt : m % n < n := Nat.mod_lt _ hn
    have HR := Lib.hid hr
    have e3 : (m : Int).tmod (n : Int) = ((m % n : Nat) : Int) := by rw [Int.tmod_eq_emod_of_nonneg (by omega)]; rfl
    have e4 : IntKind.i64.wrap ((m % n : Nat) : Int) = ((m % n : Nat) : Int) := by rw [IntKind.wrap_i64]; omega
    rw [hm] at e2
    clear hr
    go_enter Tryd.func14, Tryd.ntmps14
    go_wp2_with fail
    go_ret
    refine ⟨ret_int ?_, rfl⟩
    rw [HR.out]
    first | rfl | (rw [← e4]; rfl) | skip
  · have hr : pickT c n = c.toNat % n := by rw [pickT, if_neg hc0]
    obtain ⟨m, rfl⟩ : ∃ m : Nat, c = (m : Int) := ⟨c.toNat, by omega⟩
    rw [Int.toNat_natCast] at hr
    have hlt : m % n < n := Nat.mod_lt _ hn
    have HR := Lib.hid hr
    have e3 : (m : Int).tmod (n : Int) = ((m % n : Nat) : Int) := by rw [Int.tmod_eq_emod_of_nonneg (by omega)]; rfl
    have e4 : IntKind.i64.wrap ((m % n : Nat) : Int) = ((m % n : Nat) : Int) := by rw [IntKind.wrap_i64]; omega
    clear hr
    go_enter Tryd.func14, Tryd.ntmps14
    go_wp2_with fail
    go_ret
    refine ⟨ret_int ?_, rfl⟩
    rw [HR.out]
    first | rfl | skip
theorem pick_lt (c : Int) (n : Nat) (hn : 0 < n) : pickT c n < n := Nat.mod_lt _ hn

/-- Some entries in a block. -/
def IsEnts (B : Nat) (w : World) (q : Nat) (es : List (BW × Value)) : Prop :=
  q < B ∧ ∀ i, (h : i < es.length) → w.cell? ⟨q, i * 7 + 2, none⟩ = some (.string es[i].1.stream) ∧ w.cell? ⟨q, i * 7 + 2 + 1, none⟩ = some (.int .i64 es[i].1.expect) ∧ w.cell? ⟨q, i * 7 + 2 + 2, none⟩ = some (.int .i64 es[i].1.session) ∧
    w.cell? ⟨q, i * 7 + 2 + 3, none⟩ = some (.int .i64 es[i].1.seq) ∧ w.cell? ⟨q, i * 7 + 2 + 4, none⟩ = some es[i].2 ∧ IsEvents B w es[i].2 es[i].1.events
theorem IsEnts.keep {B B' : Nat} {w w' : World} {q : Nat} {es : List (BW × Value)} (h : IsEnts B w q es) (hb : Below B' w w') (hB : B ≤ B') : IsEnts B w' q es := by
  refine ⟨h.1, fun i hi => ?_⟩
  obtain ⟨h0, h1, h2, h3, h4, h5⟩ := h.2 i hi
  have hq : q < B' := Nat.lt_of_lt_of_le h.1 hB
  exact ⟨(hb.cell hq).trans h0, (hb.cell hq).trans h1, (hb.cell hq).trans h2, (hb.cell hq).trans h3, (hb.cell hq).trans h4, h5.keep hb hB⟩
def SomeB (P : Prop) (w : World) (e : Ending) (w' : World) : Prop := ∃ b : Bool, e = .returned (.bool b) ∧ (b = true → P) ∧ Below w.heap.size w w'

set_option maxRecDepth 100000 in
set_option maxHeartbeats 1600000 in
theorem fits22_any (q cap : Nat) (es : List (BW × Value)) (w : World) (h : IsEnts w.heap.size w q es) (hl : es.length ≤ 40) :
    Calls Tryd.prog 29 #[.slice (some ⟨q, 0, none⟩) es.length cap] w (SomeB (∀ i, (h : i < es.length) → LightB es[i].1) w) := by
  have HE := Lib.hid h
  have g0 : ¬ (40 : Int) < (es.length : Int) := by omega
  clear h
  go_enter Tryd.func29, Tryd.ntmps29
  go_wp2_with fail
  go_loopw [2, 3, 4, 5] (fun _ t3 _ _ wr => ∃ k : Nat, k ≤ es.length ∧ t3 = .int .i64 k ∧ (∀ i, (h : i < es.length) → i < k → LightB es[i].1) ∧ Below w.heap.size w wr) (fun _ t3 _ _ _ => es.length - (intOf t3).toNat)
  case atStart => exact ⟨0, Nat.zero_le _, rfl, fun i _ h => absurd h (by omega), Below.refl _ _⟩
  case round =>
    obtain ⟨k, hk, rfl, hno, hb⟩ := hrel
    have HNO := Lib.hid hno
    have HB := Lib.hid hb
    clear hno hb
    by_cases hlt : k < es.length
    · obtain ⟨h0, h1, h2, h3, h4, h5⟩ := (HE.out.keep HB.out (Nat.le_refl _)).2 k hlt
      obtain ⟨y, hy⟩ : ∃ y, es[k] = y := ⟨_, rfl⟩
      rw [hy] at h0 h1 h2 h3 h4 h5
      obtain ⟨ea, ek, hf⟩ := h5.form
      rw [hf] at h4 h5
      have HY := Lib.hid hy
      have H5 := Lib.hid h5
      have hmax : y.1.events.length ≤ 9223372036854775807 := by obtain ⟨_, _, he, h1, h2, _⟩ := h5; unfold maxLen at h2; omega
      have i1 : (0 : Int) ≤ (k : Int) := by omega
      have i2 : (k : Int) < (es.length : Int) := by omega
      clear hy hf h5
      by_cases hs : 300 < y.1.stream.size
      · have g1 : (300 : Int) < (y.1.stream.size : Int) := by omega
        go_wp2_with fail
        go_ret
        exact ⟨false, rfl, (fun e => by cases e), HB.out.alloc HB.out.size _⟩
      · have g1 : ¬ (300 : Int) < (y.1.stream.size : Int) := by omega
        by_cases hn : 20 < y.1.events.length
        · have g2 : (20 : Int) < (y.1.events.length : Int) := by omega
          go_wp2_with fail
          go_ret
          exact ⟨false, rfl, (fun e => by cases e), HB.out.alloc HB.out.size _⟩
        · have g2 : ¬ (20 : Int) < (y.1.events.length : Int) := by omega
          have HA := Lib.hid ((Below.refl wr.heap.size wr).alloc (Nat.le_refl _) (.cells #[.string y.1.stream, .int .i64 y.1.expect, .int .i64 y.1.session, .int .i64 y.1.seq, .slice ea y.1.events.length ek] 24))
          have G := Lib.hid (heap_alloc_new wr (.cells #[.string y.1.stream, .int .i64 y.1.expect, .int .i64 y.1.session, .int .i64 y.1.seq, .slice ea y.1.events.length ek] 24))
          have HBA := Lib.hid (HB.out.trans (HA.out.mono HB.out.size))
          go_wp2_with fail
          generalize wr.alloc (.cells #[.string y.1.stream, .int .i64 y.1.expect, .int .i64 y.1.session, .int .i64 y.1.seq, .slice ea y.1.events.length ek] 24) = wa at *
          have y4 : wa.cell? ⟨wr.heap.size, 4, none⟩ = some (.slice ea y.1.events.length ek) := by rw [Lib.cell_of_heap G.out]; rfl
          go_loop [2, 5] (fun _ t5 => ∃ m : Nat, m ≤ y.1.events.length ∧ t5 = .int .i64 m ∧ (∀ j, (h : j < y.1.events.length) → j < m → LightE y.1.events[j])) (fun _ t5 => y.1.events.length - (intOf t5).toNat)
          case atStart => exact ⟨0, Nat.zero_le _, rfl, fun j _ h => absurd h (by omega)⟩
          case round =>
            obtain ⟨m, hm, rfl, hne⟩ := hrel
            have HNE := Lib.hid hne
            clear hne
            by_cases hlm : m < y.1.events.length
            · obtain ⟨b, off, cap', he, hblk, _, d1, d2⟩ := (H5.out.keep HA.out HB.out.size).get m hlm
              obtain ⟨rfl, -, rfl⟩ : ea = some ⟨b, off, none⟩ ∧ y.1.events.length = y.1.events.length ∧ ek = cap' := by injection he with e1 e2 e3; exact ⟨e1, e2, e3⟩
              clear he
              obtain ⟨z, hz⟩ : ∃ z, y.1.events[m] = z := ⟨_, rfl⟩
              rw [hz] at d1 d2
              have HZ := Lib.hid hz
              clear hz
              have j1 : (0 : Int) ≤ (m : Int) := by omega
              have j2 : (m : Int) < (y.1.events.length : Int) := by omega
              by_cases hk1 : 300 < z.kind.size
              · have g3 : (300 : Int) < (z.kind.size : Int) := by omega
                go_wp2_with fail
                go_ret
                exact ⟨false, rfl, (fun e => by cases e), HBA.out⟩
              · have g3 : ¬ (300 : Int) < (z.kind.size : Int) := by omega
                by_cases hk2 : 500 < z.data.size
                · have g4 : (500 : Int) < (z.data.size : Int) := by omega
                  go_wp2_with fail
                  go_ret
                  exact ⟨false, rfl, (fun e => by cases e), HBA.out⟩
                · have g4 : ¬ (500 : Int) < (z.data.size : Int) := by omega
                  go_wp2_with fail
                  go_round
                  case rel =>
                    refine ⟨m + 1, by omega, by go_num, fun j hj hjm => ?_⟩
                    by_cases e : j = m
                    · subst e
                      rw [HZ.out]
                      exact ⟨by omega, by omega⟩
                    · exact HNE.out j hj (by omega)
                  case measure => simp [intOf]; omega
            · have g3 : ¬ ((m : Int) < (y.1.events.length : Int)) := by omega
              go_wp2_with fail
              go_roundw
              case rel =>
                refine ⟨k + 1, by omega, by go_num, fun i hi hik => ?_, HBA.out⟩
                by_cases e : i = k
                · subst e
                  rw [HY.out]
                  exact ⟨by omega, by omega, fun x hx => by
                    obtain ⟨j, hj, rfl⟩ := List.getElem_of_mem hx
                    exact HNE.out j hj (by omega)⟩
                · exact HNO.out i hi (by omega)
              case measure => simp [intOf]; omega
    · have g : ¬ ((k : Int) < (es.length : Int)) := by omega
      go_wp2_with fail
      go_ret
      exact ⟨true, rfl, fun _ i hi => HNO.out i hi (by omega), HB.out⟩
end Go.Proofs.YtapgjjfndbfnpaaDoor
