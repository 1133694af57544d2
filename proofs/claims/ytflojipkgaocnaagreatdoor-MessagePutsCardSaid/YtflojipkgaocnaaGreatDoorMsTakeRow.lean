/-
  The walk of record.TakeRow. Printed by gen_mstakerow.py of this claim's writer.
-/
import Derived.Test.YtflojipkgaocnaaGreatDoorMsTakeR
namespace Go.Proofs.YtflojipkgaocnaaGreatDoor
open Go.RowKit
set_option linter.unusedSimpArgs false
set_option linter.unusedVariables false

def lenOf : Value → Nat
  | .slice _ n _ => n
  | _ => 0
theorem lenOf_slice (a : Option Addr) (n c : Nat) : lenOf (.slice a n c) = n := rfl
abbrev goR : Nat → List UInt8 → Nat → List EN × List UInt8 × Nat := rdBreak (rdIf zeroEN takeR)
theorem rdBreak_err {α : Type} {rd : List UInt8 → Nat → α × List UInt8 × Nat} {k : Nat} {l : List UInt8} {e : Nat} (h : e ≠ 0) : rdBreak rd k l e = ([], l, e) := by
  cases k with
  | zero => rfl
  | succ k => rw [rdBreak, if_pos h]
theorem takeR_le (l : List UInt8) : (takeR l).2.1.length ≤ l.length := by
  by_cases h : (takeR l).2.2 = 0
  · have hb := (entry_cod.back l 0 (by rw [rdIf, if_neg (by simp)]; exact h)).2.1
    rw [rdIf, if_neg (by simp)] at hb
    have := congrArg List.length hb
    rw [List.length_append] at this
    omega
  · unfold takeR at h ⊢
    split
    · simp
    · split
      · simp
      · rename_i h1 h2
        rw [if_neg h1, if_neg h2] at h
        exact absurd h (by simpa using h1)
/-- Two rows of unlike elements are two blocks. -/
theorem own_other {W W' : World} {b1 b2 : Nat} {e1 e2 : TypeId} {s1 s2 n1 n2 : Nat} {v1 v2 : Value} {x1 x2 : List Value} (h : W.ownsRow b1 e1 s1 v1 n1 x1) (hr : W.ownsRow b2 e2 s2 v2 n2 x2) (hne : e1 ≠ e2) (k : W.grownBy W' v2.ownBlock) : W'.ownsRow b1 e1 s1 v1 n1 x1 := by
  refine h.kept k ?_
  rcases h.2 with ⟨rfl, _⟩ | ⟨g, cap, cur, rfl, _, hg, _⟩
  · exact .inl rfl
  · refine .inr fun e => ?_
    rcases hr.2 with ⟨rfl, _⟩ | ⟨g', cap', cur', rfl, _, hg', _⟩
    · simp [Value.ownBlock] at e
    · simp only [Value.ownBlock, Option.some.injEq] at e
      subst e
      rw [hg] at hg'
      injection hg' with hg'
      injection hg' with _ h2 _
      exact hne h2
/-- The events of each entry, in rows of the call's own. -/
def EvOwn (base : Nat) (W : World) (P : List (EN × Value)) : Prop := ∀ p ∈ P, W.ownsRow base 55 2 p.2 p.1.b.events.length (ecells p.1.b.events)
theorem EvOwn.below {base : Nat} {W W' : World} {P : List (EN × Value)} (h : EvOwn base W P) (hb : Below W.heap.size W W') : EvOwn base W' P := fun p hp => own_below hb (h p hp)
theorem ecell_plain {P : List (EN × Value)} {base : Nat} {W : World} (h : EvOwn base W P) : ∀ u ∈ P.flatMap ecell, u.oneCell' = true := by
  intro u hu
  obtain ⟨p, hp, hu⟩ := List.mem_flatMap.1 hu
  obtain ⟨a, c, hf⟩ := own_form (h p hp)
  simp only [ecell, hf, List.mem_cons, List.mem_nil_iff, or_false] at hu
  rcases hu with rfl | rfl | rfl | rfl | rfl | rfl | rfl <;> rfl
/-- What holds at each round's head. -/
def RowRel (w : World) (m cnt : Nat) (G : List EN × List UInt8 × Nat) (t0 t8 t9 : Value) (wr : World) : Prop :=
  ∃ (P : List (EN × Value)) (li : List UInt8) (ei : Nat), t0 = .string (bstr li) ∧ t8 = .int .i64 (ei : Int) ∧ P.length ≤ cnt ∧ li.length ≤ maxLen ∧ (ei = 0 → cnt = m) ∧
    G = (P.map (·.1) ++ (goR (cnt - P.length) li ei).1, (goR (cnt - P.length) li ei).2) ∧ wr.ownsRow w.heap.size 53 7 t9 P.length (P.flatMap ecell) ∧ EvOwn w.heap.size wr P ∧ Below w.heap.size w wr
/-- Entries that were read, in rows of the call's own. -/
def GotRow (v : List EN) (l' : List UInt8) (e' : Nat) (w : World) (r : Ending) (w' : World) : Prop :=
  ∃ (lv : Value) (P : List (EN × Value)), r = .returned (.tuple #[lv, .string (bstr l'), .int .i64 e']) ∧ P.map (·.1) = v ∧ w'.ownsRow w.heap.size 53 7 lv P.length (P.flatMap ecell) ∧ EvOwn w.heap.size w' P ∧ Below w.heap.size w w'

set_option maxRecDepth 100000 in
set_option maxHeartbeats 6400000 in
theorem takeRow_any (l : List UInt8) (most : Nat) (hmost : most ≤ 1000) (v : List EN) (l' : List UInt8) (e' : Nat) (h : takeRow l most = (v, l', e')) (hl : l.length ≤ maxLen) (w : World) (hT : Tabs w) :
    Calls Tryz.prog 77 #[.string (bstr l), .int .i64 most] w fun r w' => GotRow v l' e' w r w' := by
  have HT := Lib.hid hT
  obtain ⟨m, l1, e1, h1⟩ : ∃ a b c, takeN l = (a, b, c) := ⟨_, _, _, rfl⟩
  have hl1 : l1.length ≤ maxLen := by have := takeN_rest_le l; rw [h1] at this; exact Nat.le_trans this hl
  have hm1 : m ≤ maxNum := by have := takeN_le l; rw [h1] at this; exact this
  have C1 := Lib.hid (take_lit (bstr l) m l1 e1 h1 (by rw [bstr_size]; exact hl))
  obtain ⟨e0, he0⟩ : ∃ e0, (if e1 ≠ 0 then e1 else if most < m then 4 else 0) = e0 := ⟨_, rfl⟩
  have a1 : rdNum l 0 = (m, l1, e1) := by rw [rdNum, if_neg (by simp)]; exact h1
  have hmany : rdMany most l 0 = (if e0 ≠ 0 then 0 else m, l1, e0) := by
    unfold rdMany
    rw [a1]
    simp only
    by_cases q1 : e1 = 0
    · subst q1
      rw [if_neg (by simp)] at he0 ⊢
      by_cases q2 : most < m
      · rw [if_pos q2] at he0 ⊢; subst he0; rfl
      · rw [if_neg q2] at he0 ⊢; subst he0; rfl
    · rw [if_pos q1] at he0 ⊢
      subst he0
      rw [if_pos q1]
  have hgo : takeRow l most = if (goR (if e0 ≠ 0 then 0 else m) l1 e0).2.2 ≠ 0 then ([], [], (goR (if e0 ≠ 0 then 0 else m) l1 e0).2.2) else goR (if e0 ≠ 0 then 0 else m) l1 e0 := by
    unfold takeRow rdList
    rw [hmany]
  have hcm : e0 = 0 → (if e0 ≠ 0 then 0 else m) = m ∧ m ≤ most := by
    intro q
    subst q
    refine ⟨if_neg (by simp), ?_⟩
    by_cases q1 : e1 = 0
    · subst q1
      rw [if_neg (by simp)] at he0
      by_cases q2 : most < m
      · rw [if_pos q2] at he0; cases he0
      · omega
    · rw [if_pos q1] at he0; exact absurd he0 q1
  generalize (if e0 ≠ 0 then 0 else m) = cnt at hgo hcm
  rw [hgo] at h
  obtain ⟨G, hG⟩ : ∃ G, goR cnt l1 e0 = G := ⟨_, rfl⟩
  rw [hG] at h
  have HG := Lib.hid hG
  obtain ⟨i0, hi0, hzz0, hzz1, hzz2⟩ := info_parts Tryz.eninfo
  have HH := Lib.hid h
  have HCM := Lib.hid hcm
  have HL1 := Lib.hid hl1
  have CE := Lib.hid (fun (li : List UInt8) (hli : li.length ≤ maxLen) (X : World) (hX : Below w.heap.size w X) => takeR_any li (takeR li).1 (takeR li).2.1 (takeR li).2.2 rfl hli X (tabs_below HT.out hX))
  unfold maxNum at hm1
  have im : (m : Int) ≤ 1099511627776 := by omega
  have hcase : (e1 = 0 ∧ decide (most < m) = true ∧ e0 = 4) ∨ (e1 = 0 ∧ decide (most < m) = false ∧ e0 = 0) ∨ (((e1 : Int) == 0) = false ∧ e0 = e1) := by
    by_cases q1 : e1 = 0
    · subst q1
      rw [if_neg (by simp)] at he0
      by_cases q2 : most < m
      · rw [if_pos q2] at he0
        exact .inl ⟨rfl, decide_eq_true q2, he0.symm⟩
      · rw [if_neg q2] at he0
        exact .inr (.inl ⟨rfl, decide_eq_false q2, he0.symm⟩)
    · rw [if_pos q1] at he0
      exact .inr (.inr ⟨by simp; omega, he0.symm⟩)
  clear hT h h1 a1 hmany hgo hcm hl hl1 he0 hG
  rcases hcase with ⟨rfl, g1, rfl⟩ | ⟨rfl, g1, rfl⟩ | ⟨g1, rfl⟩
  all_goals
    go_enter Tryz.func77, Tryz.ntmps77
    go_wp2_with fail
    refine (C1.out _).mono ?_
    rintro r w1 ⟨rfl, hb1⟩
    have HB1 := Lib.hid hb1
    clear hb1
    go_wp2_with fail
    go_loopw [0, 8, 9, 10, 11, 12] (fun t0 t8 t9 _ _ _ wr => RowRel w m cnt G t0 t8 t9 wr) (fun _ _ t9 _ _ _ _ => m - lenOf t9)
    case atStart => exact ⟨[], l1, _, rfl, rfl, Nat.zero_le _, HL1.out, (fun h => by first | exact (HCM.out trivial).1 | exact (HCM.out h).1 | cases h), by rw [← HG.out]; simp, World.ownsRow_nil _ _ _ _, fun p hp => absurd hp (by simp), HB1.out⟩
    case round =>
      obtain ⟨P, li, ei, rfl, rfl, hPl, hli, hei, hgo, hown, hevs, hbl⟩ := hrel
      have HGO := Lib.hid hgo
      have HEI := Lib.hid hei
      have HOWN := Lib.hid hown
      have HEVS := Lib.hid hevs
      have HBL := Lib.hid hbl
      have HLI := Lib.hid hli
      obtain ⟨ra, rc, rfl⟩ := own_form hown
      have hPm : P.length ≤ maxLen := own_len hown
      unfold maxLen at hPm
      have ip : (0 : Int) ≤ (P.length : Int) := by omega
      clear hgo hei hown hevs hbl hli
      by_cases h0 : ei = 0
      · subst h0
        have hc1 := HEI.out rfl
        by_cases hlt : P.length < m
        · have i2 : (P.length : Int) < (m : Int) := by omega
          have HC1 := Lib.hid hc1
          clear hc1
          go_wp2_with fail
          refine (CE.out li HLI.out _ HBL.out).mono ?_
          rintro r w7 ⟨lv, rfl, how7, hb7⟩
          obtain ⟨la, lc, rfl⟩ := own_form how7
          have HOW7 := Lib.hid how7
          have HB7 := Lib.hid hb7
          clear how7 hb7
          have hnx : goR (cnt - P.length) li 0 = ((takeR li).1 :: (goR (cnt - (P.length + 1)) (takeR li).2.1 (takeR li).2.2).1, (goR (cnt - (P.length + 1)) (takeR li).2.1 (takeR li).2.2).2) := by
            rw [show cnt - P.length = (cnt - (P.length + 1)) + 1 by have := HC1.out; omega]
            show rdBreak _ (_ + 1) li 0 = _
            rw [rdBreak, if_neg (by simp), rdIf, if_neg (by simp)]
          have HNX := Lib.hid hnx
          have HLE := Lib.hid (takeR_le li)
          clear hnx
          obtain ⟨⟨v1, l8, e8⟩, hv⟩ : ∃ x, takeR li = x := ⟨_, rfl⟩
          rw [hv] at HNX HLE HOW7
          simp only [hv]
          simp only at HNX HLE HOW7
          clear hv
          have hz := HBL.out.size
          have hz7 := HB7.out.size
          have hA := (((Below.refl w7.heap.size w7).alloc (Nat.le_refl _) (.cells #[.int .i64 v1.pos, .int .i64 v1.epoch, .string v1.b.stream, .int .i64 v1.b.expect, .int .i64 v1.b.session, .int .i64 v1.b.seq, .slice la v1.b.events.length lc] 53)).alloc (by rw [World.size_alloc]; omega) (.cells #[.int .i64 v1.pos, .int .i64 v1.epoch, .string v1.b.stream, .int .i64 v1.b.expect, .int .i64 v1.b.session, .int .i64 v1.b.seq, .slice la v1.b.events.length lc] 53))
          have HA := Lib.hid hA
          have HOWA := Lib.hid (own_below hA (own_below HB7.out HOWN.out))
          have HEVA := Lib.hid ((HEVS.out.below HB7.out).below hA)
          have HLVA := Lib.hid (own_below hA (own_less hz HOW7.out))
          clear hA
          go_wp2_with (at_builtin; refine wpList_append_lies _ rfl _ _ 25 rfl w.heap.size 53 i0 _ 7 80 Tryz.underlying25 hi0 hzz0 hzz1 hzz2 rfl (by omega) _ _ _ rfl HOWA.out ⟨w7.heap.size + 1, 0, none⟩ 1 1 [.int .i64 v1.pos, .int .i64 v1.epoch, .string v1.b.stream, .int .i64 v1.b.expect, .int .i64 v1.b.session, .int .i64 v1.b.seq, .slice la v1.b.events.length lc] rfl rfl (World.news_of_block (heap_alloc2_new w7 _ _)) (by simp [Value.oneCell']) (by omega) (by unfold maxLen; omega) (by omega) (by simp only [World.size_alloc]; omega) _ rfl ?_; intro gg cap2 w8 hown8 hgrow hat hlt8; have HOW8 := Lib.hid hown8; have HGR := Lib.hid hgrow; clear hown8 hgrow hat)
          go_roundw
          case rel =>
            have hev8 : EvOwn w.heap.size w8 (P ++ [(v1, .slice la v1.b.events.length lc)]) := by
              intro p hp
              rcases List.mem_append.1 hp with hp | hp
              · exact own_other (HEVA.out p hp) HOWA.out (by decide) HGR.out
              · obtain rfl := List.mem_singleton.1 hp
                exact own_other HLVA.out HOWA.out (by decide) HGR.out
            refine ⟨P ++ [(v1, .slice la v1.b.events.length lc)], l8, e8, rfl, rfl, by rw [List.length_append, List.length_singleton, HC1.out]; omega, Nat.le_trans HLE.out HLI.out, fun _ => HC1.out, ?_, ?_, hev8, ?_⟩
            · rw [HGO.out, HNX.out, List.length_append, List.length_singleton, List.map_append]
              simp
            · rw [List.length_append, List.length_singleton, List.flatMap_append]
              have := HOW8.out
              simpa [ecell] using this
            · exact ((bstep HBL.out HB7.out).trans (HA.out.mono (Nat.le_trans hz hz7))).grown HGR.out (by have := HA.out.size; omega) (fun j hj => (HOWA.out.lt j hj).1)
          case measure => simp [lenOf]; omega
        · have i2 : ¬ (P.length : Int) < (m : Int) := by omega
          have hpm : P.length = m := by omega
          have hx : goR (cnt - P.length) li 0 = ([], li, 0) := by rw [hpm, hc1, Nat.sub_self]; rfl
          have hgo := HGO.out
          have hh := HH.out
          rw [hgo, hx] at hh
          rw [if_neg (by simp), List.append_nil] at hh
          simp only [Prod.mk.injEq] at hh
          obtain ⟨rfl, rfl, rfl⟩ := hh
          clear hgo hx hpm hc1
          go_wp2_with fail
          go_ret3
          exact ⟨_, P, rfl, rfl, HOWN.out, HEVS.out, HBL.out⟩
      · have g0 : ((ei : Int) == 0) = false := by simp; omega
        have g0' : ((ei : Int) != 0) = true := by simp; omega
        have hx : goR (cnt - P.length) li ei = ([], li, ei) := rdBreak_err h0
        have hgo := HGO.out
        have hh := HH.out
        rw [hgo, hx] at hh
        rw [if_pos h0] at hh
        simp only [Prod.mk.injEq] at hh
        obtain ⟨rfl, rfl, rfl⟩ := hh
        clear hgo hx
        go_wp2_with fail
        go_ret3
        exact ⟨.slice none 0 0, [], rfl, rfl, World.ownsRow_nil _ _ _ _, fun p hp => absurd hp (by simp), HBL.out⟩
end Go.Proofs.YtflojipkgaocnaaGreatDoor
