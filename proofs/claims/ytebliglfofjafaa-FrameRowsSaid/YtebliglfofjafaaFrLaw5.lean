/-
  The walk of the law FrameRows.
-/
import Derived.Test.YtebliglfofjafaaFrLaw3
import Derived.Laws.AppendOwnNone
namespace Go.Proofs.Ytebliglfofjafaa
open Go.RowKit

/-- append onto a row of the call's own: a slice of strings that came in, nil or not. -/
theorem append_strs {P : Program} {w : World} {ops : Array Oper} {rest : List Oper} {o : Oper} {a : Act} {Q : Exit → Act → World → Prop} (hgd : o.guard = none) (s x : Operand) (t : TypeId)
    (ho : o.op = .call { callee := .builtin .append, args := #[s, x], argTypes := #[t, t] })
    (base : Nat) (e : TypeId) (i : TypeInfo) (z : Value) (bytes : Nat) (ht : P.underlying t = some (.slice e)) (hi : P.info? e = some i) (hz : i.zero = some z)
    (hsize : i.size = 1) (hby : i.bytes = bytes) (hzs : z.cells.size = 1)
    (v : Value) (n : Nat) (xs : List Value) (hs : a.eval s = v) (hown : w.ownsRow base e 1 v n xs)
    (v2 : Value) (ss : List ByteArray) (hx : a.eval x = v2) (hss : IsStrs w v2 ss) (hroom : RoomS v2)
    (h63 : n + ss.length ≤ maxLen) (hbytes : (n + ss.length) * bytes ≤ 140737488355328) (hbase : base ≤ w.heap.size)
    (h : ∀ v' w', w'.ownsRow base e 1 v' (n + ss.length) (xs ++ ss.map Value.string) → w.grownBy w' v.ownBlock → wpList P ops Q rest (a.put o.dst v') w') : wpList P ops Q (o :: rest) a w := by
  obtain ⟨ad, n2, cap, rfl, hn, hcap⟩ := hroom
  obtain ⟨rfl, _, _, hc⟩ := hss.at_
  cases ad with
  | none =>
    obtain rfl := hcap rfl
    have h0 : ss = [] := List.eq_nil_of_length_eq_zero (by omega)
    subst h0
    refine wpList_append_own_none hgd s x t ho base e i 1 ht hi v n xs hs hown hx ?_
    exact h v w (by simpa using hown) (World.grownBy.refl w _)
  | some ad =>
    refine wpList_append_own w hgd s x t ho base e i z 1 bytes ht hi hz hsize hby hzs (by omega) v n xs hs hown ad ss.length cap (ss.map Value.string) hx (by simp) (fun j u hu => ?_) (fun u hu => ?_) h63 hbytes hbase (fun v' w' h1 h2 _ => h v' w' h1 h2)
    · have hj : j < ss.length := by
        have := (List.getElem?_eq_some_iff.1 hu).1
        simpa using this
      obtain ⟨b, off, he, _, hcell⟩ := hc (by omega)
      injection he with he
      subst he
      rw [addr_add_spot _ rfl, hcell j hj]
      rw [List.getElem?_map, List.getElem?_eq_getElem hj] at hu
      simpa using hu
    · obtain ⟨s', _, rfl⟩ := List.mem_map.1 hu
      rfl

theorem scells_lists (ss : List ByteArray) : scells (lists ss) = ss.map Value.string := by simp [scells, lists, bstr_of]
theorem map_lists (ss : List ByteArray) : (lists ss).map bstr = ss := by
  rw [lists, List.map_map]
  exact (List.map_congr_left (fun x _ => bstr_of x)).trans (List.map_id _)

theorem rowFr_ok_of {l : List (List UInt8)} (h : ∀ p ∈ l, fits p) : (rowFr l).2 = 0 := by rw [rowFr_all l h]
theorem rowFr_join {l m : List (List UInt8)} (h : (rowFr l).2 ≠ 0 ∨ (rowFr m).2 ≠ 0) : (rowFr (l ++ m)).2 ≠ 0 := fun h0 => by
  have hf := rowFr_ok h0
  rcases h with h | h
  · exact h (rowFr_ok_of fun p hp => hf p (List.mem_append.2 (.inl hp)))
  · exact h (rowFr_ok_of fun p hp => hf p (List.mem_append.2 (.inr hp)))

set_option maxRecDepth 100000 in
set_option maxHeartbeats 3200000 in
theorem walkFrameRows (v : Value) (u : Value) (w : World) (hv : ∃ ss, IsStrs w v ss ∧ RoomS v) (hu : ∃ ss, IsStrs w u ss ∧ RoomS u) :
    Calls Try.prog 7 #[v, u] w fun e w' => e = .returned (.bool true) ∧ Below w.heap.size w w' := by
  obtain ⟨ps, hv, hrv⟩ := hv
  obtain ⟨bs, hu, hru⟩ := hu
  obtain ⟨i0, hi, hz0, hz1, hz2⟩ := info_parts Try.sinfo
  have S0 := Lib.hid frShown
  by_cases hs1 : SmallP ps
  · have S1 := Lib.hid (fun w' h => small_lit v ps true (by simp [hs1]) w' h)
    by_cases hs2 : SmallP bs
    · have S2 := Lib.hid (fun w' h => small_lit u bs true (by simp [hs2]) w' h)
      have hla := hs1.1
      have hlb := hs2.1
      obtain ⟨T1, hT1⟩ : ∃ q : ByteArray, rowFr (lists ps) = (q.data.toList, (rowFr (lists ps)).2) := ⟨bstr (rowFr (lists ps)).1, rfl⟩
      obtain ⟨T2, hT2⟩ : ∃ q : ByteArray, rowFr (lists bs) = (q.data.toList, (rowFr (lists bs)).2) := ⟨bstr (rowFr (lists bs)).1, rfl⟩
      obtain ⟨U, hU⟩ : ∃ q : ByteArray, rowFr (lists (ps ++ bs)) = (q.data.toList, (rowFr (lists (ps ++ bs))).2) := ⟨bstr (rowFr (lists (ps ++ bs))).1, rfl⟩
      have c1 := Lib.hid (row_lit v ps T1 _ hT1 (by omega))
      have c2 := Lib.hid (row_lit u bs T2 _ hT2 (by omega))
      have c3 := Lib.hid (fun x => row_lit x (ps ++ bs) U _ hU (by rw [List.length_append]; omega))
      have hbad : ¬ ((rowFr (lists ps)).2 = 0 ∧ (rowFr (lists bs)).2 = 0) → (rowFr (lists (ps ++ bs))).2 ≠ 0 ∧ U = ⟨#[]⟩ := fun hE => by
        have hE3 : (rowFr (lists (ps ++ bs))).2 ≠ 0 := by rw [lists_append]; exact rowFr_join (by omega)
        have hw := rowFr_wrong hE3
        exact ⟨hE3, nil_of (by rw [← hw, hU])⟩
      have hgood : (rowFr (lists ps)).2 = 0 ∧ (rowFr (lists bs)).2 = 0 → (rowFr (lists (ps ++ bs))).2 = 0 ∧ T1 ++ T2 = U ∧ T1.size = rowLen (lists ps) ∧ T2.size = rowLen (lists bs) ∧ (scanFr U.data.toList).1 = lists (ps ++ bs) ∧ rowLen (lists (ps ++ bs)) = U.size ∧ U.size ≤ 600000 := fun hE => by
        have f1 := rowFr_ok hE.1
        have f2 := rowFr_ok hE.2
        have f3 : ∀ p ∈ lists (ps ++ bs), fits p := by
          intro p hp
          rw [lists_append] at hp
          rcases List.mem_append.1 hp with hp | hp
          · exact f1 p hp
          · exact f2 p hp
        have e1 : T1.data.toList = rowBytes (lists ps) := by rw [rowFr_all _ f1] at hT1; exact (Prod.mk.inj hT1).1.symm
        have e2 : T2.data.toList = rowBytes (lists bs) := by rw [rowFr_all _ f2] at hT2; exact (Prod.mk.inj hT2).1.symm
        have e3 : U.data.toList = rowBytes (lists (ps ++ bs)) := by rw [rowFr_all _ f3] at hU; exact (Prod.mk.inj hU).1.symm
        have z1 : T1.size = rowLen (lists ps) := by have := congrArg List.length e1; rw [rowBytes_len] at this; simpa using this
        have z2 : T2.size = rowLen (lists bs) := by have := congrArg List.length e2; rw [rowBytes_len] at this; simpa using this
        have z3 : U.size = rowLen (lists (ps ++ bs)) := by have := congrArg List.length e3; rw [rowBytes_len] at this; simpa using this
        have hb3 := rowLen_bound _ f3
        rw [lists_len, List.length_append] at hb3
        refine ⟨rowFr_ok_of f3, ext_list ?_, z1, z2, ?_, z3.symm, by omega⟩
        · rw [list_addF, e1, e2, e3, lists_append, rowBytes_append]
        · have h := scan_more _ f3 [] (by decide)
          rw [List.append_nil] at h
          rw [e3]; exact h
      clear hT1 hT2 hU
      generalize (rowFr (lists ps)).2 = E1 at c1 hbad hgood
      generalize (rowFr (lists bs)).2 = E2 at c2 hbad hgood
      generalize (rowFr (lists (ps ++ bs))).2 = E3 at c3 hbad hgood
      have Hbad := Lib.hid hbad
      have Hgood := Lib.hid hgood
      clear hbad hgood
      have Hv0 := hv
      have Hroom := hrv
      obtain ⟨a, n, cap, rfl, hncap, hnone⟩ := Hroom
      obtain ⟨rfl, _, _, _⟩ := hv.at_
      obtain ⟨a2, n2, cap2, rfl, hncap2, hnone2⟩ := id hru
      obtain ⟨rfl, _, _, _⟩ := hu.at_
      go_enter Try.func7, Try.ntmps7
      go_wp2_with fail
      refine (S0.out _).mono ?_
      rintro e w1 ⟨rfl, h1⟩
      go_wp2_with fail
      refine (S1.out _ (hv.below h1)).mono ?_
      rintro e w2 ⟨rfl, rfl⟩
      go_wp2_with fail
      refine (S2.out _ (hu.below h1)).mono ?_
      rintro e w2 ⟨rfl, rfl⟩
      go_wp2_with fail
      refine (c1.out _ (hv.below h1)).mono ?_
      rintro e w3 ⟨rfl, h3⟩
      go_wp2_with fail
      refine (c2.out _ ((hu.below h1).below h3)).mono ?_
      rintro e w4 ⟨rfl, h4⟩
      have hv4 := ((hv.below h1).below h3).below h4
      have hu4 := ((hu.below h1).below h3).below h4
      have own0 := World.ownsRow_lit (base := w4.heap.size) (e := 9) (size := 1) w4 #[] 0 (Nat.le_refl _) (by decide) rfl
      have hb0 : Below w4.heap.size w4 (w4.alloc (.cells #[] 9)) := (Below.refl _ _).alloc (Nat.le_refl _) _
      go_wp2_with (first
        | (at_builtin
           refine append_strs rfl (.tmp 45) (.tmp 46) _ rfl w4.heap.size 9 i0 _ 16 Try.underlying22 hi hz0 hz1 hz2 rfl _ 0 [] rfl own0 _ ps rfl (hv4.below hb0) hrv (by unfold maxLen; omega) (by omega) (by simp) ?_
           intro v1 W1 hown1 hg1
           have hb1 : Below w4.heap.size w4 W1 := hb0.grown hg1 (by simp) (fun j hj => (own0.lt j hj).1))
        | (at_builtin
           refine append_strs rfl (.tmp 47) (.tmp 48) _ rfl w4.heap.size 9 i0 _ 16 Try.underlying22 hi hz0 hz1 hz2 rfl v1 (0 + ps.length) _ rfl hown1 _ bs rfl (hu4.below hb1) hru (by unfold maxLen; omega) (by omega) hb1.size ?_
           intro v2 W2 hown2 hg2
           have hb2 : Below w4.heap.size w4 W2 := hb1.grown hg2 hb1.size (fun j hj => (hown1.lt j hj).1)))
      have hstr : IsStrs W2 v2 (ps ++ bs) := by
        have e : ([] ++ ps.map Value.string) ++ bs.map Value.string = scells (lists (ps ++ bs)) := by rw [scells_lists]; simp
        rw [e] at hown2
        have h := own_strs hown2 (fun p hp => by
          obtain ⟨s, hs, rfl⟩ := List.mem_map.1 hp
          rcases List.mem_append.1 hs with hs | hs
          · have := hv.at_.2.1 s hs; simpa using this
          · have := hu.at_.2.1 s hs; simpa using this) (by rw [lists_len, List.length_append]; unfold maxLen; omega)
        rwa [map_lists] at h
      refine (c3.out _ _ hstr).mono ?_
      rintro e w5 ⟨rfl, h5⟩
      have hB := bstep (bstep (bstep (bstep h1 h3) h4) hb2) h5
      by_cases hE : E1 = 0 ∧ E2 = 0
      · obtain ⟨g0, hTU, hz1', hz2', hsc, hrl, hUb⟩ := Hgood.out hE
        obtain ⟨rfl, rfl⟩ := hE
        subst g0
        have hUs : U.size = T1.size + T2.size := by rw [← hTU, ByteArray.size_append]
        have hadd : ∀ W : World, (Op.stringOp .add T1 T2).run Try.prog W = .ok (.string U) W := fun W => by rw [← hTU]; exact run_string_add_sum (P := Try.prog) (w := W) T1 T2 (by omega)
        have c4 := Lib.hid (scan_lit U (ps ++ bs) U.size hsc hrl (by omega))
        have Hz1 := Lib.hid hz1'
        have Hv5 := Lib.hid ((hv4.below hb2).below h5).at_'
        clear hTU hz1' hz2' hsc hrl
        go_wp2_with fail
        go_loop [14, 15] (fun t14 t15 => ∃ k : Nat, k ≤ ps.length ∧ t15 = .int .i64 k ∧ t14 = .int .i64 ((rowLen (lists (ps.take k)) : Nat) : Int)) (fun _ i => ps.length - (intOf i).toNat)
        case atStart => exact ⟨0, Nat.zero_le _, rfl, by simp [lists, rowLen]⟩
        case round =>
          obtain ⟨k, hk, rfl, rfl⟩ := hrel
          by_cases hlt : k < ps.length
          · have g1 : (k : Int) < (ps.length : Int) := by omega
            have g2 : (0 : Int) ≤ (k : Int) := by omega
            obtain ⟨b, off, cap', he, hblk, hcell⟩ := Hv5.out k hlt (by omega)
            obtain ⟨rfl, -, rfl⟩ : a = some ⟨b, off, none⟩ ∧ ps.length = ps.length ∧ cap = cap' := by injection he with e1 e2 e3; exact ⟨e1, e2, e3⟩
            clear he
            obtain ⟨s, hse⟩ : ∃ s, ps[k] = s := ⟨_, rfl⟩
            rw [hse] at hcell
            have hstep : rowLen (lists (ps.take (k + 1))) = rowLen (lists (ps.take k)) + (8 + s.size) := by
              rw [lists_take, lists_take, rowLen_take_succ _ _ (by rw [lists_len]; exact hlt), lists_get _ _ hlt, hse]
            have hle : rowLen (lists (ps.take (k + 1))) ≤ U.size := by
              have h := rowLen_mono (lists ps) (k + 1) ps.length (by omega)
              rw [← lists_take, ← lists_take, List.take_length, ← Hz1.out] at h
              omega
            generalize rowLen (lists (ps.take k)) = X at hstep
            have g3 : (X : Int) + (s.size : Int) + 8 ≤ 600000 := by omega
            have Hstep := Lib.hid hstep
            clear hstep hle hse
            go_wp2_with fail
            go_round
            case rel => exact ⟨k + 1, by omega, by go_num, by rw [Hstep.out]; go_num⟩
            case measure => simp [intOf]; omega
          · have hkk2 : k = ps.length := by omega
            subst hkk2
            rw [List.take_length, ← Hz1.out]
            have g1 : ¬ ((ps.length : Int) < (ps.length : Int)) := by omega
            go_wp2_with fail
            refine (c4.out _).mono ?_
            rintro e w6 ⟨v3, rfl, hv3, h6⟩
            obtain ⟨a3, cap3, rfl⟩ := hv3.form
            rw [List.length_append]
            go_wp2_with fail
            go_ret
            exact ⟨rfl, bstep hB h6⟩
      · obtain ⟨hE3, rfl⟩ := Hbad.out hE
        have ge : ((E3 : Int) != 0) = true := by rw [bne_iff_ne]; omega
        by_cases hE1 : E1 = 0
        · subst hE1
          have ge2 : ((E2 : Int) != 0) = true := by rw [bne_iff_ne]; omega
          clear hE hE3
          go_wp2_with fail
          go_ret
          exact ⟨rfl, hB⟩
        · have ge2 : ((E1 : Int) != 0) = true := by rw [bne_iff_ne]; omega
          clear hE hE3 hE1
          go_wp2_with fail
          go_ret
          exact ⟨rfl, hB⟩
    · have S2 := Lib.hid (fun w' h => small_lit u bs false (by simp [hs2]) w' h)
      go_enter Try.func7, Try.ntmps7
      go_wp2_with fail
      refine (S0.out _).mono ?_
      rintro e w1 ⟨rfl, h1⟩
      go_wp2_with fail
      refine (S1.out _ (hv.below h1)).mono ?_
      rintro e w2 ⟨rfl, rfl⟩
      go_wp2_with fail
      refine (S2.out _ (hu.below h1)).mono ?_
      rintro e w2 ⟨rfl, rfl⟩
      go_wp2_with fail
      go_ret
      exact ⟨rfl, h1⟩
  · have S1 := Lib.hid (fun w' h => small_lit v ps false (by simp [hs1]) w' h)
    obtain ⟨b2, hb2⟩ : ∃ b2 : Bool, b2 = true ↔ SmallP bs := by
      by_cases h : SmallP bs
      · exact ⟨true, by simp [h]⟩
      · exact ⟨false, by simp [h]⟩
    have S2 := Lib.hid (fun w' h => small_lit u bs b2 hb2 w' h)
    go_enter Try.func7, Try.ntmps7
    go_wp2_with fail
    refine (S0.out _).mono ?_
    rintro e w1 ⟨rfl, h1⟩
    go_wp2_with fail
    refine (S1.out _ (hv.below h1)).mono ?_
    rintro e w2 ⟨rfl, rfl⟩
    go_wp2_with fail
    refine (S2.out _ (hu.below h1)).mono ?_
    rintro e w2 ⟨rfl, rfl⟩
    go_wp2_with fail
    go_ret
    exact ⟨rfl, h1⟩
end Go.Proofs.Ytebliglfofjafaa
