/-
  The walk of slices.Delete at timers: of a row of the call's own, in its place.
-/
import Derived.Test.YtpadbkplknnopaaTmApp
import Derived.Test.YtpadbkplknnopaaRegInv
import Derived.IntWalk
import Derived.Lib.Builder
namespace Go.Proofs.Ytpadbkplknnopaa
open Go.RowKit


theorem run_append_zeroT {P : Program} (w : World) (t ty e : TypeId) (i : TypeInfo) (ht : P.underlying t = some (.slice e)) (hi : P.info? e = some i) (base a : Option Addr) (sLen sCap c : Nat) (hle : sLen ≤ sCap) :
    (Builtin.append_ #[t, t] ty #[.slice base sLen sCap, .slice a 0 c]).run P w = .ok (.slice base sLen sCap) w := by
  cases base <;> cases a <;> simp [Builtin.append_, run_underlying ht, sizeOf, typeInfo, hi, Builtin.lenOf, Builtin.firstCells, loadCells, loadCellsFrom, hle, storeCells]
theorem step_append_zeroT {P : Program} (w : World) {ops : Array Oper} {o : Oper} {a : Act} {K : Act → World → Prop} {Q : Exit → Act → World → Prop} {E : Prop} (hgd : o.guard = none) (s x : Operand) (t : TypeId)
    (ho : o.op = .call { callee := .builtin .append, args := #[s, x], argTypes := #[t, t] }) (e : TypeId) (i : TypeInfo) (ht : P.underlying t = some (.slice e)) (hi : P.info? e = some i)
    (base ad : Option Addr) (sLen sCap c : Nat) (hs : a.eval s = .slice base sLen sCap) (hx : a.eval x = .slice ad 0 c) (hle : sLen ≤ sCap)
    (h : K (a.put o.dst (.slice base sLen sCap)) w) : if Region.wanted o (yielded ops a.tmps) = true then Oper.wp P o a w K Q else E := by
  have hw : Region.wanted o (yielded ops a.tmps) = true := by simp [Region.wanted, hgd]
  rw [if_pos hw]
  have hr := run_append_zeroT (P := P) w t o.type e i ht hi base ad sLen sCap c hle
  unfold Oper.wp execOp
  simp only [ho, resolve, invoke, builtin, Sem.run_bind, Sem.run_pure, Result.andThen_ok, List.map_toArray, List.map_cons, List.map_nil, hs, hx, hr]
  exact h
theorem step_append_rowT {P : Program} (w : World) {ops : Array Oper} {o : Oper} {a : Act} {K : Act → World → Prop} {Q : Exit → Act → World → Prop} {E : Prop} (hgd : o.guard = none) (s x : Operand) (t : TypeId)
    (ho : o.op = .call { callee := .builtin .append, args := #[s, x], argTypes := #[t, t] }) (e : TypeId) (i : TypeInfo) (ht : P.underlying t = some (.slice e)) (hi : P.info? e = some i) (hsize : i.size = 2)
    (g sLen sCap : Nat) (cur : Array Value) (hg : w.heap[g]? = some (.cells cur e (0, 0))) (hs : a.eval s = .slice (some ⟨g, 0, none⟩) sLen sCap)
    (ad : Addr) (m c : Nat) (hx : a.eval x = .slice (some ad) m c) (news : List Value) (hl : news.length = m * 2) (hnews : ∀ j u, news[j]? = some u → w.cell? (ad.add j) = some u) (h1 : ∀ u ∈ news, u.oneCell' = true)
    (hroom : sLen + m ≤ sCap) (hfit : sLen * 2 + news.length ≤ cur.size)
    (h : K (a.put o.dst (.slice (some ⟨g, 0, none⟩) (sLen + m) sCap)) (w.setRow g (cur.toList.take (sLen * 2) ++ news ++ cur.toList.drop (sLen * 2 + news.length)).toArray)) :
    if Region.wanted o (yielded ops a.tmps) = true then Oper.wp P o a w K Q else E := by
  have hw : Region.wanted o (yielded ops a.tmps) = true := by simp [Region.wanted, hgd]
  rw [if_pos hw]
  have hr := run_append_room (P := P) w t o.type e i ht hi g sLen sCap cur hg ad m c news (by rw [hsize]; exact hl) hnews h1 hroom (by rw [hsize]; exact hfit)
  rw [hsize] at hr
  unfold Oper.wp execOp
  simp only [ho, resolve, invoke, builtin, Sem.run_bind, Sem.run_pure, Result.andThen_ok, List.map_toArray, List.map_cons, List.map_nil, hs, hx, hr]
  exact h
/-- 'clear' of one timer. -/
theorem run_clearT (w : World) (ty : TypeId) (g o c : Nat) (cur : Array Value) (hg : w.heap[g]? = some (.cells cur 61 (0, 0))) (ho : o + 2 ≤ cur.size) :
    (Builtin.clear_ #[24] ty #[.slice (some ⟨g, o, none⟩) 1 c]).run Try.prog w = .ok (.tuple #[]) (w.setRow g (cur.toList.take o ++ [Value.string ⟨#[]⟩, Value.int .i64 0] ++ cur.toList.drop (o + 2)).toArray) := by
  have hst := run_storeCells_at Try.prog g o 61 [Value.string ⟨#[]⟩, Value.int .i64 0] 0 cur w hg (by simpa using ho) (by simp [Value.oneCell'])
  simp only [Nat.add_zero, List.length_cons, List.length_nil] at hst
  have hz : (Builtin.zeroCells (Value.agg #[.string ⟨#[]⟩, .int .i64 0]).cells 1).toList = [Value.string ⟨#[]⟩, Value.int .i64 0] := by
    simp [Builtin.zeroCells, Value.cells]
    rfl
  simp [Builtin.clear_, run_underlying Try.underlying24, Try.zeroValue61, hz, hst]

set_option maxRecDepth 100000 in
set_option maxHeartbeats 1600000 in
theorem delete_any (base : Nat) (v : Value) (l : List TM) (i : Nat) (hi : i < l.length) (hl64 : l.length ≤ 1000) (w : World) (h : OwnT w base v l) :
    Calls Try.prog 30 #[v, .int .i64 i, .int .i64 ((i : Int) + 1)] w fun r w' => ∃ v', r = .returned v' ∧ OwnT w' base v' (l.eraseIdx i) ∧ Below base w w' := by
  obtain ⟨i0, hi0, hz0, hz1, hz2⟩ := info_parts Try.tminfo
  obtain ⟨g, cap, cur, rfl, hbg, hg, hnc, hcm, hsz, htk⟩ := h.block (by omega)
  have HG := Lib.hid hg
  have HTK := Lib.hid htk
  have i1 : (0 : Int) ≤ (i : Int) := by omega
  have i2 : (i : Int) ≤ (i : Int) + 1 := by omega
  have i3 : (i : Int) + 1 ≤ (l.length : Int) := by omega
  have i4 : (l.length : Int) ≤ (cap : Int) := by omega
  have i5 : (0 : Int) ≤ (i : Int) + 1 := by omega
  have i6 : (i : Int) ≤ (cap : Int) := by omega
  have i7 : (i : Int) ≤ (l.length : Int) := by omega
  have g1 : ((i : Int) == (i : Int) + 1) = false := by rw [beq_eq_false_iff_ne]; omega
  have HSZ := Lib.hid hsz
  clear h hg htk hsz
  go_enter Try.func30, Try.ntmps30
  go_wp2_with fail
  obtain ⟨n1, hn1⟩ : ∃ n1, l.length = n1 + 1 := ⟨l.length - 1, by omega⟩
  have HN1 := Lib.hid hn1
  clear hn1
  by_cases hlast : i + 1 = l.length
  · have e1 : l.length - (i + 1) = 0 := by omega
    have HLAST := Lib.hid hlast
    by_cases hce : cap = i + 1
    · subst hce
      clear hlast
      refine region_begin (S := fun _ => True) 8 rfl (by kernel_rfl) trivial (fun hH0 => ?_)
      refine wpAnyH_take (i := 0) (oi := ?od0a) (v := ?vd0a) ?hid0a (by kernel_rfl) (by kernel_rfl) (by kernel_rfl) ?hQd0a ?hyd0a hH0 ?_
      case hid0a => simp only [List.getElem?_toArray, List.getElem?_cons_zero]; rfl
      case hQd0a => exact fun _ _ _ h => h
      case hyd0a => refine Or.inl ⟨by rfl, ?_⟩; intro W hSw; (try dsimp only at hSw); go_simp; try with_reducible rfl
      simp only [Act.put, List.setIfInBounds_toArray, List.set_cons_zero, List.set_cons_succ]
      refine wpAnyH_take (i := 1) (oi := ?od1a) (v := ?vd1a) ?hid1a (by kernel_rfl) (by kernel_rfl) (by kernel_rfl) ?hQd1a ?hyd1a hH0 ?_
      case hid1a => simp only [List.getElem?_toArray, List.getElem?_cons_zero, List.getElem?_cons_succ]; rfl
      case hQd1a => exact fun _ _ _ h => h
      case hyd1a => refine Or.inl ⟨by rfl, ?_⟩; intro W hSw; (try dsimp only at hSw); go_simp; try with_reducible rfl
      simp only [Act.put, List.setIfInBounds_toArray, List.set_cons_zero, List.set_cons_succ]
      refine wpAnyH_take (i := 2) (oi := ?od2a) (v := ?vd2a) ?hid2a (by kernel_rfl) (by kernel_rfl) (by kernel_rfl) ?hQd2a ?hyd2a hH0 ?_
      case hid2a => simp only [List.getElem?_toArray, List.getElem?_cons_zero, List.getElem?_cons_succ]; rfl
      case hQd2a => exact fun _ _ _ h => h
      case hyd2a => refine Or.inl ⟨by rfl, ?_⟩; intro W hSw; (try dsimp only at hSw); go_simp; try with_reducible rfl
      simp only [Act.put, List.setIfInBounds_toArray, List.set_cons_zero, List.set_cons_succ]
      refine wpAnyH_take (i := 3) (oi := ?od3a) (v := ?vd3a) ?hid3a (by kernel_rfl) (by kernel_rfl) (by kernel_rfl) ?hQd3a ?hyd3a hH0 ?_
      case hid3a => simp only [List.getElem?_toArray, List.getElem?_cons_zero, List.getElem?_cons_succ]; rfl
      case hQd3a => exact fun _ _ _ h => h
      case hyd3a => refine Or.inl ⟨by rfl, ?_⟩; intro W hSw; (try dsimp only at hSw); go_simp; try with_reducible rfl
      simp only [Act.put, List.setIfInBounds_toArray, List.set_cons_zero, List.set_cons_succ]
      refine wpAnyH_take (i := 4) (oi := ?od4a) (v := ?vd4a) ?hid4a (by kernel_rfl) (by kernel_rfl) (by kernel_rfl) ?hQd4a ?hyd4a hH0 ?_
      case hid4a => simp only [List.getElem?_toArray, List.getElem?_cons_zero, List.getElem?_cons_succ]; rfl
      case hQd4a => exact fun _ _ _ h => h
      case hyd4a => refine Or.inl ⟨by rfl, ?_⟩; intro W hSw; (try dsimp only at hSw); go_simp; try with_reducible rfl
      simp only [Act.put, List.setIfInBounds_toArray, List.set_cons_zero, List.set_cons_succ]
      refine wpAnyH_take (i := 5) (oi := ?od5a) (v := ?vd5a) ?hid5a (by kernel_rfl) (by kernel_rfl) (by kernel_rfl) ?hQd5a ?hyd5a hH0 ?_
      case hid5a => simp only [List.getElem?_toArray, List.getElem?_cons_zero, List.getElem?_cons_succ]; rfl
      case hQd5a => exact fun _ _ _ h => h
      case hyd5a => refine Or.inl ⟨by rfl, ?_⟩; intro W hSw; (try dsimp only at hSw); go_simp; try with_reducible rfl
      simp only [Act.put, List.setIfInBounds_toArray, List.set_cons_zero, List.set_cons_succ]
      refine wpAnyH_ready (rs := [6]) (by kernel_rfl) (by simp) ?_
      refine AllReadyH.cons (o := ?od6a) ?hod6a (fun K' hK => ?_) AllReadyH.nil
      case hod6a => simp only [List.getElem?_toArray, List.getElem?_cons_zero, List.getElem?_cons_succ]; rfl
      refine step_append_zeroT _ (by rfl) _ _ _ (by rfl) 61 i0 Try.underlying24 hi0 _ _ i (i + 1) _ (by rfl) (by rfl) (by omega) ?_
      refine hK.out _ _ trivial (fun hH1 => ?_)
      clear hK K'
      (try simp only [Act.put, List.setIfInBounds_toArray, List.set_cons_zero, List.set_cons_succ])
      refine wpAnyH_take (i := 7) (oi := ?od7a) (v := ?vd7a) ?hid7a (by kernel_rfl) (by kernel_rfl) (by kernel_rfl) ?hQd7a ?hyd7a hH1 ?_
      case hid7a => simp only [List.getElem?_toArray, List.getElem?_cons_zero, List.getElem?_cons_succ]; rfl
      case hQd7a => exact fun _ _ _ h => h
      case hyd7a => refine Or.inl ⟨by rfl, ?_⟩; intro W hSw; (try dsimp only at hSw); go_simp; try with_reducible rfl
      simp only [Act.put, List.setIfInBounds_toArray, List.set_cons_zero]
      refine wpAnyH_done (by kernel_rfl) ?_ _
      have HG1 := Lib.hid (show w.drew.heap[g]? = some (.cells cur 61) from HG.out)
      have HS1 := HSZ
      have HB1 := Lib.hid ((Below.refl base w).drew)
      have hlast := HLAST.out
      have HT1 := Lib.hid (show cur.toList.take (i * 2) = tcells (l.eraseIdx i) by
        have h5 := congrArg (List.take (i * 2)) HTK.out
        rw [List.take_take, Nat.min_eq_left (by omega)] at h5
        rw [h5, ← tcells_take, List.eraseIdx_eq_take_drop_succ, List.drop_of_length_le (by omega), List.append_nil])
      generalize w.drew = w1 at *
      have hm1 : i + 1 = l.length := by omega
      have e2 : l.length - i = 1 := by omega
      have e3 : ¬ (i + 1) = i := by omega
      have k1 : (i : Int) ≤ (l.length : Int) := by omega
      have k2 : (0 : Int) ≤ (i : Int) := by omega
      have k3 : (i : Int) ≤ ((i + 1) : Int) := by omega
      have hz' : i * 2 + 2 ≤ cur.size := by rw [HS1.out]; omega
      have hcl := fun ty => run_clearT w1 ty g (i * 2) 1 cur HG1.out hz'
      have hgc := setRow_heap w1 g cur (cur.toList.take (i * 2) ++ [Value.string ⟨#[]⟩, Value.int .i64 0] ++ cur.toList.drop (i * 2 + 2)).toArray _ _ HG1.out
      have hbc : Below base w (w1.setRow g (cur.toList.take (i * 2) ++ [Value.string ⟨#[]⟩, Value.int .i64 0] ++ cur.toList.drop (i * 2 + 2)).toArray) := HB1.out.trans (below_row hbg _)
      have hle : (l.eraseIdx i).length = i := by rw [List.length_eraseIdx_of_lt hi]; omega
      have hown : OwnT (w1.setRow g (cur.toList.take (i * 2) ++ [Value.string ⟨#[]⟩, Value.int .i64 0] ++ cur.toList.drop (i * 2 + 2)).toArray) base (.slice (some ⟨g, 0, none⟩) i (i + 1)) (l.eraseIdx i) := by
        have h5 := OwnT.mk' (l := l.eraseIdx i) hbg hgc (by omega) hcm (by
          have := HS1.out
          rw [← Array.length_toList] at this
          simp only [List.size_toArray, List.length_append, List.length_take, List.length_drop, List.length_cons, List.length_nil]
          omega) (by
          have h6 : i * 2 ≤ cur.toList.length := by rw [Array.length_toList]; omega
          rw [hle]
          simp only [List.append_assoc]
          rw [List.take_append_of_le_length (by rw [List.length_take]; omega), List.take_take, Nat.min_self]
          exact HT1.out)
        rw [hle] at h5
        exact h5
      have HOWN := Lib.hid hown
      have HBC := Lib.hid hbc
      clear hgc hbc hown hle hm1 hz'
      clear hlast
      generalize w1.setRow g (cur.toList.take (i * 2) ++ [Value.string ⟨#[]⟩, Value.int .i64 0] ++ cur.toList.drop (i * 2 + 2)).toArray = w2 at *
      go_wp2_with fail
      go_ret
      exact ⟨_, rfl, HOWN.out, HBC.out⟩
    · clear hlast
      refine region_begin (S := fun _ => True) 8 rfl (by kernel_rfl) trivial (fun hH0 => ?_)
      refine wpAnyH_take (i := 0) (oi := ?od0c) (v := ?vd0c) ?hid0c (by kernel_rfl) (by kernel_rfl) (by kernel_rfl) ?hQd0c ?hyd0c hH0 ?_
      case hid0c => simp only [List.getElem?_toArray, List.getElem?_cons_zero]; rfl
      case hQd0c => exact fun _ _ _ h => h
      case hyd0c => refine Or.inl ⟨by rfl, ?_⟩; intro W hSw; (try dsimp only at hSw); go_simp; try with_reducible rfl
      simp only [Act.put, List.setIfInBounds_toArray, List.set_cons_zero, List.set_cons_succ]
      refine wpAnyH_take (i := 1) (oi := ?od1c) (v := ?vd1c) ?hid1c (by kernel_rfl) (by kernel_rfl) (by kernel_rfl) ?hQd1c ?hyd1c hH0 ?_
      case hid1c => simp only [List.getElem?_toArray, List.getElem?_cons_zero, List.getElem?_cons_succ]; rfl
      case hQd1c => exact fun _ _ _ h => h
      case hyd1c => refine Or.inl ⟨by rfl, ?_⟩; intro W hSw; (try dsimp only at hSw); go_simp; try with_reducible rfl
      simp only [Act.put, List.setIfInBounds_toArray, List.set_cons_zero, List.set_cons_succ]
      refine wpAnyH_take (i := 2) (oi := ?od2c) (v := ?vd2c) ?hid2c (by kernel_rfl) (by kernel_rfl) (by kernel_rfl) ?hQd2c ?hyd2c hH0 ?_
      case hid2c => simp only [List.getElem?_toArray, List.getElem?_cons_zero, List.getElem?_cons_succ]; rfl
      case hQd2c => exact fun _ _ _ h => h
      case hyd2c => refine Or.inl ⟨by rfl, ?_⟩; intro W hSw; (try dsimp only at hSw); go_simp; try with_reducible rfl
      simp only [Act.put, List.setIfInBounds_toArray, List.set_cons_zero, List.set_cons_succ]
      refine wpAnyH_take (i := 3) (oi := ?od3c) (v := ?vd3c) ?hid3c (by kernel_rfl) (by kernel_rfl) (by kernel_rfl) ?hQd3c ?hyd3c hH0 ?_
      case hid3c => simp only [List.getElem?_toArray, List.getElem?_cons_zero, List.getElem?_cons_succ]; rfl
      case hQd3c => exact fun _ _ _ h => h
      case hyd3c => refine Or.inl ⟨by rfl, ?_⟩; intro W hSw; (try dsimp only at hSw); go_simp; try with_reducible rfl
      simp only [Act.put, List.setIfInBounds_toArray, List.set_cons_zero, List.set_cons_succ]
      refine wpAnyH_take (i := 4) (oi := ?od4c) (v := ?vd4c) ?hid4c (by kernel_rfl) (by kernel_rfl) (by kernel_rfl) ?hQd4c ?hyd4c hH0 ?_
      case hid4c => simp only [List.getElem?_toArray, List.getElem?_cons_zero, List.getElem?_cons_succ]; rfl
      case hQd4c => exact fun _ _ _ h => h
      case hyd4c => refine Or.inl ⟨by rfl, ?_⟩; intro W hSw; (try dsimp only at hSw); go_simp; try with_reducible rfl
      simp only [Act.put, List.setIfInBounds_toArray, List.set_cons_zero, List.set_cons_succ]
      refine wpAnyH_take (i := 5) (oi := ?od5c) (v := ?vd5c) ?hid5c (by kernel_rfl) (by kernel_rfl) (by kernel_rfl) ?hQd5c ?hyd5c hH0 ?_
      case hid5c => simp only [List.getElem?_toArray, List.getElem?_cons_zero, List.getElem?_cons_succ]; rfl
      case hQd5c => exact fun _ _ _ h => h
      case hyd5c => refine Or.inl ⟨by rfl, ?_⟩; intro W hSw; (try dsimp only at hSw); go_simp; try with_reducible rfl
      simp only [Act.put, List.setIfInBounds_toArray, List.set_cons_zero, List.set_cons_succ]
      refine wpAnyH_ready (rs := [6]) (by kernel_rfl) (by simp) ?_
      refine AllReadyH.cons (o := ?od6c) ?hod6c (fun K' hK => ?_) AllReadyH.nil
      case hod6c => simp only [List.getElem?_toArray, List.getElem?_cons_zero, List.getElem?_cons_succ]; rfl
      refine step_append_zeroT _ (by rfl) _ _ _ (by rfl) 61 i0 Try.underlying24 hi0 _ _ i cap _ (by rfl) (by rfl) (by omega) ?_
      refine hK.out _ _ trivial (fun hH1 => ?_)
      clear hK K'
      (try simp only [Act.put, List.setIfInBounds_toArray, List.set_cons_zero, List.set_cons_succ])
      refine wpAnyH_take (i := 7) (oi := ?od7c) (v := ?vd7c) ?hid7c (by kernel_rfl) (by kernel_rfl) (by kernel_rfl) ?hQd7c ?hyd7c hH1 ?_
      case hid7c => simp only [List.getElem?_toArray, List.getElem?_cons_zero, List.getElem?_cons_succ]; rfl
      case hQd7c => exact fun _ _ _ h => h
      case hyd7c => refine Or.inl ⟨by rfl, ?_⟩; intro W hSw; (try dsimp only at hSw); go_simp; try with_reducible rfl
      simp only [Act.put, List.setIfInBounds_toArray, List.set_cons_zero]
      refine wpAnyH_done (by kernel_rfl) ?_ _
      have HG1 := Lib.hid (show w.drew.heap[g]? = some (.cells cur 61) from HG.out)
      have HS1 := HSZ
      have HB1 := Lib.hid ((Below.refl base w).drew)
      have hlast := HLAST.out
      have HT1 := Lib.hid (show cur.toList.take (i * 2) = tcells (l.eraseIdx i) by
        have h5 := congrArg (List.take (i * 2)) HTK.out
        rw [List.take_take, Nat.min_eq_left (by omega)] at h5
        rw [h5, ← tcells_take, List.eraseIdx_eq_take_drop_succ, List.drop_of_length_le (by omega), List.append_nil])
      generalize w.drew = w1 at *
      have hm1 : i + 1 = l.length := by omega
      have e2 : l.length - i = 1 := by omega
      have e3 : ¬ cap = i := by omega
      have k1 : (i : Int) ≤ (l.length : Int) := by omega
      have k2 : (0 : Int) ≤ (i : Int) := by omega
      have k3 : (i : Int) ≤ (cap : Int) := by omega
      have hz' : i * 2 + 2 ≤ cur.size := by rw [HS1.out]; omega
      have hcl := fun ty => run_clearT w1 ty g (i * 2) (cap - i) cur HG1.out hz'
      have hgc := setRow_heap w1 g cur (cur.toList.take (i * 2) ++ [Value.string ⟨#[]⟩, Value.int .i64 0] ++ cur.toList.drop (i * 2 + 2)).toArray _ _ HG1.out
      have hbc : Below base w (w1.setRow g (cur.toList.take (i * 2) ++ [Value.string ⟨#[]⟩, Value.int .i64 0] ++ cur.toList.drop (i * 2 + 2)).toArray) := HB1.out.trans (below_row hbg _)
      have hle : (l.eraseIdx i).length = i := by rw [List.length_eraseIdx_of_lt hi]; omega
      have hown : OwnT (w1.setRow g (cur.toList.take (i * 2) ++ [Value.string ⟨#[]⟩, Value.int .i64 0] ++ cur.toList.drop (i * 2 + 2)).toArray) base (.slice (some ⟨g, 0, none⟩) i cap) (l.eraseIdx i) := by
        have h5 := OwnT.mk' (l := l.eraseIdx i) hbg hgc (by omega) hcm (by
          have := HS1.out
          rw [← Array.length_toList] at this
          simp only [List.size_toArray, List.length_append, List.length_take, List.length_drop, List.length_cons, List.length_nil]
          omega) (by
          have h6 : i * 2 ≤ cur.toList.length := by rw [Array.length_toList]; omega
          rw [hle]
          simp only [List.append_assoc]
          rw [List.take_append_of_le_length (by rw [List.length_take]; omega), List.take_take, Nat.min_self]
          exact HT1.out)
        rw [hle] at h5
        exact h5
      have HOWN := Lib.hid hown
      have HBC := Lib.hid hbc
      clear hgc hbc hown hle hm1 hz'
      clear hlast
      generalize w1.setRow g (cur.toList.take (i * 2) ++ [Value.string ⟨#[]⟩, Value.int .i64 0] ++ cur.toList.drop (i * 2 + 2)).toArray = w2 at *
      go_wp2_with fail
      go_ret
      exact ⟨_, rfl, HOWN.out, HBC.out⟩
  · have hcne : ¬ cap = i + 1 := by omega
    refine region_begin (S := fun _ => True) 8 rfl (by kernel_rfl) trivial (fun hH0 => ?_)
    refine wpAnyH_take (i := 0) (oi := ?od0b) (v := ?vd0b) ?hid0b (by kernel_rfl) (by kernel_rfl) (by kernel_rfl) ?hQd0b ?hyd0b hH0 ?_
    case hid0b => simp only [List.getElem?_toArray, List.getElem?_cons_zero]; rfl
    case hQd0b => exact fun _ _ _ h => h
    case hyd0b => refine Or.inl ⟨by rfl, ?_⟩; intro W hSw; (try dsimp only at hSw); go_simp; try with_reducible rfl
    simp only [Act.put, List.setIfInBounds_toArray, List.set_cons_zero, List.set_cons_succ]
    refine wpAnyH_take (i := 1) (oi := ?od1b) (v := ?vd1b) ?hid1b (by kernel_rfl) (by kernel_rfl) (by kernel_rfl) ?hQd1b ?hyd1b hH0 ?_
    case hid1b => simp only [List.getElem?_toArray, List.getElem?_cons_zero, List.getElem?_cons_succ]; rfl
    case hQd1b => exact fun _ _ _ h => h
    case hyd1b => refine Or.inl ⟨by rfl, ?_⟩; intro W hSw; (try dsimp only at hSw); go_simp; try with_reducible rfl
    simp only [Act.put, List.setIfInBounds_toArray, List.set_cons_zero, List.set_cons_succ]
    refine wpAnyH_take (i := 2) (oi := ?od2b) (v := ?vd2b) ?hid2b (by kernel_rfl) (by kernel_rfl) (by kernel_rfl) ?hQd2b ?hyd2b hH0 ?_
    case hid2b => simp only [List.getElem?_toArray, List.getElem?_cons_zero, List.getElem?_cons_succ]; rfl
    case hQd2b => exact fun _ _ _ h => h
    case hyd2b => refine Or.inl ⟨by rfl, ?_⟩; intro W hSw; (try dsimp only at hSw); go_simp; try with_reducible rfl
    simp only [Act.put, List.setIfInBounds_toArray, List.set_cons_zero, List.set_cons_succ]
    refine wpAnyH_take (i := 3) (oi := ?od3b) (v := ?vd3b) ?hid3b (by kernel_rfl) (by kernel_rfl) (by kernel_rfl) ?hQd3b ?hyd3b hH0 ?_
    case hid3b => simp only [List.getElem?_toArray, List.getElem?_cons_zero, List.getElem?_cons_succ]; rfl
    case hQd3b => exact fun _ _ _ h => h
    case hyd3b => refine Or.inl ⟨by rfl, ?_⟩; intro W hSw; (try dsimp only at hSw); go_simp; try with_reducible rfl
    simp only [Act.put, List.setIfInBounds_toArray, List.set_cons_zero, List.set_cons_succ]
    refine wpAnyH_take (i := 4) (oi := ?od4b) (v := ?vd4b) ?hid4b (by kernel_rfl) (by kernel_rfl) (by kernel_rfl) ?hQd4b ?hyd4b hH0 ?_
    case hid4b => simp only [List.getElem?_toArray, List.getElem?_cons_zero, List.getElem?_cons_succ]; rfl
    case hQd4b => exact fun _ _ _ h => h
    case hyd4b => refine Or.inl ⟨by rfl, ?_⟩; intro W hSw; (try dsimp only at hSw); go_simp; try with_reducible rfl
    simp only [Act.put, List.setIfInBounds_toArray, List.set_cons_zero, List.set_cons_succ]
    refine wpAnyH_take (i := 5) (oi := ?od5b) (v := ?vd5b) ?hid5b (by kernel_rfl) (by kernel_rfl) (by kernel_rfl) ?hQd5b ?hyd5b hH0 ?_
    case hid5b => simp only [List.getElem?_toArray, List.getElem?_cons_zero, List.getElem?_cons_succ]; rfl
    case hQd5b => exact fun _ _ _ h => h
    case hyd5b => refine Or.inl ⟨by rfl, ?_⟩; intro W hSw; (try dsimp only at hSw); go_simp; try with_reducible rfl
    simp only [Act.put, List.setIfInBounds_toArray, List.set_cons_zero, List.set_cons_succ]
    refine wpAnyH_ready (rs := [6]) (by kernel_rfl) (by simp) ?_
    refine AllReadyH.cons (o := ?od6b) ?hod6b (fun K' hK => ?_) AllReadyH.nil
    case hod6b => simp only [List.getElem?_toArray, List.getElem?_cons_zero, List.getElem?_cons_succ]; rfl
    refine step_append_rowT _ (by rfl) _ _ _ (by rfl) 61 i0 Try.underlying24 hi0 hz1 g i cap cur HG.out (by rfl) ⟨g, (i + 1) * 2, none⟩ (l.length - (i + 1)) _ (by rfl) ((tcells l).drop ((i + 1) * 2)) (by rw [List.length_drop, tcells_len]; omega) (fun j u hu => ?_) (fun u hu => tcells_plain (List.mem_of_mem_drop hu)) (by omega) (by rw [List.length_drop, tcells_len, HSZ.out]; omega) ?_
    · rw [add_spot2, Lib.cell_of_heap (show w.drew.heap[g]? = some (.cells cur 61) from HG.out), ← Array.getElem?_toList]
      rw [← HTK.out, List.getElem?_drop] at hu
      have hj : (i + 1) * 2 + j < l.length * 2 := by
        have := (List.getElem?_eq_some_iff.1 hu).1
        rw [List.length_take] at this
        omega
      rwa [List.getElem?_take_of_lt hj] at hu
    refine hK.out _ _ trivial (fun hH1 => ?_)
    clear hK K'
    (try simp only [Act.put, List.setIfInBounds_toArray, List.set_cons_zero, List.set_cons_succ])
    refine wpAnyH_take (i := 7) (oi := ?od7b) (v := ?vd7b) ?hid7b (by kernel_rfl) (by kernel_rfl) (by kernel_rfl) ?hQd7b ?hyd7b hH1 ?_
    case hid7b => simp only [List.getElem?_toArray, List.getElem?_cons_zero, List.getElem?_cons_succ]; rfl
    case hQd7b => exact fun _ _ _ h => h
    case hyd7b => refine Or.inl ⟨by rfl, ?_⟩; intro W hSw; (try dsimp only at hSw); go_simp; try with_reducible rfl
    simp only [Act.put, List.setIfInBounds_toArray, List.set_cons_zero]
    refine wpAnyH_done (by kernel_rfl) ?_ _
    have em : i + (l.length - (i + 1)) = l.length - 1 := by omega
    obtain ⟨M, hM⟩ : ∃ M, l.length - 1 = M := ⟨_, rfl⟩
    rw [hM] at em
    have hM1 : M + 1 = l.length := by omega
    have hnl : ((tcells l).drop ((i + 1) * 2)).length = (l.length - (i + 1)) * 2 := by rw [List.length_drop, tcells_len]; omega
    have hci : (cur.toList.take (i * 2)).length = i * 2 := by rw [List.length_take, Array.length_toList, HSZ.out]; omega
    obtain ⟨cur1, hc1⟩ : ∃ c, (cur.toList.take (i * 2) ++ (tcells l).drop ((i + 1) * 2) ++ cur.toList.drop (i * 2 + ((tcells l).drop ((i + 1) * 2)).length)).toArray = c := ⟨_, rfl⟩
    rw [hc1, em]
    have HG1 := Lib.hid (setRow_heap w.drew g cur cur1 _ _ HG.out)
    have HS1 := Lib.hid (show cur1.size = cap * 2 by
      have hcl2 : cur.toList.length = cap * 2 := by rw [Array.length_toList, HSZ.out]
      rw [← hc1, List.size_toArray, List.length_append, List.length_append, hci, hnl, List.length_drop]
      omega)
    have HB1 := Lib.hid (((Below.refl base w).drew).trans (below_row (w := w.drew) hbg cur1))
    have HT1 := Lib.hid (show cur1.toList.take (M * 2) = tcells (l.eraseIdx i) by
      have h5 := congrArg (List.take (i * 2)) HTK.out
      rw [List.take_take, Nat.min_eq_left (by omega)] at h5
      rw [← hc1]
      show List.take (M * 2) (_ ++ _ ++ _) = _
      rw [List.take_append_of_le_length (by rw [List.length_append, hci, hnl]; omega), List.take_of_length_le (by rw [List.length_append, hci, hnl]; omega), h5, ← tcells_take, ← tcells_drop, ← tcells_append, List.eraseIdx_eq_take_drop_succ])
    have HM1 := Lib.hid hM1
    have HC1 := Lib.hid hc1
    have HEM := em
    clear hnl hci hM hM1 hc1
    generalize w.drew.setRow g cur1 = w1 at *
    have hM1 := HM1.out
    have hm1 : M + 1 = l.length := by omega
    have e2 : l.length - M = 1 := by omega
    have e3 : ¬ cap = M := by omega
    have k1 : (M : Int) ≤ (l.length : Int) := by omega
    have k2 : (0 : Int) ≤ (M : Int) := by omega
    have k3 : (M : Int) ≤ (cap : Int) := by omega
    have hz' : M * 2 + 2 ≤ cur1.size := by rw [HS1.out]; omega
    have hcl := fun ty => run_clearT w1 ty g (M * 2) (cap - M) cur1 HG1.out hz'
    have hgc := setRow_heap w1 g cur1 (cur1.toList.take (M * 2) ++ [Value.string ⟨#[]⟩, Value.int .i64 0] ++ cur1.toList.drop (M * 2 + 2)).toArray _ _ HG1.out
    have hbc : Below base w (w1.setRow g (cur1.toList.take (M * 2) ++ [Value.string ⟨#[]⟩, Value.int .i64 0] ++ cur1.toList.drop (M * 2 + 2)).toArray) := HB1.out.trans (below_row hbg _)
    have hle : (l.eraseIdx i).length = M := by rw [List.length_eraseIdx_of_lt hi]; omega
    have hown : OwnT (w1.setRow g (cur1.toList.take (M * 2) ++ [Value.string ⟨#[]⟩, Value.int .i64 0] ++ cur1.toList.drop (M * 2 + 2)).toArray) base (.slice (some ⟨g, 0, none⟩) M cap) (l.eraseIdx i) := by
      have h5 := OwnT.mk' (l := l.eraseIdx i) hbg hgc (by omega) hcm (by
        have := HS1.out
        rw [← Array.length_toList] at this
        simp only [List.size_toArray, List.length_append, List.length_take, List.length_drop, List.length_cons, List.length_nil]
        omega) (by
        have h6 : M * 2 ≤ cur1.toList.length := by rw [Array.length_toList]; omega
        rw [hle]
        simp only [List.append_assoc]
        rw [List.take_append_of_le_length (by rw [List.length_take]; omega), List.take_take, Nat.min_self]
        exact HT1.out)
      rw [hle] at h5
      exact h5
    have HOWN := Lib.hid hown
    have HBC := Lib.hid hbc
    clear hgc hbc hown hle hm1 hz'
    clear hM1
    generalize w1.setRow g (cur1.toList.take (M * 2) ++ [Value.string ⟨#[]⟩, Value.int .i64 0] ++ cur1.toList.drop (M * 2 + 2)).toArray = w2 at *
    go_wp2_with fail
    go_ret
    exact ⟨_, rfl, HOWN.out, HBC.out⟩
end Go.Proofs.Ytpadbkplknnopaa
