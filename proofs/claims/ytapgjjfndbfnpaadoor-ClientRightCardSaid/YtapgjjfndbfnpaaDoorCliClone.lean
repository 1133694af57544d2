/-
  The walks of slices.Clone at events and at ops.
-/
import Derived.Test.YtapgjjfndbfnpaaDoorCliAsk
import Derived.Test.YtapgjjfndbfnpaaDoorEvApp
import Derived.Lib.SliceRun
import Derived.Deep.Upon
namespace Go.Proofs.YtapgjjfndbfnpaaDoor
open Go.RowKit
set_option linter.unusedVariables false

theorem run_append_emptyN {P : Program} (w : World) (sz : Nat) (h0 : 0 < sz) (t ty e : TypeId) (i : TypeInfo) (z : Value) (bytes : Nat) (ht : P.underlying t = some (.slice e)) (hi : P.info? e = some i) (hz : i.zero = some z)
    (hsize : i.size = sz) (hby : i.bytes = bytes) (hzs : z.cells.size = sz) (ad0 ad : Addr) (n c : Nat) (news : List Value) (hl : news.length = n * sz) (hnews : ∀ j v, news[j]? = some v → w.cell? (ad.add j) = some v) (hn : 0 < n)
    (h63 : n ≤ maxLen) (hbytes : n * bytes ≤ 140737488355328) :
    ∃ cap w', (Builtin.append_ #[t, t] ty #[.slice (some ad0) 0 0, .slice (some ad) n c]).run P w = .ok (.slice (some ⟨w.heap.size, 0, none⟩) n cap) w' ∧
      w'.ownsRow w.heap.size e sz (.slice (some ⟨w.heap.size, 0, none⟩) n cap) n news ∧ Below w.heap.size w w' := by
  have hr := run_append_grow (P := P) w t ty e i z ht hi hz ad0 0 0 [] (by simp) (by simp) ad n c news (by rw [hl, hsize]) hnews (by omega) (by simp only [maxLen] at h63; omega) (by rw [hby]; exact growslice_fits (by omega) (by rw [Nat.zero_add]; exact hbytes))
  simp only [Nat.zero_add] at hr
  have hge := grownCap_ge w n 0 e
  have hcm : grownCap w n 0 e ≤ maxLen := grownCap_le_maxLen w n 0 e h63
  refine ⟨_, _, hr, ⟨hl, .inr ⟨w.heap.size, _, _, rfl, Nat.le_refl _, heap_alloc_new w.drew _, hge, hcm, ?_, ?_⟩⟩, ((Below.refl _ _).drew).alloc (Nat.le_refl _) _⟩
  · simp only [Array.size_append, List.size_toArray, size_zeroCells, hzs, hl, List.length_nil]
    have hq : n * sz ≤ grownCap w n 0 e * sz := Nat.mul_le_mul_right _ hge
    rw [Nat.sub_mul]
    omega
  · simp only [Array.toList_append, List.nil_append]
    rw [← hl]
    exact List.take_left

theorem wpList_append_emptyN {P : Program} (w : World) (sz : Nat) (h0 : 0 < sz) {ops : Array Oper} {rest : List Oper} {o : Oper} {a : Act} {Q : Exit → Act → World → Prop} (hgd : o.guard = none) (s x : Operand) (t : TypeId)
    (ho : o.op = .call { callee := .builtin .append, args := #[s, x], argTypes := #[t, t] })
    (e : TypeId) (i : TypeInfo) (z : Value) (bytes : Nat) (ht : P.underlying t = some (.slice e)) (hi : P.info? e = some i) (hz : i.zero = some z)
    (hsize : i.size = sz) (hby : i.bytes = bytes) (hzs : z.cells.size = sz) (ad0 : Addr) (hs : a.eval s = .slice (some ad0) 0 0)
    (ad : Addr) (n c : Nat) (hx : a.eval x = .slice (some ad) n c) (news : List Value) (hl : news.length = n * sz) (hnews : ∀ j v, news[j]? = some v → w.cell? (ad.add j) = some v) (hn : 0 < n) (h63 : n ≤ maxLen) (hbytes : n * bytes ≤ 140737488355328)
    (h : ∀ cap w', w'.ownsRow w.heap.size e sz (.slice (some ⟨w.heap.size, 0, none⟩) n cap) n news → Below w.heap.size w w' → wpList P ops Q rest (a.put o.dst (.slice (some ⟨w.heap.size, 0, none⟩) n cap)) w') : wpList P ops Q (o :: rest) a w :=
  wpList_plain hgd fun _ hK => by
    obtain ⟨cap', w', hr, h2, h3⟩ := run_append_emptyN (P := P) w sz h0 t o.type e i z bytes ht hi hz hsize hby hzs ad0 ad n c news hl hnews hn h63 hbytes
    unfold Oper.wp execOp
    simp only [ho, resolve, invoke, builtin, Sem.run_bind, Sem.run_pure, Result.andThen_ok, List.map_toArray, List.map_cons, List.map_nil, hs, hx, hr]
    exact hK _ _ (h cap' w' h2 h3)

theorem Tryd.opinfo : (Tryd.prog.info? 56).map (fun i => (i.zero, i.size, i.bytes)) = some (some (.agg #[.int .i64 0, .int .i64 0, .int .i64 0, .int .i64 0, .string ByteArray.empty, .int .i64 0, .int .i64 0, .int .i64 0, .slice none 0 0, .int .i64 0, .int .i64 0, .int .i64 0, .int .i64 0, .string ByteArray.empty, .int .i64 0, .int .i64 0, .slice none 0 0]), 17, 184) := by kernel_rfl

/-- A copy's block is new. -/
def FreshB (B : Nat) (v : Value) : Prop := ∀ k, v.ownBlock = some k → B ≤ k
theorem own_fresh {base : Nat} {e : TypeId} {size : Nat} {v : Value} {n : Nat} {xs : List Value} {w : World} (h : w.ownsRow base e size v n xs) : FreshB base v := by
  intro k hk
  rcases h.2 with ⟨rfl, _⟩ | ⟨g, cap, cur, rfl, hb, _⟩
  · exact absurd hk (by simp [Value.ownBlock])
  · have e2 : g = k := Option.some.inj hk
    omega

set_option maxHeartbeats 1600000 in
theorem cloneE_any (B : Nat) (v : Value) (l : List EV) (w : World) (h : IsEvents B w v l) (hl64 : l.length ≤ 1000) :
    Calls Tryd.prog 31 #[v] w fun r w' => ∃ v', r = .returned v' ∧ w'.ownsRow w.heap.size 88 2 v' l.length (ecells l) ∧ Below w.heap.size w w' := by
  obtain ⟨i0, hi0, hz0, hz1, hz2⟩ := info_parts Tryd.evinfo
  obtain ⟨a, cap, rfl⟩ := h.form
  cases a with
  | none =>
    have h0 : l = [] := by
      obtain ⟨a', cap', he, h1, h2, h3, _⟩ := h
      obtain ⟨rfl, -, rfl⟩ : none = a' ∧ l.length = l.length ∧ cap = cap' := by injection he with e1 e2 e3; exact ⟨e1, e2, e3⟩
      have := h3 rfl
      exact List.eq_nil_of_length_eq_zero (by omega)
    subst h0
    have hE : ∀ W : World, (binOp .eql 22 (.slice none 0 cap) (.slice none 0 0)).run Tryd.prog W = .ok (.bool true) W := fun W => Lib.run_eql_slice_nil (P := Tryd.prog) W 22 88 _ _ _ 0 0 Tryd.underlying22
    go_enter Tryd.func31, Tryd.ntmps31
    go_wp2_with fail
    go_ret
    exact ⟨_, rfl, World.ownsRow_nil _ _ _ _, Below.refl _ _⟩
  | some ad =>
    by_cases hn : 0 < l.length
    · obtain ⟨b, off, cap', he, hblk, hnews⟩ := h.news hn
      obtain ⟨rfl, rfl⟩ : ad = ⟨b, off, none⟩ ∧ cap = cap' := by injection he with e1 e2 e3; injection e1 with e1; exact ⟨e1, e3⟩
      clear he
      have hnews2 : ∀ j u, (ecells l)[j]? = some u → (w.alloc (.cells #[] 88)).cell? ((⟨b, off, none⟩ : Addr).add j) = some u := fun j u hu => by
        have h5 := hnews j u hu
        rw [add_spot2] at h5 ⊢
        exact ((((Below.refl w.heap.size w).alloc (Nat.le_refl _) (.cells #[] 88)).cell (p := ⟨b, off + j, none⟩) (World.block_lt_of_cell? _ _ h5))).trans h5
      have HN := Lib.hid hnews2
      clear h hnews hnews2
      have hE : ∀ W : World, (binOp .eql 22 (.slice (some ⟨b, off, none⟩) l.length cap) (.slice none 0 0)).run Tryd.prog W = .ok (.bool false) W := fun W => Lib.run_eql_slice_nil (P := Tryd.prog) W 22 88 _ _ _ 0 0 Tryd.underlying22
      go_enter Tryd.func31, Tryd.ntmps31
      go_wp2_with (at_builtin; refine wpList_append_emptyN _ 2 (by omega) rfl _ _ 22 rfl 88 i0 _ 32 Tryd.underlying22 hi0 hz0 hz1 hz2 rfl ⟨w.heap.size, 0, none⟩ rfl ⟨b, off, none⟩ l.length cap rfl (ecells l) (ecells_len l) HN.out hn (by unfold maxLen; omega) (by omega) ?_; intro cap2 w1 hown hb1; rw [World.size_alloc] at hown)
      go_ret
      exact ⟨_, rfl, own_less (Nat.le_succ _) hown, bstep ((Below.refl w.heap.size w).alloc (Nat.le_refl _) (.cells #[] 88)) hb1⟩
    · have h0 : l = [] := List.eq_nil_of_length_eq_zero (by omega)
      subst h0
      have hE : ∀ W : World, (binOp .eql 22 (.slice (some ad) 0 cap) (.slice none 0 0)).run Tryd.prog W = .ok (.bool false) W := fun W => Lib.run_eql_slice_nil (P := Tryd.prog) W 22 88 _ _ _ 0 0 Tryd.underlying22
      go_enter Tryd.func31, Tryd.ntmps31
      go_wp2_with fail
      go_ret
      exact ⟨_, rfl, ⟨rfl, .inr ⟨w.heap.size, 0, #[], rfl, Nat.le_refl _, heap_alloc_new _ _, Nat.le_refl _, Nat.zero_le _, rfl, rfl⟩⟩, (Below.refl _ _).alloc (Nat.le_refl _) _⟩

set_option maxHeartbeats 1600000 in
theorem cloneO_any (lo : Nat) (v : Value) (l : List OpR) (w : World) (h : w.ownsRow lo 56 17 v l.length (ocells l)) (hl64 : l.length ≤ 100000) :
    Calls Tryd.prog 34 #[v] w fun r w' => ∃ v', r = .returned v' ∧ w'.ownsRow w.heap.size 56 17 v' l.length (ocells l) ∧ Below w.heap.size w w' := by
  obtain ⟨i0, hi0, hz0, hz1, hz2⟩ := info_parts Tryd.opinfo
  rcases h.2 with ⟨rfl, h0⟩ | ⟨g, cap, cur, rfl, hb, hg, r1, r2, r3, r4⟩
  · have h0 : l = [] := List.eq_nil_of_length_eq_zero h0
    subst h0
    have hE : ∀ W : World, (binOp .eql 42 (.slice none 0 0) (.slice none 0 0)).run Tryd.prog W = .ok (.bool true) W := fun W => Lib.run_eql_slice_nil (P := Tryd.prog) W 42 56 _ _ _ 0 0 Tryd.underlying42
    clear h
    go_enter Tryd.func34, Tryd.ntmps34
    go_wp2_with fail
    go_ret
    exact ⟨_, rfl, World.ownsRow_nil _ _ _ _, Below.refl _ _⟩
  · have hE : ∀ (W : World) (n : Nat), (binOp .eql 42 (.slice (some ⟨g, 0, none⟩) n cap) (.slice none 0 0)).run Tryd.prog W = .ok (.bool false) W := fun W n => Lib.run_eql_slice_nil (P := Tryd.prog) W 42 56 _ _ _ 0 0 Tryd.underlying42
    by_cases hn : 0 < l.length
    · have hgl := (Array.getElem?_eq_some_iff.1 hg).1
      have hnews2 : ∀ j u, (ocells l)[j]? = some u → (w.alloc (.cells #[] 56)).cell? ((⟨g, 0, none⟩ : Addr).add j) = some u := fun j u hu => by
        have hj : j < l.length * 17 := by
          have := (List.getElem?_eq_some_iff.1 hu).1
          rwa [ocells_len] at this
        rw [add_spot2, Nat.zero_add, ((Below.refl w.heap.size w).alloc (Nat.le_refl _) (.cells #[] 56)).cell (p := ⟨g, j, none⟩) hgl, Lib.cell_of_heap hg, ← hu, ← r4, List.getElem?_take_of_lt hj, Array.getElem?_toList]
      have HN := Lib.hid hnews2
      clear h hnews2 hg r1 r2 r3 r4 hb
      go_enter Tryd.func34, Tryd.ntmps34
      go_wp2_with (at_builtin; refine wpList_append_emptyN _ 17 (by omega) rfl _ _ 42 rfl 56 i0 _ 184 Tryd.underlying42 hi0 hz0 hz1 hz2 rfl ⟨w.heap.size, 0, none⟩ rfl ⟨g, 0, none⟩ l.length cap rfl (ocells l) (ocells_len l) HN.out hn (by unfold maxLen; omega) (by omega) ?_; intro cap2 w1 hown hb1; rw [World.size_alloc] at hown)
      go_ret
      exact ⟨_, rfl, own_less (Nat.le_succ _) hown, bstep ((Below.refl w.heap.size w).alloc (Nat.le_refl _) (.cells #[] 56)) hb1⟩
    · have h0 : l = [] := List.eq_nil_of_length_eq_zero (by omega)
      subst h0
      clear h hg r1 r2 r3 r4 hb
      go_enter Tryd.func34, Tryd.ntmps34
      go_wp2_with fail
      go_ret
      exact ⟨_, rfl, ⟨rfl, .inr ⟨w.heap.size, 0, #[], rfl, Nat.le_refl _, heap_alloc_new _ _, Nat.le_refl _, Nat.zero_le _, rfl, rfl⟩⟩, (Below.refl _ _).alloc (Nat.le_refl _) _⟩

set_option maxHeartbeats 400000 in
theorem ops_any (X : Nat → Prop) (lo c : Nat) (R : ClR) (w : World) (h : ClM X lo w c R) (hm : R.rs.length ≤ 100000) :
    Calls Tryd.prog 12 #[.pointer (some ⟨c, 0, none⟩)] w fun e w' => ∃ v', e = .returned v' ∧ w'.ownsRow w.heap.size 56 17 v' R.rs.length (ocells R.rs) ∧ Below w.heap.size w w' := by
  have c2 := h.c2
  have CC := Lib.hid (cloneO_any lo R.ov R.rs w h.own hm)
  clear h
  go_enter Tryd.func12, Tryd.ntmps12
  go_wp2_with fail
  refine CC.out.mono ?_
  rintro e w1 ⟨v', rfl, ho, hb⟩
  go_wp2_with fail
  go_ret
  exact ⟨_, rfl, ho, hb⟩

set_option maxHeartbeats 400000 in
theorem cancel_any (X : Nat → Prop) (lo c : Nat) (R : ClR) (w : World) (h : ClM X lo w c R) :
    Calls Tryd.prog 17 #[.pointer (some ⟨c, 0, none⟩)] w fun e w' => e = .returned (.tuple #[]) ∧ ClM X lo w' c { R with s := { R.s with pending := false } } ∧ Step c R { R with s := { R.s with pending := false } } w w' := by
  have c3 := h.c3
  have f3 := h.fr 3
  have HM := Lib.hid (h.put 3 (.bool false) { R.s with pending := false } rfl rfl h.wh rfl)
  clear h
  go_enter Tryd.func17, Tryd.ntmps17
  go_wp2_with fail
  go_end0
  exact ⟨rfl, HM.out, ClM.putStep c R w 3 _ _⟩
end Go.Proofs.YtapgjjfndbfnpaaDoor
