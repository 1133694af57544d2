/-
  What the arguments are, opened: acts, numbers.
-/
import Derived.Test.YtpadbkplknnopaaTmShown
import Derived.Deep.SlicePairs
import Derived.Lib.SmallJoins
import Derived.OpenShut
import Derived.ChangeMaps
namespace Go.Proofs.Ytpadbkplknnopaa
open Go.RowKit Go.ChangeShapes Go.WideShapes Go.ChangeAt

theorem cOf_string : Try.prog.cellsOf 9 = 1 := by kernel_rfl
theorem cOf_int : Try.prog.cellsOf 3 = 1 := by kernel_rfl
theorem cOf_act : Try.prog.cellsOf 40 = 3 := by kernel_rfl

theorem spotE {a : Addr} (h : a.spot = none) (i : Nat) : a.add i = ⟨a.block, a.off + i, none⟩ := by
  cases a
  simp only at h
  subst h
  unfold Addr.add
  split <;> simp_all

/-- An act, by its cells. -/
theorem open_acells {H : Type} {enc : TypeId × Value → H} {w : World} {n : Nat} {cs : List Value} {x : DataW H × List MemPlace}
    (h : DataW.trod enc Try.prog w 0 (fun _ => true) true n 40 cs = some x) : ∃ b : AC, cs = [.int .i64 b.op, .int .i64 b.at_, .string b.name] := by
  obtain ⟨xs, k, _, _, hl, hxl, hf⟩ := DataW.trod_struct Try.underlying40 h
  rw [cOf_act] at hl
  match cs, hl, xs, hxl with
  | [v0, v1, v2], _, [y0, y1, y2], _ =>
    have g0 := hf 0 _ rfl
    have g1 := hf 1 _ rfl
    have g2 := hf 2 _ rfl
    simp [cOf_string, cOf_int] at g0 g1 g2
    obtain ⟨s0, e0, _⟩ := DataW.trod_int Try.underlying3 g0
    obtain ⟨s1, e1, _⟩ := DataW.trod_int Try.underlying3 g1
    obtain ⟨s2, e2, _⟩ := DataW.trod_string Try.underlying9 g2
    simp only [List.cons.injEq, and_true] at e0 e1 e2
    subst e0 e1 e2
    exact ⟨⟨s0, s1, s2⟩, rfl⟩

theorem open_acts {H : Type} {enc : TypeId × Value → H} {w : World} {base : Nat} {v : Value} {d : DataW H} {p : List MemPlace}
    (hv : Value.okWide Try.prog w .any base 37 v) (h : DataW.Trod enc Try.prog w 0 (fun _ => true) true 37 v d p) : ∃ l, IsActs w.heap.size w v l := by
  obtain ⟨a0, len0, cap0, rfl⟩ := okWide_slice Try.underlying37 hv
  obtain ⟨fuel, hf⟩ := h
  have hf' : DataW.trod enc Try.prog w 0 (fun _ => true) true fuel 37 [.slice a0 len0 cap0] = some (d, p) := by simpa [Value.cells] using hf
  rcases Go.Deep.open_slice Try.underlying37 hf' with ⟨hcs, _⟩ | ⟨a, len, cap, m, n, D, Pl, hcs, _, hl, hm, hmm, _, hx⟩
  · injection hcs with e1
    injection e1 with e1 e2 e3
    subst e1 e2 e3
    exact ⟨[], none, 0, rfl, Nat.le_refl _, by unfold maxLen; omega, fun h => absurd h (by simp)⟩
  · injection hcs with e1
    injection e1 with e1 e2 e3
    subst e1 e2 e3
    have hmc : m = cap0 := by rw [hmm]; rfl
    subst hmc
    have each : ∀ i, i < m → ∃ q : AC, w.cell? (a.add (i * 3)) = some (.int .i64 q.op) ∧ w.cell? (a.add (i * 3 + 1)) = some (.int .i64 q.at_) ∧ w.cell? (a.add (i * 3 + 2)) = some (.string q.name) := fun i hi => by
      obtain ⟨cs', h1, h2⟩ := hx i hi
      obtain ⟨b, hcs'⟩ := open_acells h2
      rw [cOf_act] at h1
      obtain ⟨_, hlen, hcell⟩ := World.cells?_some h1
      subst hcs'
      have e0 := hcell 0 (by omega)
      have e1 := hcell 1 (by omega)
      have e2 := hcell 2 (by omega)
      rw [Go.Deep.add_add] at e0 e1 e2
      exact ⟨b, by simpa using e0, by simpa using e1, by simpa using e2⟩
    have hBi : Inhabited AC := ⟨⟨0, 0, ⟨#[]⟩⟩⟩
    obtain ⟨E, hE⟩ := Go.Deep.choose_lt each
    have hlen : ((List.range len0).map E).length = len0 := by simp
    refine ⟨(List.range len0).map E, some a, m, by rw [hlen], by rw [hlen]; exact hl, hm, fun hp => ?_⟩
    rw [hlen] at hp
    have hsp : a.spot = none := by
      have := World.cell?_spot (hE 0 (by omega)).1
      simpa [Addr.add] using this
    refine ⟨a.block, a.off, congrArg some (by cases a; simp only at hsp; subst hsp; rfl), ?_, fun i hi => ?_⟩
    · have := World.block_lt_of_cell? w _ (hE 0 (by omega)).1
      rw [spotE hsp] at this
      exact this
    · rw [hlen] at hi
      obtain ⟨h0, h1, h2⟩ := hE i (by omega)
      rw [spotE hsp] at h0 h1 h2
      simp only [List.getElem_map, List.getElem_range]
      exact ⟨h0, by rw [Nat.add_assoc]; exact h1, by rw [Nat.add_assoc]; exact h2⟩

/-- A slice of numbers. -/
def IsNums (B : Nat) (w : World) (v : Value) (l : List Int) : Prop :=
  ∃ (a : Option Addr) (cap : Nat), v = .slice a l.length cap ∧ l.length ≤ cap ∧ cap ≤ maxLen ∧ (0 < l.length → ∃ b off, a = some ⟨b, off, none⟩ ∧ b < B ∧ ∀ i, (h : i < l.length) → w.cell? ⟨b, off + i, none⟩ = some (.int .i64 l[i]))
theorem IsNums.keep {B B' : Nat} {w w' : World} {v : Value} {l : List Int} (h : IsNums B w v l) (hb : Below B' w w') (hB : B ≤ B') : IsNums B w' v l := by
  obtain ⟨a, cap, rfl, h1, h2, h5⟩ := h
  refine ⟨a, cap, rfl, h1, h2, fun hp => ?_⟩
  obtain ⟨b, off, rfl, hlt, hc⟩ := h5 hp
  exact ⟨b, off, rfl, hlt, fun i hi => by rw [hb.cell (p := ⟨b, off + i, none⟩) (Nat.lt_of_lt_of_le hlt hB)]; exact hc i hi⟩
theorem IsNums.form {B : Nat} {w : World} {v : Value} {l : List Int} (h : IsNums B w v l) : ∃ a cap, v = .slice a l.length cap := by
  obtain ⟨a, cap, rfl, _⟩ := h
  exact ⟨a, cap, rfl⟩
theorem IsNums.get {B : Nat} {w : World} {v : Value} {l : List Int} (h : IsNums B w v l) (i : Nat) (hi : i < l.length) : ∃ b off cap, v = .slice (some ⟨b, off, none⟩) l.length cap ∧ b < B ∧ w.cell? ⟨b, off + i, none⟩ = some (.int .i64 l[i]) := by
  obtain ⟨a, cap, rfl, h1, h2, h5⟩ := h
  obtain ⟨b, off, rfl, hlt, hc⟩ := h5 (by omega)
  exact ⟨b, off, cap, rfl, hlt, hc i hi⟩
theorem open_nums {H : Type} {enc : TypeId × Value → H} {w : World} {base : Nat} {v : Value} {d : DataW H} {p : List MemPlace}
    (hv : Value.okWide Try.prog w .any base 22 v) (h : DataW.Trod enc Try.prog w 0 (fun _ => true) true 22 v d p) : ∃ l, IsNums w.heap.size w v l := by
  obtain ⟨a0, len0, cap0, rfl⟩ := okWide_slice Try.underlying22 hv
  obtain ⟨fuel, hf⟩ := h
  have hf' : DataW.trod enc Try.prog w 0 (fun _ => true) true fuel 22 [.slice a0 len0 cap0] = some (d, p) := by simpa [Value.cells] using hf
  rcases Go.Deep.open_slice Try.underlying22 hf' with ⟨hcs, _⟩ | ⟨a, len, cap, m, n, D, Pl, hcs, _, hl, hm, hmm, _, hx⟩
  · injection hcs with e1
    injection e1 with e1 e2 e3
    subst e1 e2 e3
    exact ⟨[], none, 0, rfl, Nat.le_refl _, by unfold maxLen; omega, fun h => absurd h (by simp)⟩
  · injection hcs with e1
    injection e1 with e1 e2 e3
    subst e1 e2 e3
    have hmc : m = cap0 := by rw [hmm]; rfl
    subst hmc
    have each : ∀ i, i < m → ∃ q : Int, w.cell? (a.add i) = some (.int .i64 q) := fun i hi => by
      obtain ⟨cs', h1, h2⟩ := hx i hi
      obtain ⟨q, hq, _⟩ := DataW.trod_int Try.underlying3 h2
      subst hq
      rw [cOf_int] at h1
      obtain ⟨_, hlen, hcell⟩ := World.cells?_some h1
      have e0 := hcell 0 (by omega)
      rw [Go.Deep.add_add] at e0
      exact ⟨q, by simpa using e0⟩
    obtain ⟨E, hE⟩ := Go.Deep.choose_lt each
    have hlen : ((List.range len0).map E).length = len0 := by simp
    refine ⟨(List.range len0).map E, some a, m, by rw [hlen], by rw [hlen]; exact hl, hm, fun hp => ?_⟩
    rw [hlen] at hp
    have hsp : a.spot = none := by
      have := World.cell?_spot (hE 0 (by omega))
      simpa [Addr.add] using this
    refine ⟨a.block, a.off, congrArg some (by cases a; simp only at hsp; subst hsp; rfl), ?_, fun i hi => ?_⟩
    · have := World.block_lt_of_cell? w _ (hE 0 (by omega))
      rw [spotE hsp] at this
      exact this
    · rw [hlen] at hi
      have h0 := hE i (by omega)
      rw [spotE hsp] at h0
      simp only [List.getElem_map, List.getElem_range]
      exact h0

/-! ### a row of texts, behind another one -/
theorem run_append_strs {b B : Nat} {v u : Value} {xs ys : List ByteArray} {w : World} (ty : TypeId) (h : OwnS w b v xs) (hu : IsStrs B w u ys) (hb : b ≤ w.heap.size) (hl : xs.length + ys.length ≤ 1000) :
    ∃ a cap w', (Builtin.append_ #[41, 41] ty #[v, u]).run Try.prog w = .ok (.slice a (xs ++ ys).length cap) w' ∧ OwnS w' b (.slice a (xs ++ ys).length cap) (xs ++ ys) ∧ w.grownBy w' v.ownBlock := by
  obtain ⟨i0, hi0, hz0, hz1, hz2⟩ := info_parts Try.sinfo
  obtain ⟨ad, c, rfl, h5⟩ := hu
  cases ys with
  | nil =>
    obtain ⟨a, cap, hv⟩ := h.form
    have hle : xs.length ≤ cap := by
      rcases h.2 with ⟨he, h0⟩ | ⟨g, c2, cur, he, _, _, hn, _⟩
      · omega
      · rw [hv] at he
        injection he with e1 e2 e3
        omega
    subst hv
    have hr := run_append_zeroT (P := Try.prog) w 41 ty 9 i0 Try.underlying41 hi0 a ad xs.length cap c hle
    rw [List.append_nil]
    exact ⟨a, cap, w, hr, h, ⟨rfl, rfl, rfl, Nat.le_refl _, fun _ _ _ => rfl⟩⟩
  | cons y ys =>
    obtain ⟨bb, off, rfl, hlt, hc⟩ := h5 (by simp)
    obtain ⟨v', w', hr, h2, h3, _, _⟩ := run_append_own_at (P := Try.prog) w b 41 ty 9 i0 _ 1 16 Try.underlying41 hi0 hz0 hz1 hz2 rfl (by omega) v xs.length (scells xs) h ⟨bb, off, none⟩ (y :: ys).length c (scells (y :: ys)) (by rw [scells_len, Nat.mul_one])
      (fun j u hj => by
        rw [add_spot2]
        rw [scells, List.getElem?_map] at hj
        have hjl : j < (y :: ys).length := by
          rcases Nat.lt_or_ge j (y :: ys).length with h | h
          · exact h
          · rw [List.getElem?_eq_none h] at hj
            cases hj
        rw [List.getElem?_eq_getElem hjl] at hj
        rw [hc j hjl, ← hj]
        rfl) (fun u hu => by
        rw [scells, List.mem_map] at hu
        obtain ⟨s, _, rfl⟩ := hu
        rfl) (by unfold maxLen; omega) (by omega) hb
    rw [← scells_append, ← List.length_append] at h2
    obtain ⟨a, cap, rfl⟩ := OwnS.form h2
    exact ⟨a, cap, w', hr, h2, h3⟩
theorem step_append_strs {b B : Nat} {v u : Value} {xs ys : List ByteArray} {w : World} {ops : Array Oper} {o : Oper} {a : Act} {K : Act → World → Prop} {Q : Exit → Act → World → Prop} {E : Prop} (hgd : o.guard = none) (s x : Operand)
    (ho : o.op = .call { callee := .builtin .append, args := #[s, x], argTypes := #[41, 41] }) (hs : a.eval s = v) (hx : a.eval x = u) (h : OwnS w b v xs) (hu : IsStrs B w u ys) (hb : b ≤ w.heap.size) (hl : xs.length + ys.length ≤ 1000)
    (hK : ∀ a2 cap w', OwnS w' b (.slice a2 (xs ++ ys).length cap) (xs ++ ys) → w.grownBy w' v.ownBlock → K (a.put o.dst (.slice a2 (xs ++ ys).length cap)) w') :
    if Region.wanted o (yielded ops a.tmps) = true then Oper.wp Try.prog o a w K Q else E := by
  have hw : Region.wanted o (yielded ops a.tmps) = true := by simp [Region.wanted, hgd]
  rw [if_pos hw]
  obtain ⟨a2, cap, w', hr, h2, h3⟩ := run_append_strs o.type h hu hb hl
  unfold Oper.wp execOp
  simp only [ho, resolve, invoke, builtin, Sem.run_bind, Sem.run_pure, Result.andThen_ok, List.map_toArray, List.map_cons, List.map_nil, hs, hx, hr]
  exact hK a2 cap w' h2 h3
end Go.Proofs.Ytpadbkplknnopaa
