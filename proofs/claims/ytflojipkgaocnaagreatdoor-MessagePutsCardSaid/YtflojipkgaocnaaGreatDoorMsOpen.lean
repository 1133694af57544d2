/-
  What the argument Draw is, opened.
-/
import Derived.Test.YtflojipkgaocnaaGreatDoorMsData
import Derived.Test.YtflojipkgaocnaaGreatDoorEvApp
import Derived.Deep.SlicePairs
import Derived.Lib.SmallJoins
import Derived.OpenShut
import Derived.ChangeMaps
import Derived.SizedLaws
namespace Go.Proofs.YtflojipkgaocnaaGreatDoor
open Go.RowKit Go.ChangeShapes Go.WideShapes Go.ChangeAt
set_option maxRecDepth 100000
set_option linter.unusedVariables false

theorem cOf_string : Tryz.prog.cellsOf 9 = 1 := by kernel_rfl
theorem cOf_int : Tryz.prog.cellsOf 3 = 1 := by kernel_rfl
theorem cOf_ints : Tryz.prog.cellsOf 23 = 1 := by kernel_rfl
theorem cOf_arr : Tryz.prog.cellsOf 22 = 6 := by kernel_rfl
theorem cOf_marks : Tryz.prog.cellsOf 24 = 1 := by kernel_rfl
theorem cOf_mark : Tryz.prog.cellsOf 87 = 2 := by kernel_rfl
theorem cOf_entries : Tryz.prog.cellsOf 25 = 1 := by kernel_rfl
theorem cOf_entry : Tryz.prog.cellsOf 53 = 7 := by kernel_rfl
theorem cOf_events : Tryz.prog.cellsOf 26 = 1 := by kernel_rfl
theorem cOf_event : Tryz.prog.cellsOf 55 = 2 := by kernel_rfl
theorem cOf_batch : Tryz.prog.cellsOf 28 = 5 := by kernel_rfl
theorem cOf_draw : Tryz.prog.cellsOf 30 = 19 := by kernel_rfl
theorem spotE {a : Addr} (h : a.spot = none) (i : Nat) : a.add i = ⟨a.block, a.off + i, none⟩ := by
  cases a
  simp only at h
  subst h
  unfold Addr.add
  split <;> simp_all

/-- No weight of a datum is beyond the reach. -/
def Light {H : Type} (t : TypeId) (d : DataW H) : Prop := ∀ u ∈ d.weights Tryz.prog t, u ≤ 140737488351232
theorem weights_all {H : Type} {e : TypeId} {d : DataW H} {u : Nat} : ∀ {l : List (DataW H)}, d ∈ l → u ∈ d.weights Tryz.prog e → u ∈ DataW.weightsAll Tryz.prog e l
  | [], h, _ => absurd h (by simp)
  | x :: l, h, hu => by
    rw [DataW.weightsAll, List.mem_append]
    rcases List.mem_cons.1 h with rfl | h
    · exact .inl hu
    · exact .inr (weights_all h hu)
theorem light_field {H : Type} {t : TypeId} {fs : Array Field} {parts : List (DataW H)} (ht : Tryz.prog.underlying t = some (.struct fs)) (h : Light t (.agg parts)) {j : Nat} {f : Field} {d : DataW H} (hf : fs[j]? = some f) (hd : parts[j]? = some d) : Light f.type d := by
  intro u hu
  refine h u ?_
  rw [DataW.weights, ht]
  exact DataW.weights_mem_each (j := j) (t := f.type) (by simp [hf]) hd u hu
theorem light_string {H : Type} {t : TypeId} {s : ByteArray} (h : Light t (.lit (.string s.data.toList) : DataW H)) : s.size ≤ 140737488351232 := by
  have := h s.data.toList.length (by simp [DataW.weights])
  simpa using this

/-- A slice of anything, opened by its elements. -/
theorem open_row {α : Type} (k : Nat) (f : α → List Value) (hf : ∀ x, (f x).length = k) (hk : 0 < k) (Q : α → Prop) (z : α) {H : Type} {enc : TypeId × Value → H} {w : World} {t e : TypeId} (ht : Tryz.prog.underlying t = some (.slice e)) (hc : Tryz.prog.cellsOf e = k)
    (ho : ∀ (n : Nat) (cs : List Value) (x : DataW H × List MemPlace), DataW.trod enc Tryz.prog w 0 (fun _ => true) true n e cs = some x → Light e x.1 → ∃ y, cs = f y ∧ Q y) {n : Nat} {cs : List Value} {x : DataW H × List MemPlace}
    (h : DataW.trod enc Tryz.prog w 0 (fun _ => true) true n t cs = some x) (hlx : Light t x.1) : ∃ v l, cs = [v] ∧ IsRow k f w.heap.size w v l ∧ ∀ y ∈ l, Q y := by
  rcases Go.Deep.open_slice ht h with ⟨hcs, _⟩ | ⟨a, len, cap, m, n, D, Pl, hcs, _, hl, hm, hmm, hxe, hx⟩
  · exact ⟨_, [], hcs, row_nil _ _, fun y hy => absurd hy (by simp)⟩
  · have hmc : m = cap := by rw [hmm]; rfl
    subst hmc
    have hD : ∀ i, i < m → Light e (D i) := fun i hi u hu => by
      refine hlx u ?_
      rw [hxe]
      simp only [DataW.weights, ht, List.mem_cons, List.mem_append]
      by_cases hi2 : i < len
      · exact .inr (.inl (weights_all (d := D i) (List.mem_map.2 ⟨i, List.mem_range.2 hi2, rfl⟩) hu))
      · exact .inr (.inr (weights_all (d := D i) (List.mem_map.2 ⟨i - len, List.mem_range.2 (by omega), by rw [show len + (i - len) = i by omega]⟩) hu))
    have each : ∀ i, i < m → ∃ y : α, (∀ j, j < k → w.cell? (a.add (i * k + j)) = (f y)[j]?) ∧ Q y := fun i hi => by
      obtain ⟨cs', h1, h2⟩ := hx i hi
      obtain ⟨y, hcs', hok⟩ := ho _ _ _ h2 (hD i hi)
      rw [hc] at h1
      obtain ⟨_, hlen, hcell⟩ := World.cells?_some h1
      refine ⟨y, fun j hj => ?_, hok⟩
      have e0 := hcell j hj
      rw [Go.Deep.add_add] at e0
      rw [e0, ← hcs']
      try simp
    have hAi : Inhabited α := ⟨z⟩
    obtain ⟨E, hE⟩ := Go.Deep.choose_lt each
    have hlen : ((List.range len).map E).length = len := by simp
    refine ⟨_, (List.range len).map E, hcs, ⟨some a, m, by rw [hlen], by rw [hlen]; exact hl, hm, fun e => (by cases e), fun hp => ?_⟩, fun y hy => ?_⟩
    · rw [hlen] at hp
      obtain ⟨u, hu⟩ : ∃ u, (f (E 0))[0]? = some u := ⟨_, List.getElem?_eq_getElem (by rw [hf]; exact hk)⟩
      have hc0 : w.cell? (a.add (0 * k + 0)) = some u := by rw [← hu]; exact (hE 0 (by omega)).1 0 hk
      have hsp : a.spot = none := by
        have := World.cell?_spot hc0
        simpa [Addr.add] using this
      refine ⟨a.block, a.off, congrArg some (by cases a; simp only at hsp; subst hsp; rfl), ?_, fun i hi j hj => ?_⟩
      · have := World.block_lt_of_cell? w _ hc0
        rw [spotE hsp] at this
        exact this
      · rw [hlen] at hi
        have h0 := (hE i (by omega)).1 j hj
        rw [spotE hsp] at h0
        simp only [List.getElem_map, List.getElem_range]
        rw [Nat.add_assoc]
        exact h0
    · obtain ⟨i, hi, rfl⟩ := List.mem_map.1 hy
      exact (hE i (by have := List.mem_range.1 hi; omega)).2

def SizeE (e : EV) : Prop := e.kind.size ≤ 140737488351232 ∧ e.data.size ≤ 140737488351232
def SizeB (b : BW) : Prop := b.stream.size ≤ 140737488351232 ∧ ∀ e ∈ b.events, SizeE e
def vcellO (e : EV) : List Value := [.string e.kind, .string e.data]
theorem row_events {B : Nat} {w : World} {v : Value} {l : List EV} (h : IsRow 2 vcellO B w v l) : IsEvents B w v l := by
  obtain ⟨a, cap, rfl, h1, h2, h3, h5⟩ := h
  refine ⟨a, cap, rfl, h1, h2, h3, fun hp => ?_⟩
  obtain ⟨b, off, rfl, hlt, hc⟩ := h5 hp
  exact ⟨b, off, rfl, hlt, fun i hi => ⟨hc i hi 0 (by omega), hc i hi 1 (by omega)⟩⟩
section
variable {H : Type} {enc : TypeId × Value → H} {w : World} {n : Nat} {cs : List Value} {x : DataW H × List MemPlace}
theorem open_nums (h : DataW.trod enc Tryz.prog w 0 (fun _ => true) true n 23 cs = some x) (hlx : Light 23 x.1) : ∃ v l, cs = [v] ∧ IsNums w.heap.size w v l := by
  obtain ⟨v, l, h1, h2, _⟩ := open_row 1 icell icell_len (by omega) (fun _ => True) 0 Tryz.underlying23 cOf_int (fun n cs x hx _ => by
    obtain ⟨s, e, _, _⟩ := DataW.trod_int Tryz.underlying3 hx
    exact ⟨s, e, trivial⟩) h hlx
  exact ⟨v, l, h1, h2⟩
theorem open_marks (h : DataW.trod enc Tryz.prog w 0 (fun _ => true) true n 24 cs = some x) (hlx : Light 24 x.1) : ∃ v l, cs = [v] ∧ IsMarks w.heap.size w v l := by
  obtain ⟨v, l, h1, h2, _⟩ := open_row 2 mcell mcell_len (by omega) (fun _ => True) (0, 0) Tryz.underlying24 cOf_mark (fun n cs x hx _ => by
    obtain ⟨xs, k, _, _, hl, hxl, hf⟩ := DataW.trod_struct Tryz.underlying87 hx
    rw [cOf_mark] at hl
    match cs, hl, xs, hxl with
    | [v0, v1], _, [y0, y1], _ =>
      have g0 := hf 0 _ rfl
      have g1 := hf 1 _ rfl
      simp [cOf_int] at g0 g1
      obtain ⟨s0, e0, _, _⟩ := DataW.trod_int Tryz.underlying3 g0
      obtain ⟨s1, e1, _, _⟩ := DataW.trod_int Tryz.underlying3 g1
      simp only [List.cons.injEq, and_true] at e0 e1
      subst e0 e1
      exact ⟨(s0, s1), rfl, trivial⟩) h hlx
  exact ⟨v, l, h1, h2⟩
theorem open_eventsL (h : DataW.trod enc Tryz.prog w 0 (fun _ => true) true n 26 cs = some x) (hlx : Light 26 x.1) : ∃ v l, cs = [v] ∧ IsEvents w.heap.size w v l ∧ ∀ e ∈ l, SizeE e := by
  obtain ⟨v, l, h1, h2, h3⟩ := open_row 2 vcellO (fun _ => rfl) (by omega) SizeE ⟨⟨#[]⟩, ⟨#[]⟩⟩ Tryz.underlying26 cOf_event (fun n cs x hx hlx => by
    obtain ⟨xs, k, _, hxe, hl, hxl, hf⟩ := DataW.trod_struct Tryz.underlying55 hx
    rw [hxe] at hlx
    rw [cOf_event] at hl
    match cs, hl, xs, hxl with
    | [v0, v1], _, [y0, y1], _ =>
      have g0 := hf 0 _ rfl
      have g1 := hf 1 _ rfl
      simp [cOf_string] at g0 g1
      obtain ⟨s0, e0, d0, -⟩ := DataW.trod_string Tryz.underlying9 g0
      obtain ⟨s1, e1, d1, -⟩ := DataW.trod_string Tryz.underlying9 g1
      have z0 := light_field Tryz.underlying55 hlx (j := 0) rfl rfl
      have z1 := light_field Tryz.underlying55 hlx (j := 1) rfl rfl
      rw [d0] at z0
      rw [d1] at z1
      simp only [List.cons.injEq, and_true] at e0 e1
      subst e0 e1
      exact ⟨⟨s0, s1⟩, rfl, light_string z0, light_string z1⟩) h hlx
  exact ⟨v, l, h1, row_events h2, h3⟩
theorem open_bcells (h : DataW.trod enc Tryz.prog w 0 (fun _ => true) true n 28 cs = some x) (hlx : Light 28 x.1) : ∃ (b : BW) (lv : Value), cs = [.string b.stream, .int .i64 b.expect, .int .i64 b.session, .int .i64 b.seq, lv] ∧ IsEvents w.heap.size w lv b.events ∧ SizeB b := by
  obtain ⟨xs, k, _, hxe, hl, hxl, hf⟩ := DataW.trod_struct Tryz.underlying28 h
  rw [hxe] at hlx
  rw [cOf_batch] at hl
  match cs, hl, xs, hxl with
  | [v0, v1, v2, v3, v4], _, [y0, y1, y2, y3, y4], _ =>
    have g0 := hf 0 _ rfl
    have g1 := hf 1 _ rfl
    have g2 := hf 2 _ rfl
    have g3 := hf 3 _ rfl
    have g4 := hf 4 _ rfl
    simp [cOf_string, cOf_int, cOf_events] at g0 g1 g2 g3 g4
    obtain ⟨s0, e0, d0, -⟩ := DataW.trod_string Tryz.underlying9 g0
    obtain ⟨s1, e1, _⟩ := DataW.trod_int Tryz.underlying3 g1
    obtain ⟨s2, e2, _⟩ := DataW.trod_int Tryz.underlying3 g2
    obtain ⟨s3, e3, _⟩ := DataW.trod_int Tryz.underlying3 g3
    have z0 := light_field Tryz.underlying28 hlx (j := 0) rfl rfl
    rw [d0] at z0
    obtain ⟨v, l, e4, he, hz⟩ := open_eventsL g4 (light_field Tryz.underlying28 hlx (j := 4) rfl rfl)
    simp only [List.cons.injEq, and_true] at e0 e1 e2 e3 e4
    subst e0 e1 e2 e3 e4
    exact ⟨⟨s0, s1, s2, s3, l⟩, _, rfl, he, light_string z0, hz⟩
theorem open_entries (h : DataW.trod enc Tryz.prog w 0 (fun _ => true) true n 25 cs = some x) (hlx : Light 25 x.1) : ∃ v l, cs = [v] ∧ IsEntries w.heap.size w v l ∧ ∀ e ∈ l, SizeB e.b := by
  obtain ⟨v, P, h1, h2, h3⟩ := open_row 7 ecell ecell_len (by omega) (fun p => IsEvents w.heap.size w p.2 p.1.b.events ∧ SizeB p.1.b) (zeroEN, .int .i64 0) Tryz.underlying25 cOf_entry (fun n cs x hx hlx => by
    obtain ⟨xs, k, _, hxe, hl, hxl, hf⟩ := DataW.trod_struct Tryz.underlying53 hx
    rw [hxe] at hlx
    rw [cOf_entry] at hl
    match cs, hl, xs, hxl with
    | [v0, v1, v2, v3, v4, v5, v6], _, [y0, y1, y2], _ =>
      have g0 := hf 0 _ rfl
      have g1 := hf 1 _ rfl
      have g2 := hf 2 _ rfl
      simp [cOf_int, cOf_batch] at g0 g1 g2
      obtain ⟨s0, e0, _⟩ := DataW.trod_int Tryz.underlying3 g0
      obtain ⟨s1, e1, _⟩ := DataW.trod_int Tryz.underlying3 g1
      obtain ⟨b, lv, e2, hev, hsz⟩ := open_bcells g2 (light_field Tryz.underlying53 hlx (j := 2) rfl rfl)
      simp only [List.cons.injEq, and_true] at e0 e1 e2
      obtain ⟨p0, p1, p2, p3, p4⟩ := e2
      subst e0 e1 p0 p1 p2 p3 p4
      exact ⟨(⟨s0, s1, b⟩, _), rfl, hev, hsz⟩) h hlx
  refine ⟨v, P.map (·.1), h1, ⟨P, rfl, h2, fun p hp => (h3 p hp).1⟩, fun e he => ?_⟩
  obtain ⟨p, hp, rfl⟩ := List.mem_map.1 he
  exact (h3 p hp).2
end

/-! ### the parts of any message -/
structure DW where
  kind : Int
  n0 : Int
  n1 : Int
  n2 : Int
  n3 : Int
  n4 : Int
  n5 : Int
  chain : List Int
  since : List Int
  boot : List Int
  marks : List (Int × Int)
  entries : List EN
  events : List EV
  b : BW
  stream : ByteArray
/-- The values of its slices. -/
structure DS where
  cv : Value
  sv : Value
  bv : Value
  mv : Value
  ev : Value
  vv : Value
  lv : Value
def DW.cells (d : DW) (s : DS) : List Value :=
  [.int .i64 d.kind, .int .i64 d.n0, .int .i64 d.n1, .int .i64 d.n2, .int .i64 d.n3, .int .i64 d.n4, .int .i64 d.n5, s.cv, s.sv, s.bv, s.mv, s.ev, s.vv, .string d.b.stream, .int .i64 d.b.expect, .int .i64 d.b.session, .int .i64 d.b.seq, s.lv, .string d.stream]
structure DOk (B : Nat) (w : World) (d : DW) (s : DS) : Prop where
  c : IsNums B w s.cv d.chain
  i : IsNums B w s.sv d.since
  o : IsNums B w s.bv d.boot
  m : IsMarks B w s.mv d.marks
  e : IsEntries B w s.ev d.entries
  v : IsEvents B w s.vv d.events
  b : IsEvents B w s.lv d.b.events
theorem DOk.keep {B B' : Nat} {w w' : World} {d : DW} {s : DS} (h : DOk B w d s) (hb : Below B' w w') (hB : B ≤ B') : DOk B w' d s :=
  ⟨h.c.keep hb hB, h.i.keep hb hB, h.o.keep hb hB, h.m.keep hb hB, h.e.keep hb hB, h.v.keep hb hB, h.b.keep hb hB⟩
theorem DOk.forms {B : Nat} {w : World} {d : DW} {s : DS} (h : DOk B w d s) : ∃ ca ck sa sk ba bk ma mk ea ek va vk la lk, s = ⟨.slice ca d.chain.length ck, .slice sa d.since.length sk, .slice ba d.boot.length bk, .slice ma d.marks.length mk, .slice ea d.entries.length ek, .slice va d.events.length vk, .slice la d.b.events.length lk⟩ := by
  obtain ⟨ca, ck, e1⟩ := h.c.form
  obtain ⟨sa, sk, e2⟩ := h.i.form
  obtain ⟨ba, bk, e3⟩ := h.o.form
  obtain ⟨ma, mk, e4⟩ := h.m.form
  obtain ⟨ea, ek, e5⟩ := h.e.form
  obtain ⟨va, vk, e6⟩ := h.v.form
  obtain ⟨la, lk, e7⟩ := h.b.form
  exact ⟨ca, ck, sa, sk, ba, bk, ma, mk, ea, ek, va, vk, la, lk, by cases s; simp only at e1 e2 e3 e4 e5 e6 e7; subst e1 e2 e3 e4 e5 e6 e7; rfl⟩
/-- What of its texts a machine can hold. -/
structure SizeD (d : DW) : Prop where
  e : ∀ x ∈ d.entries, SizeB x.b
  v : ∀ x ∈ d.events, SizeE x
  b : SizeB d.b
  s : d.stream.size ≤ 140737488351232
theorem open_draw {H : Type} {enc : TypeId × Value → H} {w : World} {base : Nat} {v : Value} {dt : DataW H} {p : List MemPlace}
    (hv : Value.okWide Tryz.prog w .any base 30 v) (h : DataW.Trod enc Tryz.prog w 0 (fun _ => true) true 30 v dt p) (hlx : Light 30 dt) : ∃ d s, v = .agg (d.cells s).toArray ∧ DOk w.heap.size w d s ∧ SizeD d := by
  obtain ⟨cs, rfl, hsz⟩ := okWide_struct Tryz.underlying30 hv
  obtain ⟨fuel, hf⟩ := h
  have hf' : DataW.trod enc Tryz.prog w 0 (fun _ => true) true fuel 30 cs.toList = some (dt, p) := by simpa [Value.cells] using hf
  obtain ⟨xs, k, _, hxe, hl, hxl, hf2⟩ := DataW.trod_struct Tryz.underlying30 hf'
  rw [show dt = _ from congrArg (·.1) hxe] at hlx
  rw [cOf_draw] at hl
  have key : ∃ d s, cs.toList = DW.cells d s ∧ DOk w.heap.size w d s ∧ SizeD d := by
    match cs.toList, hl, xs, hxl, hf2, hlx with
    | [v0, v1, v2, v3, v4, v5, v6, v7, v8, v9, v10, v11, v12, v13, v14, v15, v16, v17, v18], _, [y0, y1, y2, y3, y4, y5, y6, y7, y8, y9], _, hf2, hlx =>
      have g0 := hf2 0 _ rfl
      have g1 := hf2 1 _ rfl
      have g2 := hf2 2 _ rfl
      have g3 := hf2 3 _ rfl
      have g4 := hf2 4 _ rfl
      have g5 := hf2 5 _ rfl
      have g6 := hf2 6 _ rfl
      have g7 := hf2 7 _ rfl
      have g8 := hf2 8 _ rfl
      have g9 := hf2 9 _ rfl
      simp [cOf_int, cOf_arr, cOf_ints, cOf_marks, cOf_entries, cOf_events, cOf_batch, cOf_string] at g0 g1 g2 g3 g4 g5 g6 g7 g8 g9
      obtain ⟨s0, e0, _⟩ := DataW.trod_int Tryz.underlying3 g0
      obtain ⟨zs, k1, _, _, hl1, hzl, hf3⟩ := DataW.trod_array Tryz.underlying22 g1
      have a0 := hf3 0 (by omega)
      have a1 := hf3 1 (by omega)
      have a2 := hf3 2 (by omega)
      have a3 := hf3 3 (by omega)
      have a4 := hf3 4 (by omega)
      have a5 := hf3 5 (by omega)
      match zs, hzl with
      | [z0, z1, z2, z3, z4, z5], _ =>
        simp [cOf_int] at a0 a1 a2 a3 a4 a5
        obtain ⟨t0, f0, _⟩ := DataW.trod_int Tryz.underlying3 a0
        obtain ⟨t1, f1, _⟩ := DataW.trod_int Tryz.underlying3 a1
        obtain ⟨t2, f2, _⟩ := DataW.trod_int Tryz.underlying3 a2
        obtain ⟨t3, f3, _⟩ := DataW.trod_int Tryz.underlying3 a3
        obtain ⟨t4, f4, _⟩ := DataW.trod_int Tryz.underlying3 a4
        obtain ⟨t5, f5, _⟩ := DataW.trod_int Tryz.underlying3 a5
        obtain ⟨u2, l2, e2, i2⟩ := open_nums g2 (light_field Tryz.underlying30 hlx (j := 2) rfl rfl)
        obtain ⟨u3, l3, e3, i3⟩ := open_nums g3 (light_field Tryz.underlying30 hlx (j := 3) rfl rfl)
        obtain ⟨u4, l4, e4, i4⟩ := open_nums g4 (light_field Tryz.underlying30 hlx (j := 4) rfl rfl)
        obtain ⟨u5, l5, e5, i5⟩ := open_marks g5 (light_field Tryz.underlying30 hlx (j := 5) rfl rfl)
        obtain ⟨u6, l6, e6, i6, z6⟩ := open_entries g6 (light_field Tryz.underlying30 hlx (j := 6) rfl rfl)
        obtain ⟨u7, l7, e7, i7, z7⟩ := open_eventsL g7 (light_field Tryz.underlying30 hlx (j := 7) rfl rfl)
        obtain ⟨b, lv, e8, i8, z8⟩ := open_bcells g8 (light_field Tryz.underlying30 hlx (j := 8) rfl rfl)
        obtain ⟨s9, e9, d9, -⟩ := DataW.trod_string Tryz.underlying9 g9
        have z9 := light_field Tryz.underlying30 hlx (j := 9) rfl rfl
        rw [d9] at z9
        simp only [List.cons.injEq, and_true] at e0 f0 f1 f2 f3 f4 f5 e2 e3 e4 e5 e6 e7 e8 e9
        obtain ⟨p0, p1, p2, p3, p4⟩ := e8
        subst e0 f0 f1 f2 f3 f4 f5 e2 e3 e4 e5 e6 e7 p0 p1 p2 p3 p4 e9
        exact ⟨⟨s0, t0, t1, t2, t3, t4, t5, l2, l3, l4, l5, l6, l7, b, s9⟩, ⟨_, _, _, _, _, _, _⟩, rfl, ⟨i2, i3, i4, i5, i6, i7, i8⟩, ⟨z6, z7, z8, light_string z9⟩⟩
  obtain ⟨d, s, h1, h2, h3⟩ := key
  exact ⟨d, s, by rw [← h1], h2, h3⟩
end Go.Proofs.YtflojipkgaocnaaGreatDoor
