/-
  What the arguments of the client's laws are, opened: acts.
-/
import Derived.Test.YtapgjjfndbfnpaaDoorCliData
import Derived.Test.YtapgjjfndbfnpaaDoorCliEvOpen
import Derived.Deep.MidRow
import Derived.Deep.WholeRow
namespace Go.Proofs.YtapgjjfndbfnpaaDoor
open Go.RowKit Go.ChangeShapes Go.WideShapes Go.ChangeAt
set_option linter.unusedVariables false
set_option maxRecDepth 100000

structure AcW where
  op : Int
  n : Int
  m : Int
  b : BW
  stream : ByteArray
  from_ : Int
  v : Vw.VW
  out : OutC
  events : List EV
/-- An act with its slices. -/
structure AcR where
  a : AcW
  bev : Value
  cv : Value
  sv : Value
  bv : Value
  evv : Value
def AcR.cells (r : AcR) : List Value :=
  [.int .i64 r.a.op, .int .i64 r.a.n, .int .i64 r.a.m, .string r.a.b.stream, .int .i64 r.a.b.expect, .int .i64 r.a.b.session, .int .i64 r.a.b.seq, r.bev, .string r.a.stream, .int .i64 r.a.from_,
   .int .i64 r.a.v.epoch, r.cv, r.sv, r.bv, .int .i64 r.a.out.code, .int .i64 r.a.out.pos, .int .i64 r.a.out.first, .int .i64 r.a.out.version, r.evv]
structure AcR.Ok (B : Nat) (w : World) (r : AcR) : Prop where
  op : Vw.I64 r.a.op
  n : Vw.I64 r.a.n
  m : Vw.I64 r.a.m
  ep : Vw.I64 r.a.v.epoch
  bev : IsEvents B w r.bev r.a.b.events
  cv : Vw.IsInts B w r.cv r.a.v.chain
  sv : Vw.IsInts B w r.sv r.a.v.since
  bv : Vw.IsInts B w r.bv r.a.v.boot
  evv : IsEvents B w r.evv r.a.events
def IsActs (B : Nat) (w : World) (v : Value) (l : List AcR) : Prop :=
  ∃ (a : Option Addr) (cap : Nat), v = .slice a l.length cap ∧ l.length ≤ cap ∧ cap ≤ maxLen ∧ (∀ r ∈ l, r.Ok B w) ∧
    (0 < l.length → ∃ b off, a = some ⟨b, off, none⟩ ∧ b < B ∧ ∀ i, (h : i < l.length) → ∀ j, j < 19 → w.cell? ⟨b, off + i * 19 + j, none⟩ = l[i].cells[j]?)
theorem AcR.Ok.keep {B B' : Nat} {w w' : World} {r : AcR} (h : r.Ok B w) (hb : Below B' w w') (hB : B ≤ B') : r.Ok B w' :=
  ⟨h.op, h.n, h.m, h.ep, h.bev.keep hb hB, h.cv.keep hb hB, h.sv.keep hb hB, h.bv.keep hb hB, h.evv.keep hb hB⟩
theorem IsActs.keep {B B' : Nat} {w w' : World} {v : Value} {l : List AcR} (h : IsActs B w v l) (hb : Below B' w w') (hB : B ≤ B') : IsActs B w' v l := by
  obtain ⟨a, cap, rfl, h1, h2, h3, h4⟩ := h
  refine ⟨a, cap, rfl, h1, h2, fun r hr => (h3 r hr).keep hb hB, fun hp => ?_⟩
  obtain ⟨b, off, rfl, hlt, hc⟩ := h4 hp
  exact ⟨b, off, rfl, hlt, fun i hi j hj => by rw [hb.cell (p := ⟨b, off + i * 19 + j, none⟩) (Nat.lt_of_lt_of_le hlt hB)]; exact hc i hi j hj⟩
theorem IsActs.form {B : Nat} {w : World} {v : Value} {l : List AcR} (h : IsActs B w v l) : ∃ a cap, v = .slice a l.length cap := by
  obtain ⟨a, cap, rfl, _⟩ := h
  exact ⟨a, cap, rfl⟩
theorem IsActs.ok {B : Nat} {w : World} {v : Value} {l : List AcR} (h : IsActs B w v l) (i : Nat) (hi : i < l.length) : l[i].Ok B w := by
  obtain ⟨a, cap, rfl, _, _, h3, _⟩ := h
  exact h3 _ (List.getElem_mem hi)
theorem IsActs.get {B : Nat} {w : World} {v : Value} {l : List AcR} (h : IsActs B w v l) (i : Nat) (hi : i < l.length) : ∃ b off cap, v = .slice (some ⟨b, off, none⟩) l.length cap ∧ b < B ∧ ∀ j, j < 19 → w.cell? ⟨b, off + i * 19 + j, none⟩ = l[i].cells[j]? := by
  obtain ⟨a, cap, rfl, h1, h2, h3, h4⟩ := h
  obtain ⟨b, off, rfl, hlt, hc⟩ := h4 (by omega)
  exact ⟨b, off, cap, rfl, hlt, hc i hi⟩

theorem AcR.cells_len (r : AcR) : r.cells.length = 19 := rfl
theorem IsActs.range {B : Nat} {w : World} {v : Value} {l : List AcR} (h : IsActs B w v l) (i : Nat) (hi : i < l.length) : ∃ b off cap, v = .slice (some ⟨b, off, none⟩) l.length cap ∧ b < B ∧ w.rangeAt b (off + i * 19) l[i].cells := by
  obtain ⟨b, off, cap, hv, hb, hc⟩ := h.get i hi
  refine ⟨b, off, cap, hv, hb, fun j v hj => ?_⟩
  have h19 : j < 19 := by have := (List.getElem?_eq_some_iff.1 hj).1; rwa [AcR.cells_len] at this
  rw [hc j h19]
  exact hj
theorem AcR.Ok.plain {B : Nat} {w : World} {r : AcR} (h : r.Ok B w) : r.cells.toArray.all (·.oneCell') = true := by
  obtain ⟨ba, bk, e1⟩ := h.bev.form
  obtain ⟨ca, ck, e2⟩ := h.cv.form
  obtain ⟨sa, sk, e3⟩ := h.sv.form
  obtain ⟨oa, ok, e4⟩ := h.bv.form
  obtain ⟨ea, ek, e5⟩ := h.evv.form
  simp [AcR.cells, e1, e2, e3, e4, e5, Value.oneCell']
/-- A store into the block that was made last, at a plain region's list. -/
theorem wpList_store_new {P : Program} {ops : Array Oper} {rest : List Oper} {op : Oper} {a : Act} {w : World} {Q : Exit → Act → World → Prop} (hgd : op.guard = none) (ty : TypeId) (x y : Operand) (ho : op.op = .store ty x y)
    (w0 : World) (c c' : Array Value) (hw : w = w0.alloc (.cells c ty)) (hx : a.eval x = .pointer (some ⟨w0.heap.size, 0, none⟩)) (hy : a.eval y = .agg c') (hi : (P.info? ty).map (·.size) = some c'.size) (hs : c.size = c'.size) (h1 : c'.all (·.oneCell') = true)
    (h : wpList P ops Q rest (a.put op.dst undef) (w0.alloc (.cells c' ty))) : wpList P ops Q (op :: rest) a w :=
  wpList_plain hgd fun _ hK => by
    subst hw
    unfold Oper.wp execOp
    simp only [ho, hx, hy, Sem.run_bind, Sem.run_pure, run_storeAt_new w0 ty c c' hi hs h1, Result.andThen_ok]
    exact hK _ _ h
theorem actsize : (Tryd.prog.info? 33).map (·.size) = some 19 := by kernel_rfl
theorem i64_of {n : Int} (h : (Lit.int .i64 n).wf = true) : Vw.I64 n := by simpa [Vw.I64, Lit.wf, IntKind.min, IntKind.max, IntKind.signed, IntKind.bits] using h
theorem cOf_view : Tryd.prog.cellsOf 27 = 4 := by kernel_rfl
theorem cOf_ints : Tryd.prog.cellsOf 25 = 1 := by kernel_rfl
theorem cOf_outcome : Tryd.prog.cellsOf 31 = 4 := by kernel_rfl
theorem cOf_act : Tryd.prog.cellsOf 33 = 19 := by kernel_rfl
theorem open_islice2 {H : Type} {enc : TypeId × Value → H} {w : World} {n : Nat} {cs : List Value} {x : DataW H × List MemPlace}
    (h : DataW.trod enc Tryd.prog w 0 (fun _ => true) true n 25 cs = some x) : ∃ v l, cs = [v] ∧ Vw.IsInts w.heap.size w v l := by
  rcases open_ints Tryd.underlying25 Tryd.underlying3 cOf_int h with ⟨hcs, _⟩ | ⟨a, len, cap, zs, hcs, _⟩
  · exact ⟨_, [], hcs, Vw.ints_nil _ _⟩
  · subst hcs
    obtain ⟨l, hl⟩ := Vw.open_islice (v := .slice (some a) len cap) Tryd.underlying25 Tryd.underlying3 cOf_int h
    exact ⟨_, l, rfl, hl⟩
theorem open_vcells {H : Type} {enc : TypeId × Value → H} {w : World} {n : Nat} {cs : List Value} {x : DataW H × List MemPlace}
    (h : DataW.trod enc Tryd.prog w 0 (fun _ => true) true n 27 cs = some x) : ∃ (V : Vw.VW) (cv sv bv : Value), cs = [.int .i64 V.epoch, cv, sv, bv] ∧ Vw.I64 V.epoch ∧ Vw.IsInts w.heap.size w cv V.chain ∧ Vw.IsInts w.heap.size w sv V.since ∧ Vw.IsInts w.heap.size w bv V.boot := by
  obtain ⟨xs, k, _, _, hl, hxl, hf⟩ := DataW.trod_struct Tryd.underlying27 h
  rw [cOf_view] at hl
  match cs, hl, xs, hxl with
  | [v0, v1, v2, v3], _, [y0, y1, y2, y3], _ =>
    have g0 := hf 0 _ rfl
    have g1 := hf 1 _ rfl
    have g2 := hf 2 _ rfl
    have g3 := hf 3 _ rfl
    simp [cOf_int, cOf_ints] at g0 g1 g2 g3
    obtain ⟨s0, e0, _, w0⟩ := DataW.trod_int Tryd.underlying3 g0
    obtain ⟨u1, l1, e1, i1⟩ := open_islice2 g1
    obtain ⟨u2, l2, e2, i2⟩ := open_islice2 g2
    obtain ⟨u3, l3, e3, i3⟩ := open_islice2 g3
    simp only [List.cons.injEq, and_true] at e0 e1 e2 e3
    subst e0 e1 e2 e3
    exact ⟨⟨s0, l1, l2, l3⟩, _, _, _, rfl, i64_of w0, i1, i2, i3⟩
theorem open_ocells {H : Type} {enc : TypeId × Value → H} {w : World} {n : Nat} {cs : List Value} {x : DataW H × List MemPlace}
    (h : DataW.trod enc Tryd.prog w 0 (fun _ => true) true n 31 cs = some x) : ∃ (o : OutC), cs = [.int .i64 o.code, .int .i64 o.pos, .int .i64 o.first, .int .i64 o.version] := by
  obtain ⟨xs, k, _, _, hl, hxl, hf⟩ := DataW.trod_struct Tryd.underlying31 h
  rw [cOf_outcome] at hl
  match cs, hl, xs, hxl with
  | [v0, v1, v2, v3], _, [y0, y1, y2, y3], _ =>
    have g0 := hf 0 _ rfl
    have g1 := hf 1 _ rfl
    have g2 := hf 2 _ rfl
    have g3 := hf 3 _ rfl
    simp [cOf_int] at g0 g1 g2 g3
    obtain ⟨s0, e0, _⟩ := DataW.trod_int Tryd.underlying3 g0
    obtain ⟨s1, e1, _⟩ := DataW.trod_int Tryd.underlying3 g1
    obtain ⟨s2, e2, _⟩ := DataW.trod_int Tryd.underlying3 g2
    obtain ⟨s3, e3, _⟩ := DataW.trod_int Tryd.underlying3 g3
    simp only [List.cons.injEq, and_true] at e0 e1 e2 e3
    subst e0 e1 e2 e3
    exact ⟨⟨s0, s1, s2, s3⟩, rfl⟩
theorem open_acells {H : Type} {enc : TypeId × Value → H} {w : World} {n : Nat} {cs : List Value} {x : DataW H × List MemPlace}
    (h : DataW.trod enc Tryd.prog w 0 (fun _ => true) true n 33 cs = some x) : ∃ r : AcR, cs = r.cells ∧ r.Ok w.heap.size w := by
  obtain ⟨xs, k, _, _, hl, hxl, hf⟩ := DataW.trod_struct Tryd.underlying33 h
  rw [cOf_act] at hl
  match cs, hl, xs, hxl with
  | [v0, v1, v2, v3, v4, v5, v6, v7, v8, v9, v10, v11, v12, v13, v14, v15, v16, v17, v18], _, [y0, y1, y2, y3, y4, y5, y6, y7, y8], _ =>
    have g0 := hf 0 _ rfl
    have g1 := hf 1 _ rfl
    have g2 := hf 2 _ rfl
    have g3 := hf 3 _ rfl
    have g4 := hf 4 _ rfl
    have g5 := hf 5 _ rfl
    have g6 := hf 6 _ rfl
    have g7 := hf 7 _ rfl
    have g8 := hf 8 _ rfl
    simp [cOf_int, cOf_string, cOf_batch, cOf_view, cOf_outcome, cOf_events] at g0 g1 g2 g3 g4 g5 g6 g7 g8
    obtain ⟨s0, e0, _, w0⟩ := DataW.trod_int Tryd.underlying3 g0
    obtain ⟨s1, e1, _, w1⟩ := DataW.trod_int Tryd.underlying3 g1
    obtain ⟨s2, e2, _, w2⟩ := DataW.trod_int Tryd.underlying3 g2
    obtain ⟨b, lv, e3, i3⟩ := open_bcells g3
    obtain ⟨s4, e4, _⟩ := DataW.trod_string Tryd.underlying9 g4
    obtain ⟨s5, e5, _⟩ := DataW.trod_int Tryd.underlying3 g5
    obtain ⟨V, cv, sv, bv, e6, j0, j1, j2, j3⟩ := open_vcells g6
    obtain ⟨o, e7⟩ := open_ocells g7
    obtain ⟨v, l, e8, i8⟩ := open_events g8
    simp only [List.cons.injEq, and_true] at e0 e1 e2 e3 e4 e5 e6 e7 e8
    obtain ⟨p0, p1, p2, p3, p4⟩ := e3
    obtain ⟨q0, q1, q2, q3⟩ := e6
    obtain ⟨r0, r1, r2, r3⟩ := e7
    subst e0 e1 e2 p0 p1 p2 p3 p4 e4 e5 q0 q1 q2 q3 r0 r1 r2 r3 e8
    exact ⟨⟨⟨s0, s1, s2, b, s4, s5, V, o, l⟩, _, _, _, _, _⟩, rfl, ⟨i64_of w0, i64_of w1, i64_of w2, j0, i3, j1, j2, j3, i8⟩⟩

theorem open_acts {H : Type} {enc : TypeId × Value → H} {w : World} {base : Nat} {v : Value} {d : DataW H} {p : List MemPlace}
    (hv : Value.okWide Tryd.prog w .any base 34 v) (h : DataW.Trod enc Tryd.prog w 0 (fun _ => true) true 34 v d p) : ∃ l, IsActs w.heap.size w v l := by
  obtain ⟨a0, len0, cap0, rfl⟩ := okWide_slice Tryd.underlying34 hv
  obtain ⟨fuel, hf⟩ := h
  have hf' : DataW.trod enc Tryd.prog w 0 (fun _ => true) true fuel 34 [.slice a0 len0 cap0] = some (d, p) := by simpa [Value.cells] using hf
  rcases Go.Deep.open_slice Tryd.underlying34 hf' with ⟨hcs, _⟩ | ⟨a, len, cap, m, n, D, Pl, hcs, _, hl, hm, hmm, _, hx⟩
  · injection hcs with e1
    injection e1 with e1 e2 e3
    subst e1 e2 e3
    exact ⟨[], none, 0, rfl, Nat.le_refl _, by unfold maxLen; omega, fun r hr => absurd hr (by simp), fun h => absurd h (by simp)⟩
  · injection hcs with e1
    injection e1 with e1 e2 e3
    subst e1 e2 e3
    have hmc : m = cap0 := by rw [hmm]; rfl
    subst hmc
    have each : ∀ i, i < m → ∃ r : AcR, (∀ j, j < 19 → w.cell? (a.add (i * 19 + j)) = r.cells[j]?) ∧ r.Ok w.heap.size w := fun i hi => by
      obtain ⟨cs', h1, h2⟩ := hx i hi
      obtain ⟨r, hcs', hok⟩ := open_acells h2
      rw [cOf_act] at h1
      obtain ⟨_, hlen, hcell⟩ := World.cells?_some h1
      refine ⟨r, fun j hj => ?_, hok⟩
      have e0 := hcell j hj
      rw [Go.Deep.add_add] at e0
      rw [e0, ← hcs']
      try simp
    have hAi : Inhabited AcR := ⟨⟨⟨0, 0, 0, ⟨⟨#[]⟩, 0, 0, 0, []⟩, ⟨#[]⟩, 0, Vw.zeroV, ⟨0, 0, 0, 0⟩, []⟩, .int .i64 0, .int .i64 0, .int .i64 0, .int .i64 0, .int .i64 0⟩⟩
    obtain ⟨E, hE⟩ := Go.Deep.choose_lt each
    have hlen : ((List.range len0).map E).length = len0 := by simp
    refine ⟨(List.range len0).map E, some a, m, by rw [hlen], by rw [hlen]; exact hl, hm, fun r hr => ?_, fun hp => ?_⟩
    · obtain ⟨i, hi, rfl⟩ := List.mem_map.1 hr
      exact (hE i (by have := List.mem_range.1 hi; omega)).2
    rw [hlen] at hp
    have hc0 : w.cell? (a.add (0 * 19 + 0)) = some (.int .i64 (E 0).a.op) := (hE 0 (by omega)).1 0 (by omega)
    have hsp : a.spot = none := by
      have := World.cell?_spot hc0
      simpa [Addr.add] using this
    refine ⟨a.block, a.off, congrArg some (by cases a; simp only at hsp; subst hsp; rfl), ?_, fun i hi j hj => ?_⟩
    · have := World.block_lt_of_cell? w _ hc0
      rw [spotE hsp] at this
      exact this
    · rw [hlen] at hi
      have h0 := (hE i (by omega)).1 j hj
      rw [spotE hsp] at h0
      simp only [List.getElem_map, List.getElem_range]
      rw [Nat.add_assoc]
      exact h0
end Go.Proofs.YtapgjjfndbfnpaaDoor
