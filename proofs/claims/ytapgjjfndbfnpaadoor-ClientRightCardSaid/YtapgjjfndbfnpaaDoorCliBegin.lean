/-
  The walk of (*client.Client).begin. Printed by gen_clibegin.py of this claim's writer.
-/
import Derived.Test.YtapgjjfndbfnpaaDoorCliClone
namespace Go.Proofs.YtapgjjfndbfnpaaDoor
open Go.RowKit
set_option linter.unusedSimpArgs false
set_option linter.unusedVariables false

def OutR.cells (o : OutR) : List Value := [.int .i64 o.dst, o.m.val]
def outCells (l : List OutR) : List Value := l.flatMap OutR.cells
/-- What is told, in a block from B on. -/
def OutsAt (B : Nat) (w : World) (v : Value) (l : List OutR) : Prop :=
  (v = .slice none 0 0 ∧ l = []) ∨ ∃ b, v = .slice (some ⟨b, 0, none⟩) l.length l.length ∧ B ≤ b ∧ w.heap[b]? = some (.cells (outCells l).toArray 50)
/-- An op that begins. -/
def OpR.begun (r : OpR) (id now : Int) : OpR := { r with o := { r.o with id := id, start := now, end_ := -1 } }
def ClR.begun (R : ClR) (r : OpR) (ov : Value) : ClR := { R with s := { R.s with ops := R.s.ops ++ [r.o] }, rs := R.rs ++ [r], ov := ov }
def ClR.wait (R : ClR) (b : Bool) : ClR := { R with s := { R.s with pending := b } }

theorem Kept.grown {S : Nat → Prop} {a w w' : World} {row : Option Nat} (h : Kept S a w) (hg : w.grownBy w' row) (hr : ∀ k, k < a.heap.size → row = some k → S k) : Kept S a w' :=
  ⟨hg.os.trans h.os, hg.tape.trans h.tape, hg.output.trans h.output, Nat.le_trans h.size hg.size, fun k hk hs => (hg.block k (Nat.lt_of_lt_of_le hk h.size) (fun e => hs (hr k hk e.symm))).trans (h.block k hk hs)⟩
theorem ClM.appended {X : Nat → Prop} {lo c g cap n : Nat} {w w2 w3 : World} {R : ClR} {r1 : OpR} (h : ClM X lo w c R) (hb : Below w.heap.size w w2) (hgrow : w2.grownBy w3 R.ov.ownBlock) (hat : R.ov.ownBlock = some g ∨ g = w2.heap.size)
    (hn : n = (R.rs ++ [r1]).length) (hown : w3.ownsRow lo 56 17 (.slice (some ⟨g, 0, none⟩) n cap) n (ocells (R.rs ++ [r1])))
    (hbev : EvA (fun k => R.mut c k ∨ X k) w r1.bev r1.o.b.events) (hevv : EvA (fun k => R.mut c k ∨ X k) w r1.evv r1.o.events) :
    ClM X lo (w3.setCell ⟨c, 2, none⟩ (.slice (some ⟨g, 0, none⟩) n cap)) c (R.begun r1 (.slice (some ⟨g, 0, none⟩) n cap)) ∧ Step c R (R.begun r1 (.slice (some ⟨g, 0, none⟩) n cap)) w (w3.setCell ⟨c, 2, none⟩ (.slice (some ⟨g, 0, none⟩) n cap)) := by
  subst hn
  have hc := h.clt
  have hgc : g ≠ c := by
    rcases hat with e | e
    · intro e2; exact h.ne (by rw [e, e2])
    · have := hb.size; omega
  have st : Step c R (R.begun r1 (.slice (some ⟨g, 0, none⟩) (R.rs ++ [r1]).length cap)) w (w3.setCell ⟨c, 2, none⟩ (.slice (some ⟨g, 0, none⟩) (R.rs ++ [r1]).length cap)) := by
    refine ⟨((kept_below hb).grown hgrow (fun k _ e => .inr e)).store ⟨c, 2, none⟩ (.inl (.inl rfl)) _, fun k hk hm => ?_⟩
    rcases hm with e | e
    · exact .inl e
    · have e : g = k := Option.some.inj e
      subst e
      rcases hat with e | e
      · exact .inr e
      · have := hb.size; omega
  have hblk : w3.heap[c]? = some (.cells R.cells 94) := (hgrow.block c (Nat.lt_of_lt_of_le hc hb.size) (fun e => h.ne e.symm)).trans ((hb.block c hc).trans h.blk)
  refine ⟨⟨h.hlo, block_set2 hblk 2 _, Vw.own_set_ne hown c 2 (fun e => hgc (Option.some.inj e)) _, ?_, fun e => hgc (Option.some.inj e), ?_, ?_, h.ep, h.sm, h.wh, ina_k h.cv st, ina_k h.sv st, ina_k h.bv st, h.xltK st, h.xneK st⟩, st⟩
  · show (R.rs ++ [r1]).map (·.o) = R.s.ops ++ [r1.o]
    rw [List.map_append, h.ops]
    rfl
  · intro r hr
    rcases List.mem_append.1 (show r ∈ R.rs ++ [r1] from hr) with hr | hr
    · exact h.bevK st r hr
    · obtain rfl := List.mem_singleton.1 hr
      exact eva_k hbev st
  · intro r hr
    rcases List.mem_append.1 (show r ∈ R.rs ++ [r1] from hr) with hr | hr
    · exact h.evvK st r hr
    · obtain rfl := List.mem_singleton.1 hr
      exact eva_k hevv st

set_option maxRecDepth 100000 in
set_option maxHeartbeats 1600000 in
theorem begin_any (X : Nat → Prop) (lo c : Nat) (R : ClR) (w : World) (h : ClM X lo w c R) (hm : R.rs.length ≤ 100000) (r : OpR) (now : Int) (hbev : EvA (fun k => R.mut c k ∨ X k) w r.bev r.o.b.events) (hevv : EvA (fun k => R.mut c k ∨ X k) w r.evv r.o.events)
    (r1 : OpR) (hr1 : r.begun ((R.rs.length : Int) + 1) now = r1) :
    Calls Tryd.prog 33 #[.pointer (some ⟨c, 0, none⟩), .agg #[.int .i64 r.o.kind, .int .i64 r.o.id, .int .i64 r.o.start, .int .i64 r.o.end_, .string r.o.b.stream, .int .i64 r.o.b.expect, .int .i64 r.o.b.session, .int .i64 r.o.b.seq, r.bev, .int .i64 r.o.out.code, .int .i64 r.o.out.pos, .int .i64 r.o.out.first, .int .i64 r.o.out.version, .string r.o.stream, .int .i64 r.o.from_, .int .i64 r.o.version, r.evv], .int .i64 now] w fun e w' =>
      ∃ v ov, e = .returned v ∧ ClM X lo w' c (((R.begun r1 ov).wait true).ask now) ∧ Step c R (((R.begun r1 ov).wait true).ask now) w w' ∧ OutsAt w.heap.size w' v [askO ((R.begun r1 ov).wait true) r1] := by
  obtain ⟨i0, hi0, hq0, hq1, hq2⟩ := info_parts Tryd.opinfo
  obtain ⟨oa, ok, hov⟩ := h.form
  have c2 := h.c2
  rw [hov] at c2
  have hc := h.clt
  have x1 : c ≠ w.heap.size := by omega
  have HH := Lib.hid h
  have HOV := Lib.hid hov
  have HR1 := Lib.hid hr1
  have HBE := Lib.hid hbev.plain
  have HEE := Lib.hid hevv.plain
  have HBV := Lib.hid (show EvA (fun k => R.mut c k ∨ X k) w r1.bev r1.o.b.events by rw [← hr1]; exact hbev)
  have HEV := Lib.hid (show EvA (fun k => R.mut c k ∨ X k) w r1.evv r1.o.events by rw [← hr1]; exact hevv)
  have i1 : (0 : Int) ≤ (R.rs.length : Int) := by omega
  have i2 : (R.rs.length : Int) ≤ 100000 := by omega
  clear h hov hr1 hbev hevv
  go_enter Tryd.func33, Tryd.ntmps33
  go_upto_region 2 with fail
  have hA0 : Below w.heap.size w (w.alloc (.cells #[.int .i64 r.o.kind, .int .i64 ((R.rs.length : Int) + 1), .int .i64 now, .int .i64 (-1), .string r.o.b.stream, .int .i64 r.o.b.expect, .int .i64 r.o.b.session, .int .i64 r.o.b.seq, r.bev, .int .i64 r.o.out.code, .int .i64 r.o.out.pos, .int .i64 r.o.out.first, .int .i64 r.o.out.version, .string r.o.stream, .int .i64 r.o.from_, .int .i64 r.o.version, r.evv] 56)) := (Below.refl _ _).alloc (Nat.le_refl _) _
  have hG0 := heap_alloc_new w (.cells #[.int .i64 r.o.kind, .int .i64 ((R.rs.length : Int) + 1), .int .i64 now, .int .i64 (-1), .string r.o.b.stream, .int .i64 r.o.b.expect, .int .i64 r.o.b.session, .int .i64 r.o.b.seq, r.bev, .int .i64 r.o.out.code, .int .i64 r.o.out.pos, .int .i64 r.o.out.first, .int .i64 r.o.out.version, .string r.o.stream, .int .i64 r.o.from_, .int .i64 r.o.version, r.evv] 56)
  have HM0 := Lib.hid (HH.out.keep hA0)
  have HB0 := Lib.hid hA0
  have G0 := Lib.hid hG0
  have hz0 : w.heap.size < (w.alloc (.cells #[.int .i64 r.o.kind, .int .i64 ((R.rs.length : Int) + 1), .int .i64 now, .int .i64 (-1), .string r.o.b.stream, .int .i64 r.o.b.expect, .int .i64 r.o.b.session, .int .i64 r.o.b.seq, r.bev, .int .i64 r.o.out.code, .int .i64 r.o.out.pos, .int .i64 r.o.out.first, .int .i64 r.o.out.version, .string r.o.stream, .int .i64 r.o.from_, .int .i64 r.o.version, r.evv] 56)).heap.size := (Array.getElem?_eq_some_iff.1 hG0).1
  clear hA0 hG0 c2
  generalize w.alloc (.cells #[.int .i64 r.o.kind, .int .i64 ((R.rs.length : Int) + 1), .int .i64 now, .int .i64 (-1), .string r.o.b.stream, .int .i64 r.o.b.expect, .int .i64 r.o.b.session, .int .i64 r.o.b.seq, r.bev, .int .i64 r.o.out.code, .int .i64 r.o.out.pos, .int .i64 r.o.out.first, .int .i64 r.o.out.version, .string r.o.stream, .int .i64 r.o.from_, .int .i64 r.o.version, r.evv] 56) = w0 at *
  have MKS := Lib.hid (fun (X' : World) (hg : X'.heap[w.heap.size]? = some (.cells #[.int .i64 r.o.kind, .int .i64 ((R.rs.length : Int) + 1), .int .i64 now, .int .i64 (-1), .string r.o.b.stream, .int .i64 r.o.b.expect, .int .i64 r.o.b.session, .int .i64 r.o.b.seq, r.bev, .int .i64 r.o.out.code, .int .i64 r.o.out.pos, .int .i64 r.o.out.first, .int .i64 r.o.out.version, .string r.o.stream, .int .i64 r.o.from_, .int .i64 r.o.version, r.evv] 56)) => (show X'.cell? ⟨w.heap.size, 0, none⟩ = some (.int .i64 r.o.kind) ∧ X'.cell? ⟨w.heap.size, 1, none⟩ = some (.int .i64 ((R.rs.length : Int) + 1)) ∧ X'.cell? ⟨w.heap.size, 2, none⟩ = some (.int .i64 now) ∧ X'.cell? ⟨w.heap.size, 3, none⟩ = some (.int .i64 (-1)) ∧ X'.cell? ⟨w.heap.size, 4, none⟩ = some (.string r.o.b.stream) ∧ X'.cell? ⟨w.heap.size, 5, none⟩ = some (.int .i64 r.o.b.expect) ∧ X'.cell? ⟨w.heap.size, 6, none⟩ = some (.int .i64 r.o.b.session) ∧ X'.cell? ⟨w.heap.size, 7, none⟩ = some (.int .i64 r.o.b.seq) ∧ X'.cell? ⟨w.heap.size, 8, none⟩ = some (r.bev) ∧ X'.cell? ⟨w.heap.size, 9, none⟩ = some (.int .i64 r.o.out.code) ∧ X'.cell? ⟨w.heap.size, 10, none⟩ = some (.int .i64 r.o.out.pos) ∧ X'.cell? ⟨w.heap.size, 11, none⟩ = some (.int .i64 r.o.out.first) ∧ X'.cell? ⟨w.heap.size, 12, none⟩ = some (.int .i64 r.o.out.version) ∧ X'.cell? ⟨w.heap.size, 13, none⟩ = some (.string r.o.stream) ∧ X'.cell? ⟨w.heap.size, 14, none⟩ = some (.int .i64 r.o.from_) ∧ X'.cell? ⟨w.heap.size, 15, none⟩ = some (.int .i64 r.o.version) ∧ X'.cell? ⟨w.heap.size, 16, none⟩ = some (r.evv) from ⟨by rw [Lib.cell_of_heap hg]; rfl, by rw [Lib.cell_of_heap hg]; rfl, by rw [Lib.cell_of_heap hg]; rfl, by rw [Lib.cell_of_heap hg]; rfl, by rw [Lib.cell_of_heap hg]; rfl, by rw [Lib.cell_of_heap hg]; rfl, by rw [Lib.cell_of_heap hg]; rfl, by rw [Lib.cell_of_heap hg]; rfl, by rw [Lib.cell_of_heap hg]; rfl, by rw [Lib.cell_of_heap hg]; rfl, by rw [Lib.cell_of_heap hg]; rfl, by rw [Lib.cell_of_heap hg]; rfl, by rw [Lib.cell_of_heap hg]; rfl, by rw [Lib.cell_of_heap hg]; rfl, by rw [Lib.cell_of_heap hg]; rfl, by rw [Lib.cell_of_heap hg]; rfl, by rw [Lib.cell_of_heap hg]; rfl⟩))
  go_cut [] (fun wx => ∃ ov, ClM X lo wx c (R.begun r1 ov) ∧ Step c R (R.begun r1 ov) w wx)
  case first =>
    have c2 := HM0.out.c2
    rw [HOV.out] at c2
    refine region_begin (S := fun X' => X'.cell? ⟨w.heap.size, 0, none⟩ = some (.int .i64 r.o.kind) ∧ X'.cell? ⟨w.heap.size, 1, none⟩ = some (.int .i64 ((R.rs.length : Int) + 1)) ∧ X'.cell? ⟨w.heap.size, 2, none⟩ = some (.int .i64 now) ∧ X'.cell? ⟨w.heap.size, 3, none⟩ = some (.int .i64 (-1)) ∧ X'.cell? ⟨w.heap.size, 4, none⟩ = some (.string r.o.b.stream) ∧ X'.cell? ⟨w.heap.size, 5, none⟩ = some (.int .i64 r.o.b.expect) ∧ X'.cell? ⟨w.heap.size, 6, none⟩ = some (.int .i64 r.o.b.session) ∧ X'.cell? ⟨w.heap.size, 7, none⟩ = some (.int .i64 r.o.b.seq) ∧ X'.cell? ⟨w.heap.size, 8, none⟩ = some (r.bev) ∧ X'.cell? ⟨w.heap.size, 9, none⟩ = some (.int .i64 r.o.out.code) ∧ X'.cell? ⟨w.heap.size, 10, none⟩ = some (.int .i64 r.o.out.pos) ∧ X'.cell? ⟨w.heap.size, 11, none⟩ = some (.int .i64 r.o.out.first) ∧ X'.cell? ⟨w.heap.size, 12, none⟩ = some (.int .i64 r.o.out.version) ∧ X'.cell? ⟨w.heap.size, 13, none⟩ = some (.string r.o.stream) ∧ X'.cell? ⟨w.heap.size, 14, none⟩ = some (.int .i64 r.o.from_) ∧ X'.cell? ⟨w.heap.size, 15, none⟩ = some (.int .i64 r.o.version) ∧ X'.cell? ⟨w.heap.size, 16, none⟩ = some (r.evv)) 11 rfl (by kernel_rfl) (MKS.out _ G0.out) (fun hH0 => ?_)
    refine wpAnyH_take (i := 0) (oi := ?op0) (v := ?vp0) ?hip0 (by kernel_rfl) (by kernel_rfl) (by kernel_rfl) ?hQp0 ?hyp0 hH0 ?_
    case hip0 => simp only [List.getElem?_toArray, List.getElem?_cons_zero]; rfl
    case hQp0 => exact fun _ _ _ h => h
    case hyp0 => refine Or.inl ⟨by rfl, ?_⟩; intro W hSw; (try dsimp only at hSw); go_simp; try with_reducible rfl
    simp only [Act.put, List.setIfInBounds_toArray, List.set_cons_zero, List.set_cons_succ]
    refine wpAnyH_take (i := 1) (oi := ?op1) (v := ?vp1) ?hip1 (by kernel_rfl) (by kernel_rfl) (by kernel_rfl) ?hQp1 ?hyp1 hH0 ?_
    case hip1 => simp only [List.getElem?_toArray, List.getElem?_cons_zero, List.getElem?_cons_succ]; rfl
    case hQp1 => exact fun _ _ _ h => h
    case hyp1 => refine Or.inl ⟨by rfl, ?_⟩; intro W hSw; (try dsimp only at hSw); go_simp; try with_reducible rfl
    simp only [Act.put, List.setIfInBounds_toArray, List.set_cons_zero, List.set_cons_succ]
    refine wpAnyH_take (i := 2) (oi := ?op2) (v := ?vp2) ?hip2 (by kernel_rfl) (by kernel_rfl) (by kernel_rfl) ?hQp2 ?hyp2 hH0 ?_
    case hip2 => simp only [List.getElem?_toArray, List.getElem?_cons_zero, List.getElem?_cons_succ]; rfl
    case hQp2 => exact fun _ _ _ h => h
    case hyp2 => refine Or.inl ⟨by rfl, ?_⟩; intro W hSw; (try dsimp only at hSw); go_simp; try with_reducible rfl
    simp only [Act.put, List.setIfInBounds_toArray, List.set_cons_zero, List.set_cons_succ]
    refine wpAnyH_take (i := 3) (oi := ?op3) (v := ?vp3) ?hip3 (by kernel_rfl) (by kernel_rfl) (by kernel_rfl) ?hQp3 ?hyp3 hH0 ?_
    case hip3 => simp only [List.getElem?_toArray, List.getElem?_cons_zero, List.getElem?_cons_succ]; rfl
    case hQp3 => exact fun _ _ _ h => h
    case hyp3 => refine Or.inl ⟨by rfl, ?_⟩; intro W hSw; (try dsimp only at hSw); go_simp; try with_reducible rfl
    simp only [Act.put, List.setIfInBounds_toArray, List.set_cons_zero, List.set_cons_succ]
    refine wpAnyH_take (i := 5) (oi := ?op5) (v := ?vp5) ?hip5 (by kernel_rfl) (by kernel_rfl) (by kernel_rfl) ?hQp5 ?hyp5 hH0 ?_
    case hip5 => simp only [List.getElem?_toArray, List.getElem?_cons_zero, List.getElem?_cons_succ]; rfl
    case hQp5 => exact fun _ _ _ h => h
    case hyp5 => refine Or.inl ⟨by rfl, ?_⟩; intro W hSw; (try dsimp only at hSw); go_simp; try with_reducible rfl
    simp only [Act.put, List.setIfInBounds_toArray, List.set_cons_zero, List.set_cons_succ]
    clear hH0
    have hd := (Below.refl w0.heap.size w0).drew
    have HMd := Lib.hid (HM0.out.keep hd)
    have HBd := Lib.hid (HB0.out.trans (hd.mono (Nat.le_of_lt hz0)))
    have Gd := Lib.hid ((hd.block _ hz0).trans G0.out)
    have hzd : w.heap.size < w0.drew.heap.size := Nat.lt_of_lt_of_le hz0 hd.size
    have c2d : w0.drew.cell? ⟨c, 2, none⟩ = some (.slice oa R.rs.length ok) := by rw [← HOV.out]; exact HMd.out.c2
    clear hd c2
    generalize w0.drew = wd at *
    refine wpAnyH_ready (rs := [4, 6]) (by kernel_rfl) (by simp) ?_
    refine AllReadyH.cons (o := ?oqa) ?hoqa (fun K' hK => ?_) (AllReadyH.cons (o := ?oqb) ?hoqb (fun K' hK => ?_) AllReadyH.nil)
    case hoqa => simp only [List.getElem?_toArray, List.getElem?_cons_zero, List.getElem?_cons_succ]; rfl
    case hoqb => simp only [List.getElem?_toArray, List.getElem?_cons_zero, List.getElem?_cons_succ]; rfl
    · go_simp
      refine hK.out _ _ (MKS.out _ Gd.out) (fun hH1 => ?_)
      clear hK K'
      (try simp only [Act.put, List.setIfInBounds_toArray, List.set_cons_zero, List.set_cons_succ])
      clear hH1 c2d
      refine wpAnyH_ready (rs := [6]) (by kernel_rfl) (by simp) ?_
      refine AllReadyH.cons (o := ?ow1) ?how1 (fun K' hK => ?_) AllReadyH.nil
      case how1 => simp only [List.getElem?_toArray, List.getElem?_cons_zero, List.getElem?_cons_succ]; rfl
      go_simp
      have hl := (Below.refl wd.heap.size wd).alloc (Nat.le_refl _) (.cells #[.int .i64 r.o.kind, .int .i64 ((R.rs.length : Int) + 1), .int .i64 now, .int .i64 (-1), .string r.o.b.stream, .int .i64 r.o.b.expect, .int .i64 r.o.b.session, .int .i64 r.o.b.seq, r.bev, .int .i64 r.o.out.code, .int .i64 r.o.out.pos, .int .i64 r.o.out.first, .int .i64 r.o.out.version, .string r.o.stream, .int .i64 r.o.from_, .int .i64 r.o.version, r.evv] 56)
      have hil := heap_alloc_new wd (.cells #[.int .i64 r.o.kind, .int .i64 ((R.rs.length : Int) + 1), .int .i64 now, .int .i64 (-1), .string r.o.b.stream, .int .i64 r.o.b.expect, .int .i64 r.o.b.session, .int .i64 r.o.b.seq, r.bev, .int .i64 r.o.out.code, .int .i64 r.o.out.pos, .int .i64 r.o.out.first, .int .i64 r.o.out.version, .string r.o.stream, .int .i64 r.o.from_, .int .i64 r.o.version, r.evv] 56)
      have HM1 := Lib.hid (HMd.out.keep hl)
      have HB1 := Lib.hid (HBd.out.trans (hl.mono (Nat.le_of_lt hzd)))
      have G1 := Lib.hid ((hl.block _ hzd).trans Gd.out)
      have hz1' : w.heap.size < (wd.alloc (.cells #[.int .i64 r.o.kind, .int .i64 ((R.rs.length : Int) + 1), .int .i64 now, .int .i64 (-1), .string r.o.b.stream, .int .i64 r.o.b.expect, .int .i64 r.o.b.session, .int .i64 r.o.b.seq, r.bev, .int .i64 r.o.out.code, .int .i64 r.o.out.pos, .int .i64 r.o.out.first, .int .i64 r.o.out.version, .string r.o.stream, .int .i64 r.o.from_, .int .i64 r.o.version, r.evv] 56)).heap.size := Nat.lt_of_lt_of_le hzd hl.size
      have HIL := Lib.hid hil
      clear hl hil
      refine hK.out _ _ (MKS.out _ G1.out) (fun hH2 => ?_)
      clear hK K'
      (try simp only [Act.put, List.setIfInBounds_toArray, List.set_cons_zero, List.set_cons_succ])
      clear hH2
      generalize wd.alloc (.cells #[.int .i64 r.o.kind, .int .i64 ((R.rs.length : Int) + 1), .int .i64 now, .int .i64 (-1), .string r.o.b.stream, .int .i64 r.o.b.expect, .int .i64 r.o.b.session, .int .i64 r.o.b.seq, r.bev, .int .i64 r.o.out.code, .int .i64 r.o.out.pos, .int .i64 r.o.out.first, .int .i64 r.o.out.version, .string r.o.stream, .int .i64 r.o.from_, .int .i64 r.o.version, r.evv] 56) = w1 at *
      refine wpAnyH_ready (rs := [7]) (by kernel_rfl) (by simp) ?_
      refine AllReadyH.cons (o := ?ox7) ?hox7 (fun K' hK => ?_) AllReadyH.nil
      case hox7 => simp only [List.getElem?_toArray, List.getElem?_cons_zero, List.getElem?_cons_succ]; rfl
      have hown1 : w1.ownsRow lo 56 17 (.slice oa R.rs.length ok) R.rs.length (ocells R.rs) := by rw [← HOV.out]; exact HM1.out.own
      refine step_append_lies _ (by rfl) _ _ _ (by rfl) lo 56 i0 _ 17 184 Tryd.underlying42 hi0 hq0 hq1 hq2 rfl (by omega) _ _ _ (by rfl) hown1 ⟨wd.heap.size, 0, none⟩ 1 1 r1.cells (by rfl) (by rfl) (by rw [← HR1.out]; exact World.news_of_block HIL.out) (fun u hu => ocells_plain (l := [r1]) (fun x hx => by obtain rfl := List.mem_singleton.1 hx; rw [← HR1.out]; exact ⟨HBE.out, HEE.out⟩) (by rw [ocells_one]; exact hu)) (by omega) (by unfold maxLen; omega) (by omega) (by have := HM1.out.clt; have := HM1.out.hlo; omega) _ rfl ?_
      intro gg cap2 w3 hown3 hgrow hat hlt3
      rw [show ocells R.rs ++ r1.cells = ocells (R.rs ++ [r1]) by rw [ocells_append, ocells_one], ← HOV.out] at *
      have hg3 : w3.heap[w.heap.size]? = some (.cells #[.int .i64 r.o.kind, .int .i64 ((R.rs.length : Int) + 1), .int .i64 now, .int .i64 (-1), .string r.o.b.stream, .int .i64 r.o.b.expect, .int .i64 r.o.b.session, .int .i64 r.o.b.seq, r.bev, .int .i64 r.o.out.code, .int .i64 r.o.out.pos, .int .i64 r.o.out.first, .int .i64 r.o.out.version, .string r.o.stream, .int .i64 r.o.from_, .int .i64 r.o.version, r.evv] 56) := (hgrow.block _ hz1' (fun e => by have := (HH.out.ownlo e.symm).2; omega)).trans G1.out
      have hap := HH.out.appended HB1.out hgrow hat (by simp) hown3 HBV.out HEV.out
      have hf3 : w3.frozen? ⟨c, 2, none⟩ = false := Lib.frozen_of_heap ((hgrow.block c (by have := HM1.out.clt; omega) (fun e => HH.out.ne e.symm)).trans HM1.out.blk) 2
      have hc3 : w3.cell? ⟨c, 2, none⟩ = some R.ov := by rw [Lib.cell_of_heap ((hgrow.block c (by have := HM1.out.clt; omega) (fun e => HH.out.ne e.symm)).trans HM1.out.blk)]; rfl
      have HG3 := Lib.hid hg3
      have HAP := Lib.hid hap
      clear hown3 hgrow hat hg3 hap hown1
      refine hK.out _ _ (MKS.out _ HG3.out) (fun hH3 => ?_)
      clear hK K'
      (try simp only [Act.put, List.setIfInBounds_toArray, List.set_cons_zero, List.set_cons_succ])
      refine wpAnyH_take (i := 8) (oi := ?ox8) (v := ?vx8) ?hix8 (by kernel_rfl) (by kernel_rfl) (by kernel_rfl) ?hQx8 ?hyx8 hH3 ?_
      case hix8 => simp only [List.getElem?_toArray, List.getElem?_cons_zero, List.getElem?_cons_succ]; rfl
      case hQx8 => exact fun _ _ _ h => h
      case hyx8 => refine Or.inl ⟨by rfl, ?_⟩; intro W hSw; (try dsimp only at hSw); go_simp; try with_reducible rfl
      simp only [Act.put, List.setIfInBounds_toArray, List.set_cons_zero, List.set_cons_succ]
      refine wpAnyH_take (i := 9) (oi := ?ox9) (v := ?vx9) ?hix9 (by kernel_rfl) (by kernel_rfl) (by kernel_rfl) ?hQx9 ?hyx9 hH3 ?_
      case hix9 => simp only [List.getElem?_toArray, List.getElem?_cons_zero, List.getElem?_cons_succ]; rfl
      case hQx9 => exact fun _ _ _ h => h
      case hyx9 => refine Or.inl ⟨by rfl, ?_⟩; intro W hSw; (try dsimp only at hSw); go_simp; try with_reducible rfl
      simp only [Act.put, List.setIfInBounds_toArray, List.set_cons_zero, List.set_cons_succ]
      clear hH3
      refine wpAnyH_ready (rs := [10]) (by kernel_rfl) (by simp) ?_
      refine AllReadyH.cons (o := ?oxs) ?hoxs (fun K' hK => ?_) AllReadyH.nil
      case hoxs => simp only [List.getElem?_toArray, List.getElem?_cons_zero, List.getElem?_cons_succ]; rfl
      go_simp
      refine hK.out _ _ (MKS.out _ (by rw [Below.heap_setCell _ _ _ _ (by simp only; omega)]; exact HG3.out)) (fun hH4 => ?_)
      clear hK K'
      (try simp only [Act.put, List.setIfInBounds_toArray, List.set_cons_zero, List.set_cons_succ])
      clear hH4
      refine wpAnyH_done (by kernel_rfl) ?_ _
      go_wp2
      go_meet
      case rel => exact ⟨_, HAP.out⟩
    · go_simp
      have hl := (Below.refl wd.heap.size wd).alloc (Nat.le_refl _) (.cells #[.int .i64 r.o.kind, .int .i64 ((R.rs.length : Int) + 1), .int .i64 now, .int .i64 (-1), .string r.o.b.stream, .int .i64 r.o.b.expect, .int .i64 r.o.b.session, .int .i64 r.o.b.seq, r.bev, .int .i64 r.o.out.code, .int .i64 r.o.out.pos, .int .i64 r.o.out.first, .int .i64 r.o.out.version, .string r.o.stream, .int .i64 r.o.from_, .int .i64 r.o.version, r.evv] 56)
      have hil := heap_alloc_new wd (.cells #[.int .i64 r.o.kind, .int .i64 ((R.rs.length : Int) + 1), .int .i64 now, .int .i64 (-1), .string r.o.b.stream, .int .i64 r.o.b.expect, .int .i64 r.o.b.session, .int .i64 r.o.b.seq, r.bev, .int .i64 r.o.out.code, .int .i64 r.o.out.pos, .int .i64 r.o.out.first, .int .i64 r.o.out.version, .string r.o.stream, .int .i64 r.o.from_, .int .i64 r.o.version, r.evv] 56)
      have HM1 := Lib.hid (HMd.out.keep hl)
      have HB1 := Lib.hid (HBd.out.trans (hl.mono (Nat.le_of_lt hzd)))
      have G1 := Lib.hid ((hl.block _ hzd).trans Gd.out)
      have hz1' : w.heap.size < (wd.alloc (.cells #[.int .i64 r.o.kind, .int .i64 ((R.rs.length : Int) + 1), .int .i64 now, .int .i64 (-1), .string r.o.b.stream, .int .i64 r.o.b.expect, .int .i64 r.o.b.session, .int .i64 r.o.b.seq, r.bev, .int .i64 r.o.out.code, .int .i64 r.o.out.pos, .int .i64 r.o.out.first, .int .i64 r.o.out.version, .string r.o.stream, .int .i64 r.o.from_, .int .i64 r.o.version, r.evv] 56)).heap.size := Nat.lt_of_lt_of_le hzd hl.size
      have HIL := Lib.hid hil
      clear hl hil
      refine hK.out _ _ (MKS.out _ G1.out) (fun hH2 => ?_)
      clear hK K'
      (try simp only [Act.put, List.setIfInBounds_toArray, List.set_cons_zero, List.set_cons_succ])
      clear hH2
      have c2e : (wd.alloc (.cells #[.int .i64 r.o.kind, .int .i64 ((R.rs.length : Int) + 1), .int .i64 now, .int .i64 (-1), .string r.o.b.stream, .int .i64 r.o.b.expect, .int .i64 r.o.b.session, .int .i64 r.o.b.seq, r.bev, .int .i64 r.o.out.code, .int .i64 r.o.out.pos, .int .i64 r.o.out.first, .int .i64 r.o.out.version, .string r.o.stream, .int .i64 r.o.from_, .int .i64 r.o.version, r.evv] 56)).cell? ⟨c, 2, none⟩ = some (.slice oa R.rs.length ok) := by rw [← HOV.out]; exact HM1.out.c2
      clear c2d
      refine wpAnyH_ready (rs := [4]) (by kernel_rfl) (by simp) ?_
      refine AllReadyH.cons (o := ?ow2) ?how2 (fun K' hK => ?_) AllReadyH.nil
      case how2 => simp only [List.getElem?_toArray, List.getElem?_cons_zero, List.getElem?_cons_succ]; rfl
      go_simp
      refine hK.out _ _ (MKS.out _ G1.out) (fun hH1 => ?_)
      clear hK K'
      (try simp only [Act.put, List.setIfInBounds_toArray, List.set_cons_zero, List.set_cons_succ])
      clear hH1 c2e
      generalize wd.alloc (.cells #[.int .i64 r.o.kind, .int .i64 ((R.rs.length : Int) + 1), .int .i64 now, .int .i64 (-1), .string r.o.b.stream, .int .i64 r.o.b.expect, .int .i64 r.o.b.session, .int .i64 r.o.b.seq, r.bev, .int .i64 r.o.out.code, .int .i64 r.o.out.pos, .int .i64 r.o.out.first, .int .i64 r.o.out.version, .string r.o.stream, .int .i64 r.o.from_, .int .i64 r.o.version, r.evv] 56) = w1 at *
      refine wpAnyH_ready (rs := [7]) (by kernel_rfl) (by simp) ?_
      refine AllReadyH.cons (o := ?oy7) ?hoy7 (fun K' hK => ?_) AllReadyH.nil
      case hoy7 => simp only [List.getElem?_toArray, List.getElem?_cons_zero, List.getElem?_cons_succ]; rfl
      have hown1 : w1.ownsRow lo 56 17 (.slice oa R.rs.length ok) R.rs.length (ocells R.rs) := by rw [← HOV.out]; exact HM1.out.own
      refine step_append_lies _ (by rfl) _ _ _ (by rfl) lo 56 i0 _ 17 184 Tryd.underlying42 hi0 hq0 hq1 hq2 rfl (by omega) _ _ _ (by rfl) hown1 ⟨wd.heap.size, 0, none⟩ 1 1 r1.cells (by rfl) (by rfl) (by rw [← HR1.out]; exact World.news_of_block HIL.out) (fun u hu => ocells_plain (l := [r1]) (fun x hx => by obtain rfl := List.mem_singleton.1 hx; rw [← HR1.out]; exact ⟨HBE.out, HEE.out⟩) (by rw [ocells_one]; exact hu)) (by omega) (by unfold maxLen; omega) (by omega) (by have := HM1.out.clt; have := HM1.out.hlo; omega) _ rfl ?_
      intro gg cap2 w3 hown3 hgrow hat hlt3
      rw [show ocells R.rs ++ r1.cells = ocells (R.rs ++ [r1]) by rw [ocells_append, ocells_one], ← HOV.out] at *
      have hg3 : w3.heap[w.heap.size]? = some (.cells #[.int .i64 r.o.kind, .int .i64 ((R.rs.length : Int) + 1), .int .i64 now, .int .i64 (-1), .string r.o.b.stream, .int .i64 r.o.b.expect, .int .i64 r.o.b.session, .int .i64 r.o.b.seq, r.bev, .int .i64 r.o.out.code, .int .i64 r.o.out.pos, .int .i64 r.o.out.first, .int .i64 r.o.out.version, .string r.o.stream, .int .i64 r.o.from_, .int .i64 r.o.version, r.evv] 56) := (hgrow.block _ hz1' (fun e => by have := (HH.out.ownlo e.symm).2; omega)).trans G1.out
      have hap := HH.out.appended HB1.out hgrow hat (by simp) hown3 HBV.out HEV.out
      have hf3 : w3.frozen? ⟨c, 2, none⟩ = false := Lib.frozen_of_heap ((hgrow.block c (by have := HM1.out.clt; omega) (fun e => HH.out.ne e.symm)).trans HM1.out.blk) 2
      have hc3 : w3.cell? ⟨c, 2, none⟩ = some R.ov := by rw [Lib.cell_of_heap ((hgrow.block c (by have := HM1.out.clt; omega) (fun e => HH.out.ne e.symm)).trans HM1.out.blk)]; rfl
      have HG3 := Lib.hid hg3
      have HAP := Lib.hid hap
      clear hown3 hgrow hat hg3 hap hown1
      refine hK.out _ _ (MKS.out _ HG3.out) (fun hH3 => ?_)
      clear hK K'
      (try simp only [Act.put, List.setIfInBounds_toArray, List.set_cons_zero, List.set_cons_succ])
      refine wpAnyH_take (i := 8) (oi := ?oy8) (v := ?vy8) ?hiy8 (by kernel_rfl) (by kernel_rfl) (by kernel_rfl) ?hQy8 ?hyy8 hH3 ?_
      case hiy8 => simp only [List.getElem?_toArray, List.getElem?_cons_zero, List.getElem?_cons_succ]; rfl
      case hQy8 => exact fun _ _ _ h => h
      case hyy8 => refine Or.inl ⟨by rfl, ?_⟩; intro W hSw; (try dsimp only at hSw); go_simp; try with_reducible rfl
      simp only [Act.put, List.setIfInBounds_toArray, List.set_cons_zero, List.set_cons_succ]
      refine wpAnyH_take (i := 9) (oi := ?oy9) (v := ?vy9) ?hiy9 (by kernel_rfl) (by kernel_rfl) (by kernel_rfl) ?hQy9 ?hyy9 hH3 ?_
      case hiy9 => simp only [List.getElem?_toArray, List.getElem?_cons_zero, List.getElem?_cons_succ]; rfl
      case hQy9 => exact fun _ _ _ h => h
      case hyy9 => refine Or.inl ⟨by rfl, ?_⟩; intro W hSw; (try dsimp only at hSw); go_simp; try with_reducible rfl
      simp only [Act.put, List.setIfInBounds_toArray, List.set_cons_zero, List.set_cons_succ]
      clear hH3
      refine wpAnyH_ready (rs := [10]) (by kernel_rfl) (by simp) ?_
      refine AllReadyH.cons (o := ?oys) ?hoys (fun K' hK => ?_) AllReadyH.nil
      case hoys => simp only [List.getElem?_toArray, List.getElem?_cons_zero, List.getElem?_cons_succ]; rfl
      go_simp
      refine hK.out _ _ (MKS.out _ (by rw [Below.heap_setCell _ _ _ _ (by simp only; omega)]; exact HG3.out)) (fun hH4 => ?_)
      clear hK K'
      (try simp only [Act.put, List.setIfInBounds_toArray, List.set_cons_zero, List.set_cons_succ])
      clear hH4
      refine wpAnyH_done (by kernel_rfl) ?_ _
      go_wp2
      go_meet
      case rel => exact ⟨_, HAP.out⟩
  case rest =>
    obtain ⟨ov, hm1, hs1⟩ := hcut
    obtain ⟨Rb, hRb⟩ : ∃ Rb, R.begun r1 ov = Rb := ⟨_, rfl⟩
    have hrs : (Rb.wait true).rs = R.rs ++ [r1] := by rw [← hRb]; rfl
    rw [hRb] at hm1 hs1
    have hm2 : ClM X lo (wc.setCell ⟨c, 3, none⟩ (.bool true)) c (Rb.wait true) := hm1.put 3 (.bool true) { Rb.s with pending := true } rfl rfl hm1.wh rfl
    have hs2 : Step c R (Rb.wait true) w (wc.setCell ⟨c, 3, none⟩ (.bool true)) := hs1.trans (ClM.putStep c Rb wc 3 _ _)
    have c3 := hm1.c3
    have f3 := hm1.fr 3
    have HM2 := Lib.hid hm2
    have HS2 := Lib.hid hs2
    have CA := Lib.hid (ask_any X lo c (Rb.wait true) _ hm2 R.rs r1 hrs (by omega) now _ rfl)
    have HRB := Lib.hid hRb
    clear hm1 hs1 hm2 hs2 hrs hRb
    go_wp2_with fail
    refine CA.out.mono ?_
    rintro e z ⟨rfl, hm3, hs3⟩
    have HM3 := Lib.hid hm3
    have HS3 := Lib.hid (HS2.out.trans hs3)
    clear hm3 hs3
    obtain ⟨o, ho⟩ : ∃ o, askO (Rb.wait true) r1 = o := ⟨_, rfl⟩
    rw [ho]
    have HO := Lib.hid ho
    clear ho
    simp only [OutR.val]
    go_wp2_with fail
    go_ret
    refine ⟨_, ov, rfl, ?_⟩
    rw [HRB.out, HO.out]
    have hb := (Below.refl z.heap.size z).alloc (Nat.le_refl _) (.cells #[.int .i64 o.dst, o.m.val] 50)
    exact ⟨HM3.out.keep hb, HS3.out.trans (step_below hb rfl), .inr ⟨z.heap.size, rfl, HS3.out.kept.size, heap_alloc_new _ _⟩⟩
end Go.Proofs.YtapgjjfndbfnpaaDoor
