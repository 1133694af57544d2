/-
  The walk of bucketlinelaw22.small. Printed by gen_clismall2.py of this claim's writer.
-/
import Derived.Test.YtapgjjfndbfnpaaDoorCliSmall
namespace Go.Proofs.YtapgjjfndbfnpaaDoor
open Go.RowKit
set_option linter.unusedSimpArgs false
set_option linter.unusedVariables false

structure SmallAc (a : AcW) : Prop where
  b : a.b.events.length ≤ 20
  e : a.events.length ≤ 20
  v : Vw.SmallV a.v
  lb : LightB a.b
  le : ∀ x ∈ a.events, LightE x
  st : a.stream.size ≤ 300
def SmallL (l : List AcR) : Prop := l.length ≤ 60 ∧ ∀ i, (h : i < l.length) → SmallAc l[i].a
theorem AcR.Ok.forms {B : Nat} {w : World} {r : AcR} (h : r.Ok B w) : ∃ ba bk ca ck sa sk oa ok ea ek, r = ⟨r.a, .slice ba r.a.b.events.length bk, .slice ca r.a.v.chain.length ck, .slice sa r.a.v.since.length sk, .slice oa r.a.v.boot.length ok, .slice ea r.a.events.length ek⟩ := by
  obtain ⟨ba, bk, e1⟩ := h.bev.form
  obtain ⟨ca, ck, e2⟩ := h.cv.form
  obtain ⟨sa, sk, e3⟩ := h.sv.form
  obtain ⟨oa, ok, e4⟩ := h.bv.form
  obtain ⟨ea, ek, e5⟩ := h.evv.form
  exact ⟨ba, bk, ca, ck, sa, sk, oa, ok, ea, ek, by cases r; simp only at e1 e2 e3 e4 e5; subst e1 e2 e3 e4 e5; rfl⟩

set_option maxRecDepth 100000 in
set_option maxHeartbeats 1600000 in
theorem small22_any (B : Nat) (v : Value) (l : List AcR) (w : World) (h : IsActs B w v l) (hB : B ≤ w.heap.size) :
    Calls Tryd.prog 8 #[v] w (SomeB (SmallL l) w) := by
  have HL := Lib.hid h
  obtain ⟨la, lk, rfl⟩ := h.form
  have hmax : l.length ≤ 9223372036854775807 := by obtain ⟨_, _, he, h1, h2, _⟩ := h; unfold maxLen at h2; omega
  clear h
  by_cases h60 : l.length ≤ 60
  · have g0 : ¬ (60 : Int) < (l.length : Int) := by omega
    go_enter Tryd.func8, Tryd.ntmps8
    go_wp2_with fail
    go_loopw [2, 3, 4, 5] (fun _ t3 _ _ wr => ∃ k : Nat, k ≤ l.length ∧ t3 = .int .i64 k ∧ (∀ i, (h : i < l.length) → i < k → SmallAc l[i].a) ∧ Below w.heap.size w wr) (fun _ t3 _ _ _ => l.length - (intOf t3).toNat)
    case atStart => exact ⟨0, Nat.zero_le _, rfl, fun i _ h => absurd h (by omega), Below.refl _ _⟩
    case round =>
      obtain ⟨k, hk, rfl, hno, hb⟩ := hrel
      have HNO := Lib.hid hno
      have HB := Lib.hid hb
      clear hno hb
      by_cases hlt : k < l.length
      · obtain ⟨b, off, cap', he, hblk, hrg⟩ := (HL.out.keep HB.out hB).range k hlt
        have hok := (HL.out.keep HB.out hB).ok k hlt
        obtain ⟨rfl, -, rfl⟩ : la = some ⟨b, off, none⟩ ∧ l.length = l.length ∧ lk = cap' := by injection he with e1 e2 e3; exact ⟨e1, e2, e3⟩
        clear he
        obtain ⟨r, hr⟩ : ∃ r, l[k] = r := ⟨_, rfl⟩
        rw [hr] at hrg hok
        obtain ⟨ba, bk, ca, ck, sa, sk, oa, ok, ea, ek, hform⟩ := hok.forms
        have hpl := hok.plain
        have hev : IsEvents B wr (.slice ba r.a.b.events.length bk) r.a.b.events := by have := hok.bev; rw [hform] at this; exact this
        have hee : IsEvents B wr (.slice ea r.a.events.length ek) r.a.events := by have := hok.evv; rw [hform] at this; exact this
        obtain ⟨cs, hcs⟩ : ∃ cs, r.cells = cs := ⟨_, rfl⟩
        have hlen : cs.length = 19 := by rw [← hcs]; rfl
        have HCS := Lib.hid (show cs = [.int .i64 r.a.op, .int .i64 r.a.n, .int .i64 r.a.m, .string r.a.b.stream, .int .i64 r.a.b.expect, .int .i64 r.a.b.session, .int .i64 r.a.b.seq, .slice ba r.a.b.events.length bk, .string r.a.stream, .int .i64 r.a.from_, .int .i64 r.a.v.epoch, .slice ca r.a.v.chain.length ck, .slice sa r.a.v.since.length sk, .slice oa r.a.v.boot.length ok, .int .i64 r.a.out.code, .int .i64 r.a.out.pos, .int .i64 r.a.out.first, .int .i64 r.a.out.version, .slice ea r.a.events.length ek] from hcs.symm.trans ((congrArg AcR.cells hform).trans rfl))
        rw [hcs] at hrg hpl
        have HLEN := Lib.hid hlen
        have HRG := Lib.hid hrg
        have HPL := Lib.hid hpl
        have HR := Lib.hid hr
        have i1 : (0 : Int) ≤ (k : Int) := by omega
        have i2 : (k : Int) < (l.length : Int) := by omega
        have HA := Lib.hid ((Below.refl wr.heap.size wr).alloc (Nat.le_refl _) (.cells cs.toArray 33))
        have G := Lib.hid (heap_alloc_new wr (.cells cs.toArray 33))
        have hBr : B ≤ wr.heap.size := Nat.le_trans hB HB.out.size
        have HBA := Lib.hid (HB.out.trans (HA.out.mono HB.out.size))
        have HEV := Lib.hid (hev.keep HA.out hBr)
        have HEE := Lib.hid (hee.keep HA.out hBr)
        clear hok hform hr hev hee hrg hpl hcs hlen
        have hst : (storeCells ⟨wr.heap.size, 0, none⟩ cs).run Tryd.prog (wr.alloc (.cells #[.int .i64 0, .int .i64 0, .int .i64 0, .string ⟨#[]⟩, .int .i64 0, .int .i64 0, .int .i64 0, .slice none 0 0, .string ⟨#[]⟩, .int .i64 0, .int .i64 0, .slice none 0 0, .slice none 0 0, .slice none 0 0, .int .i64 0, .int .i64 0, .int .i64 0, .int .i64 0, .slice none 0 0] 33)) = .ok () (wr.alloc (.cells cs.toArray 33)) := run_storeCells_new wr 33 #[.int .i64 0, .int .i64 0, .int .i64 0, .string ⟨#[]⟩, .int .i64 0, .int .i64 0, .int .i64 0, .slice none 0 0, .string ⟨#[]⟩, .int .i64 0, .int .i64 0, .slice none 0 0, .slice none 0 0, .slice none 0 0, .int .i64 0, .int .i64 0, .int .i64 0, .int .i64 0, .slice none 0 0] cs.toArray (by rw [List.size_toArray, HLEN.out]; exact actsize) (by rw [show cs.toArray.size = 19 from HLEN.out]; rfl) HPL.out
        have hls : cs.length = 19 := HLEN.out
        go_upto_region 7 with (refine wpList_load_mid rfl 33 _ rfl b (off + k * 19) (by rfl) cs _ HRG.out Tryd.underlying33 rfl (by rw [HLEN.out]; exact actsize) ?_)
        clear hst hls
        generalize wr.alloc (.cells cs.toArray 33) = wa at *
        have hza : wr.heap.size < wa.heap.size := (Array.getElem?_eq_some_iff.1 G.out).1
        have y3 : wa.cell? ⟨wr.heap.size, 3, none⟩ = some (.string r.a.b.stream) := by rw [Lib.cell_of_heap G.out, HCS.out]; rfl
        have y4 : wa.cell? ⟨wr.heap.size, 4, none⟩ = some (.int .i64 r.a.b.expect) := by rw [Lib.cell_of_heap G.out, HCS.out]; rfl
        have y5 : wa.cell? ⟨wr.heap.size, 5, none⟩ = some (.int .i64 r.a.b.session) := by rw [Lib.cell_of_heap G.out, HCS.out]; rfl
        have y6 : wa.cell? ⟨wr.heap.size, 6, none⟩ = some (.int .i64 r.a.b.seq) := by rw [Lib.cell_of_heap G.out, HCS.out]; rfl
        have y7 : wa.cell? ⟨wr.heap.size, 7, none⟩ = some (.slice ba r.a.b.events.length bk) := by rw [Lib.cell_of_heap G.out, HCS.out]; rfl
        have y18 : wa.cell? ⟨wr.heap.size, 18, none⟩ = some (.slice ea r.a.events.length ek) := by rw [Lib.cell_of_heap G.out, HCS.out]; rfl
        have HA2 := Lib.hid ((Below.refl wa.heap.size wa).alloc (Nat.le_refl _) (.cells #[.int .i64 0, .int .i64 0, .string r.a.b.stream, .int .i64 r.a.b.expect, .int .i64 r.a.b.session, .int .i64 r.a.b.seq, .slice ba r.a.b.events.length bk, .int .i64 0, .int .i64 0, .string ⟨#[]⟩, .int .i64 0, .int .i64 0, .int .i64 0, .slice ea r.a.events.length ek] 91))
        have hes : IsEnts (wa.alloc (.cells #[.int .i64 0, .int .i64 0, .string r.a.b.stream, .int .i64 r.a.b.expect, .int .i64 r.a.b.session, .int .i64 r.a.b.seq, .slice ba r.a.b.events.length bk, .int .i64 0, .int .i64 0, .string ⟨#[]⟩, .int .i64 0, .int .i64 0, .int .i64 0, .slice ea r.a.events.length ek] 91)).heap.size (wa.alloc (.cells #[.int .i64 0, .int .i64 0, .string r.a.b.stream, .int .i64 r.a.b.expect, .int .i64 r.a.b.session, .int .i64 r.a.b.seq, .slice ba r.a.b.events.length bk, .int .i64 0, .int .i64 0, .string ⟨#[]⟩, .int .i64 0, .int .i64 0, .int .i64 0, .slice ea r.a.events.length ek] 91)) wa.heap.size [(r.a.b, .slice ba r.a.b.events.length bk), (⟨⟨#[]⟩, 0, 0, 0, r.a.events⟩, .slice ea r.a.events.length ek)] := by
          have G2 := heap_alloc_new wa (.cells #[.int .i64 0, .int .i64 0, .string r.a.b.stream, .int .i64 r.a.b.expect, .int .i64 r.a.b.session, .int .i64 r.a.b.seq, .slice ba r.a.b.events.length bk, .int .i64 0, .int .i64 0, .string ⟨#[]⟩, .int .i64 0, .int .i64 0, .int .i64 0, .slice ea r.a.events.length ek] 91)
          have hB2 : B ≤ wa.heap.size := by omega
          refine ⟨by rw [World.size_alloc]; omega, fun i hi => ?_⟩
          rcases (show i = 0 ∨ i = 1 by simp at hi; omega) with rfl | rfl
          · exact ⟨by rw [Lib.cell_of_heap G2]; rfl, by rw [Lib.cell_of_heap G2]; rfl, by rw [Lib.cell_of_heap G2]; rfl, by rw [Lib.cell_of_heap G2]; rfl, by rw [Lib.cell_of_heap G2]; rfl, (HEV.out.keep HA2.out hB2).up (by rw [World.size_alloc]; omega)⟩
          · exact ⟨by rw [Lib.cell_of_heap G2]; rfl, by rw [Lib.cell_of_heap G2]; rfl, by rw [Lib.cell_of_heap G2]; rfl, by rw [Lib.cell_of_heap G2]; rfl, by rw [Lib.cell_of_heap G2]; rfl, (HEE.out.keep HA2.out hB2).up (by rw [World.size_alloc]; omega)⟩
        have CF := Lib.hid (fits22_any wa.heap.size 2 _ _ hes (by simp))
        have HBB := Lib.hid (HBA.out.trans (HA2.out.mono HBA.out.size))
        clear hes
        go_wp2_with fail
        refine CF.out.mono ?_
        rintro e w5 ⟨q, rfl, hq, hb5⟩
        have HB5 := Lib.hid (HBB.out.trans (hb5.mono HBB.out.size))
        have G5 := Lib.hid ((hb5.block _ (by rw [World.size_alloc]; omega)).trans ((HA2.out.block _ hza).trans G.out))
        have HQ := Lib.hid hq
        clear hb5 hq y3 y4 y5 y6 y7 y18
        have z8 : w5.cell? ⟨wr.heap.size, 8, none⟩ = some (.string r.a.stream) := by rw [Lib.cell_of_heap G5.out, HCS.out]; rfl
        have z11 : w5.cell? ⟨wr.heap.size, 11, none⟩ = some (.slice ca r.a.v.chain.length ck) := by rw [Lib.cell_of_heap G5.out, HCS.out]; rfl
        have z12 : w5.cell? ⟨wr.heap.size, 12, none⟩ = some (.slice sa r.a.v.since.length sk) := by rw [Lib.cell_of_heap G5.out, HCS.out]; rfl
        have z13 : w5.cell? ⟨wr.heap.size, 13, none⟩ = some (.slice oa r.a.v.boot.length ok) := by rw [Lib.cell_of_heap G5.out, HCS.out]; rfl
        cases q with
        | false =>
          go_wp2_with fail
          go_ret
          exact ⟨false, rfl, (fun e => by cases e), HB5.out⟩
        | true =>
          by_cases q1 : (300 : Int) < (r.a.stream.size : Int)
          · go_wp2_with fail
            go_ret
            exact ⟨false, rfl, (fun e => by cases e), HB5.out⟩
          · by_cases q2 : (20 : Int) < (r.a.v.chain.length : Int)
            · go_wp2_with fail
              go_ret
              exact ⟨false, rfl, (fun e => by cases e), HB5.out⟩
            · by_cases q3 : (20 : Int) < (r.a.v.since.length : Int)
              · go_wp2_with fail
                go_ret
                exact ⟨false, rfl, (fun e => by cases e), HB5.out⟩
              · by_cases q4 : (20 : Int) < (r.a.v.boot.length : Int)
                · go_wp2_with fail
                  go_ret
                  exact ⟨false, rfl, (fun e => by cases e), HB5.out⟩
                · go_wp2_with fail
                  go_roundw
                  case rel =>
                    refine ⟨k + 1, by omega, by go_num, fun i hi hik => ?_, HB5.out⟩
                    by_cases e : i = k
                    · subst e
                      rw [HR.out]
                      have h20 := HQ.out (by trivial)
                      exact ⟨(h20 0 (by simp)).n, (h20 1 (by simp)).n, by unfold Vw.SmallV; omega, h20 0 (by simp), (h20 1 (by simp)).e, by omega⟩
                    · exact HNO.out i hi (by omega)
                  case measure => simp [intOf]; omega
      · have g : ¬ ((k : Int) < (l.length : Int)) := by omega
        go_wp2_with fail
        go_ret
        exact ⟨true, rfl, fun _ => ⟨h60, fun i hi => HNO.out i hi (by omega)⟩, HB.out⟩
  · have g0 : (60 : Int) < (l.length : Int) := by omega
    go_enter Tryd.func8, Tryd.ntmps8
    go_wp2_with fail
    go_ret
    exact ⟨false, rfl, (fun e => by cases e), Below.refl _ _⟩
end Go.Proofs.YtapgjjfndbfnpaaDoor
