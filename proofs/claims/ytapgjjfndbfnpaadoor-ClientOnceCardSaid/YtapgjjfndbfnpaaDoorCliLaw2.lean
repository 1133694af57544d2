/-
  The walk of bucketlinelaw22.ClientOnce. Printed by gen_clionce.py of this claim's writer.
-/
import Derived.Test.YtapgjjfndbfnpaaDoorCliOnce
import Derived.Test.YtapgjjfndbfnpaaDoorCliShown
import Derived.Test.YtapgjjfndbfnpaaDoorCliSmall2
import Derived.Test.YtapgjjfndbfnpaaDoorCliRead
import Derived.Deep.CutBlock
import Derived.Deep.CutRange
import Derived.Deep.LoopGhost
import Derived.BigQuiet
import Derived.IntWalk
namespace Go.Proofs.YtapgjjfndbfnpaaDoor
open Go.RowKit
set_option linter.unusedSimpArgs false
set_option linter.unusedVariables false

theorem triple_of {A B C : Type} (x : A × B × C) : ∃ a b c, x = (a, b, c) := ⟨x.1, x.2.1, x.2.2, rfl⟩
theorem pair_of {A B : Type} (x : A × B) : ∃ a b, x = (a, b) := ⟨x.1, x.2, rfl⟩
theorem opsize : (Tryd.prog.info? 56).map (·.size) = some 17 := by kernel_rfl
theorem own_step {X : Nat → Prop} {lo c base n sz : Nat} {e : TypeId} {v : Value} {xs : List Value} {w0 w w' : World} {R R' : ClR} (h : w.ownsRow base e sz v n xs) (hm : ClM X lo w0 c R) (hb : w0.heap.size ≤ base) (st : Step c R R' w w') : w'.ownsRow base e sz v n xs := by
  refine ⟨h.1, ?_⟩
  rcases h.2 with h2 | ⟨g, cap, cur, e1, e2, e3, r⟩
  · exact .inl h2
  · refine .inr ⟨g, cap, cur, e1, e2, (st.kept.block g (Array.getElem?_eq_some_iff.1 e3).1 (fun hu => ?_)).trans e3, r⟩
    have := (hm.mutlo g hu).2
    omega
/-- The cells of a row of ops. -/
theorem row_at {w : World} {base : Nat} {v : Value} {rs : List OpR} (h : w.ownsRow base 56 17 v rs.length (ocells rs)) (hp : 0 < rs.length) : ∃ g cap, v = .slice (some ⟨g, 0, none⟩) rs.length cap ∧ base ≤ g ∧ g < w.heap.size ∧ ∀ i, (hi : i < rs.length) → ∀ j, j < 17 → w.cell? ⟨g, i * 17 + j, none⟩ = rs[i].cells[j]? := by
  rcases h.2 with ⟨_, e⟩ | ⟨g, cap, cur, e, hb, hg, r1, r2, r3, r4⟩
  · omega
  · exact ⟨g, cap, e, hb, (Array.getElem?_eq_some_iff.1 hg).1, fun i hi j hj => row_cell hg r4 i j hi hj rfl⟩
theorem row_form {w : World} {base n sz : Nat} {e : TypeId} {v : Value} {xs : List Value} (h : w.ownsRow base e sz v n xs) : ∃ a cap, v = .slice a n cap := by
  rcases h.2 with ⟨e1, e2⟩ | ⟨g, cap, cur, e1, _⟩
  · exact ⟨none, 0, by rw [e1, e2]⟩
  · exact ⟨_, cap, e1⟩

set_option maxRecDepth 100000 in
set_option maxHeartbeats 64000000 in
theorem walkClientOnce (v0 : Value) (w : World) (hT : Tabs w) (hv : ∃ l, IsActs w.heap.size w v0 l) :
    Calls Tryd.prog 4 #[v0] w fun e w' => e = .returned (.bool true) ∧ Below w.heap.size w w' := by
  obtain ⟨l, hl⟩ := hv
  have HL := Lib.hid hl
  have HT := Lib.hid hT
  obtain ⟨la, lk, rfl⟩ := hl.form
  have hmax : l.length ≤ 9223372036854775807 := by obtain ⟨_, _, he, h1, h2, _⟩ := hl; unfold maxLen at h2; omega
  have HSH := Lib.hid (shown22_any w hT)
  clear hl hT
  go_enter Tryd.func4, Tryd.ntmps4
  go_wp2_with fail
  refine HSH.out.mono ?_
  rintro e wA ⟨rfl, hbA⟩
  have HBA := Lib.hid hbA
  have CS := Lib.hid (small22_any w.heap.size _ l wA (HL.out.keep hbA (Nat.le_refl _)) hbA.size)
  clear hbA
  go_wp2_with fail
  refine CS.out.mono ?_
  rintro e wB ⟨q, rfl, hq, hbB⟩
  have HBB := Lib.hid (HBA.out.trans (hbB.mono HBA.out.size))
  have HQ := Lib.hid hq
  have CN := Lib.hid (new_ok 9 5 (by decide) wB)
  have HMN := Lib.hid (newR_is (fun _ => False) w.heap.size wB 9 5 HBB.out.size (fun k hk => hk.elim))
  have HBN := Lib.hid (HBB.out.alloc HBB.out.size (.cells (newR 9 5).cells 94))
  clear hbB hq
  cases q with
  | false =>
    go_wp2_with fail
    refine CN.out.mono ?_
    rintro e wC ⟨rfl, rfl⟩
    go_wp2_with fail
    go_ret
    exact ⟨rfl, HBN.out⟩
  | true =>
    have hsm := HQ.out (by trivial)
    have h60 := hsm.1
    have HSM := Lib.hid hsm.2
    clear hsm
    go_wp2_with fail
    refine CN.out.mono ?_
    rintro e wC ⟨rfl, rfl⟩
    generalize wB.alloc (.cells (newR 9 5).cells 94) = ws at *
    generalize hc0 : wB.heap.size = c at *
    clear hc0
    go_wp2_with fail
    go_loopw [7, 8] (fun t7 t8 wr => ∃ (k : Nat) (now : Int) (R : ClR), k ≤ l.length ∧ t8 = .int .i64 k ∧ t7 = .int .i64 now ∧ InvO R.s now ∧ now ≤ 3 * k ∧ R.rs.length ≤ k ∧ ClM (fun _ => False) w.heap.size wr c R ∧ Below w.heap.size w wr) (fun _ t8 _ => l.length - (intOf t8).toNat)
    case atStart => exact ⟨0, 0, newR 9 5, Nat.zero_le _, rfl, rfl, inv_new, by omega, by simp [newR], HMN.out, HBN.out⟩
    case round =>
      obtain ⟨k, now, R, hk, rfl, rfl, hinv, hnow, hrs, hcm, hbw⟩ := hrel
      have hn0 := hinv.n0
      have HINV := Lib.hid hinv
      have HCM := Lib.hid hcm
      have HBW := Lib.hid hbw
      have HCLT := Lib.hid hcm.clt
      have hwz : w.heap.size ≤ wr.heap.size := hbw.size
      clear hinv hcm hbw
      by_cases hlt : k < l.length
      · obtain ⟨b, off, cap', he, hblk, hrg⟩ := (HL.out.keep HBW.out (Nat.le_refl _)).range k hlt
        have hok := (HL.out.keep HBW.out (Nat.le_refl _)).ok k hlt
        obtain ⟨rfl, -, rfl⟩ : la = some ⟨b, off, none⟩ ∧ l.length = l.length ∧ lk = cap' := by injection he with e1 e2 e3; exact ⟨e1, e2, e3⟩
        clear he
        have hsa := HSM.out k hlt
        obtain ⟨r, hr⟩ : ∃ r, l[k] = r := ⟨_, rfl⟩
        rw [hr] at hrg hok hsa
        obtain ⟨ba, bk, ca, ck, sa, sk, oa, ok, ea, ek, hform⟩ := hok.forms
        have hpl := hok.plain
        have HOK := Lib.hid (show (⟨r.a, .slice ba r.a.b.events.length bk, .slice ca r.a.v.chain.length ck, .slice sa r.a.v.since.length sk, .slice oa r.a.v.boot.length ok, .slice ea r.a.events.length ek⟩ : AcR).Ok w.heap.size wr by rw [← hform]; exact hok)
        obtain ⟨cs, hcs⟩ : ∃ cs, r.cells = cs := ⟨_, rfl⟩
        have hlen : cs.length = 19 := by rw [← hcs]; rfl
        have HCS := Lib.hid (show cs = [.int .i64 r.a.op, .int .i64 r.a.n, .int .i64 r.a.m, .string r.a.b.stream, .int .i64 r.a.b.expect, .int .i64 r.a.b.session, .int .i64 r.a.b.seq, .slice ba r.a.b.events.length bk, .string r.a.stream, .int .i64 r.a.from_, .int .i64 r.a.v.epoch, .slice ca r.a.v.chain.length ck, .slice sa r.a.v.since.length sk, .slice oa r.a.v.boot.length ok, .int .i64 r.a.out.code, .int .i64 r.a.out.pos, .int .i64 r.a.out.first, .int .i64 r.a.out.version, .slice ea r.a.events.length ek] from hcs.symm.trans ((congrArg AcR.cells hform).trans rfl))
        rw [hcs] at hrg hpl
        have HLEN := Lib.hid hlen
        have HRG := Lib.hid hrg
        have HPL := Lib.hid hpl
        have HSA := Lib.hid hsa
        obtain ⟨pm, hpm⟩ : ∃ pm : Int, ((pickT r.a.m 3 : Nat) : Int) = pm := ⟨_, rfl⟩
        have hpm0 : 0 ≤ pm := by rw [← hpm]; omega
        have hpm3 : pm < 3 := by rw [← hpm]; have := pick_lt r.a.m 3 (by omega); omega
        obtain ⟨ci, hci⟩ : ∃ ci : Int, ((pickT r.a.op 10 : Nat) : Int) = ci := ⟨_, rfl⟩
        have hc10 : ci = 0 ∨ ci = 1 ∨ ci = 2 ∨ ci = 3 ∨ ci = 4 ∨ ci = 5 ∨ ci = 6 ∨ ci = 7 ∨ ci = 8 ∨ ci = 9 := by
          have := pick_lt r.a.op 10 (by omega)
          omega
        have CP3 := Lib.hid (fun (X' : World) => (show Calls Tryd.prog 14 #[.int .i64 r.a.m, .int .i64 3] X' fun r w' => r = .returned (.int .i64 pm) ∧ X' = w' by have h := pick_any r.a.m hok.m 3 (by omega) (by omega) X'; rw [hpm] at h; exact h))
        have CPO := Lib.hid (fun (X' : World) => (show Calls Tryd.prog 14 #[.int .i64 r.a.op, .int .i64 10] X' fun r w' => r = .returned (.int .i64 ci) ∧ X' = w' by have h := pick_any r.a.op hok.op 10 (by omega) (by omega) X'; rw [hci] at h; exact h))
        have i1 : (0 : Int) ≤ (k : Int) := by omega
        have i2 : (k : Int) < (l.length : Int) := by omega
        have hk180 : (k : Int) ≤ 60 := by omega
        have hA1 := (Below.refl wr.heap.size wr).alloc (Nat.le_refl _) (.cells cs.toArray 33)
        have G1 := Lib.hid (heap_alloc_new wr (.cells cs.toArray 33))
        have hA1b := hA1
        have HM1 := Lib.hid (HCM.out.keep hA1)
        have HB1 := Lib.hid (HBW.out.trans (hA1.mono HBW.out.size))
        have hst : (storeCells ⟨wr.heap.size, 0, none⟩ cs).run Tryd.prog (wr.alloc (.cells #[.int .i64 0, .int .i64 0, .int .i64 0, .string ⟨#[]⟩, .int .i64 0, .int .i64 0, .int .i64 0, .slice none 0 0, .string ⟨#[]⟩, .int .i64 0, .int .i64 0, .slice none 0 0, .slice none 0 0, .slice none 0 0, .int .i64 0, .int .i64 0, .int .i64 0, .int .i64 0, .slice none 0 0] 33)) = .ok () (wr.alloc (.cells cs.toArray 33)) := run_storeCells_new wr 33 #[.int .i64 0, .int .i64 0, .int .i64 0, .string ⟨#[]⟩, .int .i64 0, .int .i64 0, .int .i64 0, .slice none 0 0, .string ⟨#[]⟩, .int .i64 0, .int .i64 0, .slice none 0 0, .slice none 0 0, .slice none 0 0, .int .i64 0, .int .i64 0, .int .i64 0, .int .i64 0, .slice none 0 0] cs.toArray (by rw [List.size_toArray, HLEN.out]; exact actsize) (by rw [show cs.toArray.size = 19 from HLEN.out]; rfl) HPL.out
        have hls : cs.length = 19 := HLEN.out
        clear hrg hok hsa hform hpl hcs hlen hr hpm hci hA1 hblk
        go_upto_region 11 with (refine wpList_load_mid rfl 33 _ rfl b (off + k * 19) (by rfl) cs _ HRG.out Tryd.underlying33 rfl (by rw [HLEN.out]; exact actsize) ?_)
        clear hst hls
        have HWA := Lib.hid hA1b
        clear hA1b
        generalize wr.alloc (.cells cs.toArray 33) = wa at *
        have hza : wr.heap.size < wa.heap.size := (Array.getElem?_eq_some_iff.1 G1.out).1
        generalize hqq : wr.heap.size = q at *
        have HQM := Lib.hid (show ¬ R.mut c q from fun hu => by have := (HCM.out.mutlo q hu).2; omega)
        clear hqq
        have y2 : wa.cell? ⟨q, 2, none⟩ = some (.int .i64 r.a.m) := by rw [Lib.cell_of_heap G1.out, HCS.out]; rfl
        go_wp2_with fail
        refine (CP3.out _).mono ?_
        rintro e wa' ⟨rfl, rfl⟩
        have CO1 := Lib.hid (ops_any (fun _ => False) w.heap.size c R wa HM1.out (by omega))
        go_wp2_with fail
        refine CO1.out.mono ?_
        rintro e w3 ⟨vw, rfl, how, hb3⟩
        obtain ⟨wb, wk, rfl⟩ := row_form how
        have HM3 := Lib.hid (HM1.out.keep hb3)
        have HB3 := Lib.hid (HB1.out.trans (hb3.mono HB1.out.size))
        have G3 := Lib.hid ((hb3.block q hza).trans G1.out)
        have HOW3 := Lib.hid how
        have hz3 : q < w3.heap.size := Nat.lt_of_lt_of_le hza hb3.size
        have y0 : w3.cell? ⟨q, 0, none⟩ = some (.int .i64 r.a.op) := by rw [Lib.cell_of_heap G3.out, HCS.out]; rfl
        have HW3 := Lib.hid (hb3.mono (Nat.le_of_lt hza))
        clear hb3 how y2
        go_wp2_with fail
        refine (CPO.out _).mono ?_
        rintro e w3' ⟨rfl, rfl⟩
        clear y0
        go_upto_block 2 with fail
        go_cut [] from 40 (fun wx => ∃ R', ClM (fun _ => False) w.heap.size wx c R' ∧ R'.s = onceS R.s r.a (now + pm) ci ∧ Step c R R' w3 wx)
        case first =>
          rcases hc10 with rfl | rfl | rfl | rfl | rfl | rfl | rfl | rfl | rfl | rfl
          · as_aux_lemma =>
              have y3 : w3.cell? ⟨q, 3, none⟩ = some (.string r.a.b.stream) := by rw [Lib.cell_of_heap G3.out, HCS.out]; rfl
              have y4 : w3.cell? ⟨q, 4, none⟩ = some (.int .i64 r.a.b.expect) := by rw [Lib.cell_of_heap G3.out, HCS.out]; rfl
              have y7 : w3.cell? ⟨q, 7, none⟩ = some (.slice ba r.a.b.events.length bk) := by rw [Lib.cell_of_heap G3.out, HCS.out]; rfl
              obtain ⟨s2, outs2, err2, hap⟩ := triple_of (appendS R.s r.a.b.stream r.a.b.expect r.a.b.events (now + pm))
              have HAP := Lib.hid hap
              have hev := (HOK.out.bev.keep (B' := q) (Below.trans HWA.out HW3.out) hwz).up (show w.heap.size ≤ w3.heap.size from HB3.out.size)
              have CA := Lib.hid (append_any (fun _ => False) w.heap.size c R w3 HM3.out (by omega) (tabs_below HT.out HB3.out) r.a.b.stream r.a.b.expect _ r.a.b.events hev (by have := HSA.out.b; omega) (now + pm) s2 outs2 err2 hap)
              clear hev hap
              go_wp2_with fail
              refine CA.out.mono ?_
              rintro e w4 ⟨v, rfl, R', outs, hs', hm', st', -⟩
              have HS' := Lib.hid hs'
              have HM' := Lib.hid hm'
              have ST' := Lib.hid st'
              clear hs' hm' st'
              go_wp2_with fail
              go_meet
              case rel => exact ⟨R', HM'.out, by rw [onceS, if_pos (.inl rfl), HAP.out]; exact HS'.out, ST'.out⟩
          · as_aux_lemma =>
              have y3 : w3.cell? ⟨q, 3, none⟩ = some (.string r.a.b.stream) := by rw [Lib.cell_of_heap G3.out, HCS.out]; rfl
              have y4 : w3.cell? ⟨q, 4, none⟩ = some (.int .i64 r.a.b.expect) := by rw [Lib.cell_of_heap G3.out, HCS.out]; rfl
              have y7 : w3.cell? ⟨q, 7, none⟩ = some (.slice ba r.a.b.events.length bk) := by rw [Lib.cell_of_heap G3.out, HCS.out]; rfl
              obtain ⟨s2, outs2, err2, hap⟩ := triple_of (appendS R.s r.a.b.stream r.a.b.expect r.a.b.events (now + pm))
              have HAP := Lib.hid hap
              have hev := (HOK.out.bev.keep (B' := q) (Below.trans HWA.out HW3.out) hwz).up (show w.heap.size ≤ w3.heap.size from HB3.out.size)
              have CA := Lib.hid (append_any (fun _ => False) w.heap.size c R w3 HM3.out (by omega) (tabs_below HT.out HB3.out) r.a.b.stream r.a.b.expect _ r.a.b.events hev (by have := HSA.out.b; omega) (now + pm) s2 outs2 err2 hap)
              clear hev hap
              go_wp2_with fail
              refine CA.out.mono ?_
              rintro e w4 ⟨v, rfl, R', outs, hs', hm', st', -⟩
              have HS' := Lib.hid hs'
              have HM' := Lib.hid hm'
              have ST' := Lib.hid st'
              clear hs' hm' st'
              go_wp2_with fail
              go_meet
              case rel => exact ⟨R', HM'.out, by rw [onceS, if_pos (.inr (.inl rfl)), HAP.out]; exact HS'.out, ST'.out⟩
          · as_aux_lemma =>
              have y3 : w3.cell? ⟨q, 3, none⟩ = some (.string r.a.b.stream) := by rw [Lib.cell_of_heap G3.out, HCS.out]; rfl
              have y4 : w3.cell? ⟨q, 4, none⟩ = some (.int .i64 r.a.b.expect) := by rw [Lib.cell_of_heap G3.out, HCS.out]; rfl
              have y7 : w3.cell? ⟨q, 7, none⟩ = some (.slice ba r.a.b.events.length bk) := by rw [Lib.cell_of_heap G3.out, HCS.out]; rfl
              obtain ⟨s2, outs2, err2, hap⟩ := triple_of (appendS R.s r.a.b.stream r.a.b.expect r.a.b.events (now + pm))
              have HAP := Lib.hid hap
              have hev := (HOK.out.bev.keep (B' := q) (Below.trans HWA.out HW3.out) hwz).up (show w.heap.size ≤ w3.heap.size from HB3.out.size)
              have CA := Lib.hid (append_any (fun _ => False) w.heap.size c R w3 HM3.out (by omega) (tabs_below HT.out HB3.out) r.a.b.stream r.a.b.expect _ r.a.b.events hev (by have := HSA.out.b; omega) (now + pm) s2 outs2 err2 hap)
              clear hev hap
              go_wp2_with fail
              refine CA.out.mono ?_
              rintro e w4 ⟨v, rfl, R', outs, hs', hm', st', -⟩
              have HS' := Lib.hid hs'
              have HM' := Lib.hid hm'
              have ST' := Lib.hid st'
              clear hs' hm' st'
              go_wp2_with fail
              go_meet
              case rel => exact ⟨R', HM'.out, by rw [onceS, if_pos (.inr (.inr rfl)), HAP.out]; exact HS'.out, ST'.out⟩
          · as_aux_lemma =>
              have y1 : w3.cell? ⟨q, 1, none⟩ = some (.int .i64 r.a.n) := by rw [Lib.cell_of_heap G3.out, HCS.out]; rfl
              have y8 : w3.cell? ⟨q, 8, none⟩ = some (.string r.a.stream) := by rw [Lib.cell_of_heap G3.out, HCS.out]; rfl
              have y9 : w3.cell? ⟨q, 9, none⟩ = some (.int .i64 r.a.from_) := by rw [Lib.cell_of_heap G3.out, HCS.out]; rfl
              obtain ⟨s2, outs2, err2, hap⟩ := triple_of (readS R.s r.a.stream r.a.from_ r.a.n (now + pm))
              have HAP := Lib.hid hap
              have CA := Lib.hid (read_any (fun _ => False) w.heap.size c R w3 HM3.out (by omega) (tabs_below HT.out HB3.out) r.a.stream r.a.from_ r.a.n (now + pm) HOK.out.n s2 outs2 err2 hap)
              clear hap
              go_wp2_with fail
              refine CA.out.mono ?_
              rintro e w4 ⟨v, rfl, R', outs, hs', hm', st', -⟩
              have HS' := Lib.hid hs'
              have HM' := Lib.hid hm'
              have ST' := Lib.hid st'
              clear hs' hm' st'
              go_wp2_with fail
              go_meet
              case rel => exact ⟨R', HM'.out, by rw [onceS, if_neg (by decide), if_pos (.inl rfl), HAP.out]; exact HS'.out, ST'.out⟩
          · as_aux_lemma =>
              have y1 : w3.cell? ⟨q, 1, none⟩ = some (.int .i64 r.a.n) := by rw [Lib.cell_of_heap G3.out, HCS.out]; rfl
              have y8 : w3.cell? ⟨q, 8, none⟩ = some (.string r.a.stream) := by rw [Lib.cell_of_heap G3.out, HCS.out]; rfl
              have y9 : w3.cell? ⟨q, 9, none⟩ = some (.int .i64 r.a.from_) := by rw [Lib.cell_of_heap G3.out, HCS.out]; rfl
              obtain ⟨s2, outs2, err2, hap⟩ := triple_of (readS R.s r.a.stream r.a.from_ r.a.n (now + pm))
              have HAP := Lib.hid hap
              have CA := Lib.hid (read_any (fun _ => False) w.heap.size c R w3 HM3.out (by omega) (tabs_below HT.out HB3.out) r.a.stream r.a.from_ r.a.n (now + pm) HOK.out.n s2 outs2 err2 hap)
              clear hap
              go_wp2_with fail
              refine CA.out.mono ?_
              rintro e w4 ⟨v, rfl, R', outs, hs', hm', st', -⟩
              have HS' := Lib.hid hs'
              have HM' := Lib.hid hm'
              have ST' := Lib.hid st'
              clear hs' hm' st'
              go_wp2_with fail
              go_meet
              case rel => exact ⟨R', HM'.out, by rw [onceS, if_neg (by decide), if_pos (.inr rfl), HAP.out]; exact HS'.out, ST'.out⟩
          · as_aux_lemma =>
              have y10 : w3.cell? ⟨q, 10, none⟩ = some (.int .i64 r.a.v.epoch) := by rw [Lib.cell_of_heap G3.out, HCS.out]; rfl
              have y11 : w3.cell? ⟨q, 11, none⟩ = some (.slice ca r.a.v.chain.length ck) := by rw [Lib.cell_of_heap G3.out, HCS.out]; rfl
              have y12 : w3.cell? ⟨q, 12, none⟩ = some (.slice sa r.a.v.since.length sk) := by rw [Lib.cell_of_heap G3.out, HCS.out]; rfl
              have y13 : w3.cell? ⟨q, 13, none⟩ = some (.slice oa r.a.v.boot.length ok) := by rw [Lib.cell_of_heap G3.out, HCS.out]; rfl
              obtain ⟨s2, outs2, hap⟩ := pair_of (seeS R.s r.a.v (now + pm))
              have HAP := Lib.hid hap
              have hkv : Vw.IsView w.heap.size wr (.agg #[.int .i64 r.a.v.epoch, .slice ca r.a.v.chain.length ck, .slice sa r.a.v.since.length sk, .slice oa r.a.v.boot.length ok]) r.a.v := ⟨HOK.out.ep, _, _, _, rfl, HOK.out.cv, HOK.out.sv, HOK.out.bv⟩
              have hiv := (hkv.keep (B' := q) (Below.trans HWA.out HW3.out) hwz).up (show w.heap.size ≤ w3.heap.size from HB3.out.size)
              have CA := Lib.hid (take_see (fun _ => False) w.heap.size c R w3 HM3.out (by omega) _ r.a.v hiv HSA.out.v (now + pm) (fun e => HINV.out.some e) s2 outs2 hap)
              clear hkv hiv hap
              go_wp2_with fail
              refine CA.out.mono ?_
              rintro e w4 ⟨v, rfl, R', outs, hs', hm', st', -⟩
              have HS' := Lib.hid hs'
              have HM' := Lib.hid hm'
              have ST' := Lib.hid st'
              clear hs' hm' st'
              go_wp2_with fail
              go_meet
              case rel => exact ⟨R', HM'.out, by rw [onceS, if_neg (by decide), if_neg (by decide), if_pos rfl, HAP.out]; exact HS'.out, ST'.out⟩
          · as_aux_lemma =>
              have MKS := Lib.hid (fun (X' : World) (hg : X'.heap[q]? = some (.cells cs.toArray 33)) => (show X'.cell? ⟨q, 1, none⟩ = some (.int .i64 r.a.n) ∧ X'.cell? ⟨q, 14, none⟩ = some (.int .i64 r.a.out.code) ∧ X'.cell? ⟨q, 15, none⟩ = some (.int .i64 r.a.out.pos) ∧ X'.cell? ⟨q, 16, none⟩ = some (.int .i64 r.a.out.first) ∧ X'.cell? ⟨q, 17, none⟩ = some (.int .i64 r.a.out.version) from ⟨by rw [Lib.cell_of_heap hg, HCS.out]; rfl, by rw [Lib.cell_of_heap hg, HCS.out]; rfl, by rw [Lib.cell_of_heap hg, HCS.out]; rfl, by rw [Lib.cell_of_heap hg, HCS.out]; rfl, by rw [Lib.cell_of_heap hg, HCS.out]; rfl⟩))
              obtain ⟨idv, hid⟩ : ∃ x : Int, ((pickT r.a.n (R.rs.length + 2) : Nat) : Int) = x := ⟨_, rfl⟩
              have HID := Lib.hid hid
              have CPN := Lib.hid (fun (X' : World) => (show Calls Tryd.prog 14 #[.int .i64 r.a.n, .int .i64 ((R.rs.length : Int) + 2)] X' fun r w' => r = .returned (.int .i64 idv) ∧ X' = w' by
                have h := pick_any r.a.n HOK.out.n (R.rs.length + 2) (by omega) (by omega) X'
                rw [hid, show ((R.rs.length + 2 : Nat) : Int) = (R.rs.length : Int) + 2 by omega] at h
                exact h))
              have iw : IntKind.i64.wrap ((R.rs.length : Int) + 2) = (R.rs.length : Int) + 2 := by rw [IntKind.wrap_i64]; omega
              clear hid
              go_wp2_with fail
              refine region_begin (S := fun X' => X'.cell? ⟨q, 1, none⟩ = some (.int .i64 r.a.n) ∧ X'.cell? ⟨q, 14, none⟩ = some (.int .i64 r.a.out.code) ∧ X'.cell? ⟨q, 15, none⟩ = some (.int .i64 r.a.out.pos) ∧ X'.cell? ⟨q, 16, none⟩ = some (.int .i64 r.a.out.first) ∧ X'.cell? ⟨q, 17, none⟩ = some (.int .i64 r.a.out.version)) 13 rfl (by kernel_rfl) (MKS.out _ (show w3.drew.heap[q]? = _ from G3.out)) (fun hH0 => ?_)
              refine wpAnyH_take (i := 0) (oi := ?ot60) (v := ?vt60) ?hit60 (by kernel_rfl) (by kernel_rfl) (by kernel_rfl) ?hQt60 ?hyt60 hH0 ?_
              case hit60 => simp only [List.getElem?_toArray, List.getElem?_cons_zero]; rfl
              case hQt60 => exact fun _ _ _ h => h
              case hyt60 => refine Or.inl ⟨by rfl, ?_⟩; intro W hSw; (try dsimp only at hSw); go_simp; try with_reducible rfl
              simp only [Act.put, List.setIfInBounds_toArray, List.set_cons_zero, List.set_cons_succ]
              refine wpAnyH_take (i := 1) (oi := ?ot61) (v := ?vt61) ?hit61 (by kernel_rfl) (by kernel_rfl) (by kernel_rfl) ?hQt61 ?hyt61 hH0 ?_
              case hit61 => simp only [List.getElem?_toArray, List.getElem?_cons_zero, List.getElem?_cons_succ]; rfl
              case hQt61 => exact fun _ _ _ h => h
              case hyt61 => refine Or.inl ⟨by rfl, ?_⟩; intro W hSw; (try dsimp only at hSw); go_simp; try with_reducible rfl
              simp only [Act.put, List.setIfInBounds_toArray, List.set_cons_zero, List.set_cons_succ]
              refine wpAnyH_take (i := 2) (oi := ?ot62) (v := ?vt62) ?hit62 (by kernel_rfl) (by kernel_rfl) (by kernel_rfl) ?hQt62 ?hyt62 hH0 ?_
              case hit62 => simp only [List.getElem?_toArray, List.getElem?_cons_zero, List.getElem?_cons_succ]; rfl
              case hQt62 => exact fun _ _ _ h => h
              case hyt62 => refine Or.inl ⟨by rfl, ?_⟩; intro W hSw; (try dsimp only at hSw); go_simp; try with_reducible rfl
              simp only [Act.put, List.setIfInBounds_toArray, List.set_cons_zero, List.set_cons_succ]
              refine wpAnyH_take (i := 3) (oi := ?ot63) (v := ?vt63) ?hit63 (by kernel_rfl) (by kernel_rfl) (by kernel_rfl) ?hQt63 ?hyt63 hH0 ?_
              case hit63 => simp only [List.getElem?_toArray, List.getElem?_cons_zero, List.getElem?_cons_succ]; rfl
              case hQt63 => exact fun _ _ _ h => h
              case hyt63 => refine Or.inl ⟨by rfl, ?_⟩; intro W hSw; (try dsimp only at hSw); go_simp; try with_reducible rfl
              simp only [Act.put, List.setIfInBounds_toArray, List.set_cons_zero, List.set_cons_succ]
              refine wpAnyH_take (i := 4) (oi := ?ot64) (v := ?vt64) ?hit64 (by kernel_rfl) (by kernel_rfl) (by kernel_rfl) ?hQt64 ?hyt64 hH0 ?_
              case hit64 => simp only [List.getElem?_toArray, List.getElem?_cons_zero, List.getElem?_cons_succ]; rfl
              case hQt64 => exact fun _ _ _ h => h
              case hyt64 => refine Or.inl ⟨by rfl, ?_⟩; intro W hSw; (try dsimp only at hSw); go_simp; try with_reducible rfl
              simp only [Act.put, List.setIfInBounds_toArray, List.set_cons_zero, List.set_cons_succ]
              refine wpAnyH_take (i := 5) (oi := ?ot65) (v := ?vt65) ?hit65 (by kernel_rfl) (by kernel_rfl) (by kernel_rfl) ?hQt65 ?hyt65 hH0 ?_
              case hit65 => simp only [List.getElem?_toArray, List.getElem?_cons_zero, List.getElem?_cons_succ]; rfl
              case hQt65 => exact fun _ _ _ h => h
              case hyt65 => refine Or.inl ⟨by rfl, ?_⟩; intro W hSw; (try dsimp only at hSw); go_simp; try with_reducible rfl
              simp only [Act.put, List.setIfInBounds_toArray, List.set_cons_zero, List.set_cons_succ]
              refine wpAnyH_take (i := 7) (oi := ?ot67) (v := ?vt67) ?hit67 (by kernel_rfl) (by kernel_rfl) (by kernel_rfl) ?hQt67 ?hyt67 hH0 ?_
              case hit67 => simp only [List.getElem?_toArray, List.getElem?_cons_zero, List.getElem?_cons_succ]; rfl
              case hQt67 => exact fun _ _ _ h => h
              case hyt67 => refine Or.inl ⟨by rfl, ?_⟩; intro W hSw; (try dsimp only at hSw); go_simp; try with_reducible rfl
              simp only [Act.put, List.setIfInBounds_toArray, List.set_cons_zero, List.set_cons_succ]
              refine wpAnyH_take (i := 8) (oi := ?ot68) (v := ?vt68) ?hit68 (by kernel_rfl) (by kernel_rfl) (by kernel_rfl) ?hQt68 ?hyt68 hH0 ?_
              case hit68 => simp only [List.getElem?_toArray, List.getElem?_cons_zero, List.getElem?_cons_succ]; rfl
              case hQt68 => exact fun _ _ _ h => h
              case hyt68 => refine Or.inl ⟨by rfl, ?_⟩; intro W hSw; (try dsimp only at hSw); go_simp; try with_reducible rfl
              simp only [Act.put, List.setIfInBounds_toArray, List.set_cons_zero, List.set_cons_succ]
              refine wpAnyH_take (i := 11) (oi := ?ot611) (v := ?vt611) ?hit611 (by kernel_rfl) (by kernel_rfl) (by kernel_rfl) ?hQt611 ?hyt611 hH0 ?_
              case hit611 => simp only [List.getElem?_toArray, List.getElem?_cons_zero, List.getElem?_cons_succ]; rfl
              case hQt611 => exact fun _ _ _ h => h
              case hyt611 => refine Or.inl ⟨by rfl, ?_⟩; intro W hSw; (try dsimp only at hSw); go_simp; try with_reducible rfl
              simp only [Act.put, List.setIfInBounds_toArray, List.set_cons_zero, List.set_cons_succ]
              clear hH0 iw
              have hd := (Below.refl w3.heap.size w3).drew
              have HMd := Lib.hid (HM3.out.keep hd)
              have HSd := Lib.hid (step_below (c := c) hd (rfl : R.ov = R.ov))
              have Gd := Lib.hid (show w3.drew.heap[q]? = _ from G3.out)
              have HBd := Lib.hid (HB3.out.trans (hd.mono HB3.out.size))
              have hzd : q < w3.drew.heap.size := hz3
              have HWd := Lib.hid (HW3.out.trans (hd.mono (Nat.le_of_lt hz3)))
              clear hd
              generalize w3.drew = wd at *
              refine wpAnyH_ready (rs := [6]) (by kernel_rfl) (by simp) ?_
              refine AllReadyH.cons (o := ?ot66) ?hot66 (fun K' hK => ?_) AllReadyH.nil
              case hot66 => simp only [List.getElem?_toArray, List.getElem?_cons_zero, List.getElem?_cons_succ]; rfl
              go_simp
              refine (CPN.out _).mono ?_
              rintro e wd' ⟨rfl, rfl⟩
              refine hK.out _ _ (MKS.out _ Gd.out) (fun hH1 => ?_)
              clear hK K'
              (try simp only [Act.put, List.setIfInBounds_toArray, List.set_cons_zero, List.set_cons_succ])
              refine wpAnyH_take (i := 9) (oi := ?ot69) (v := ?vt69) ?hit69 (by kernel_rfl) (by kernel_rfl) (by kernel_rfl) ?hQt69 ?hyt69 hH1 ?_
              case hit69 => simp only [List.getElem?_toArray, List.getElem?_cons_zero, List.getElem?_cons_succ]; rfl
              case hQt69 => exact fun _ _ _ h => h
              case hyt69 => refine Or.inl ⟨by rfl, ?_⟩; intro W hSw; (try dsimp only at hSw); go_simp; try with_reducible rfl
              simp only [Act.put, List.setIfInBounds_toArray, List.set_cons_zero, List.set_cons_succ]
              refine wpAnyH_take (i := 10) (oi := ?ot610) (v := ?vt610) ?hit610 (by kernel_rfl) (by kernel_rfl) (by kernel_rfl) ?hQt610 ?hyt610 hH1 ?_
              case hit610 => simp only [List.getElem?_toArray, List.getElem?_cons_zero, List.getElem?_cons_succ]; rfl
              case hQt610 => exact fun _ _ _ h => h
              case hyt610 => refine Or.inl ⟨by rfl, ?_⟩; intro W hSw; (try dsimp only at hSw); go_simp; try with_reducible rfl
              simp only [Act.put, List.setIfInBounds_toArray, List.set_cons_zero, List.set_cons_succ]
              clear hH1
              obtain ⟨s2, outs2, hap⟩ := pair_of (answerS R.s 1 idv 0 (now + pm) (fun o => { o with out := r.a.out }))
              have HAP := Lib.hid hap
              have CA := Lib.hid (take_reply (fun _ => False) w.heap.size c R wd HMd.out (by omega) 1 (by decide) (by decide) idv 0 r.a.out (now + pm) (fun e => HINV.out.some e) s2 outs2 hap)
              clear hap
              refine wpAnyH_ready (rs := [12]) (by kernel_rfl) (by simp) ?_
              refine AllReadyH.cons (o := ?ot612) ?hot612 (fun K' hK => ?_) AllReadyH.nil
              case hot612 => simp only [List.getElem?_toArray, List.getElem?_cons_zero, List.getElem?_cons_succ]; rfl
              go_simp
              refine CA.out.mono ?_
              rintro e w4 ⟨v, rfl, R', outs, hs', hm', st', -⟩
              have HS' := Lib.hid hs'
              have HM' := Lib.hid hm'
              have ST' := Lib.hid (HSd.out.trans st')
              have G4 := Lib.hid ((st'.kept.block q hzd (fun hu => HQM.out hu)).trans Gd.out)
              clear hs' hm' st'
              refine hK.out _ _ (MKS.out _ G4.out) (fun hH2 => ?_)
              clear hK K'
              (try simp only [Act.put, List.setIfInBounds_toArray, List.set_cons_zero, List.set_cons_succ])
              clear hH2
              refine wpAnyH_done (by kernel_rfl) ?_ _
              go_wp2_with fail
              go_meet
              case rel => exact ⟨R', HM'.out, by rw [onceS, if_neg (by decide), if_neg (by decide), if_neg (by decide), if_pos rfl, ← HCM.out.len, HID.out, HAP.out]; exact HS'.out, ST'.out⟩
          · as_aux_lemma =>
              have MKS := Lib.hid (fun (X' : World) (hg : X'.heap[q]? = some (.cells cs.toArray 33)) => (show X'.cell? ⟨q, 1, none⟩ = some (.int .i64 r.a.n) ∧ X'.cell? ⟨q, 18, none⟩ = some (.slice ea r.a.events.length ek) from ⟨by rw [Lib.cell_of_heap hg, HCS.out]; rfl, by rw [Lib.cell_of_heap hg, HCS.out]; rfl⟩))
              obtain ⟨idv, hid⟩ : ∃ x : Int, ((pickT r.a.n (R.rs.length + 2) : Nat) : Int) = x := ⟨_, rfl⟩
              have HID := Lib.hid hid
              have CPN := Lib.hid (fun (X' : World) => (show Calls Tryd.prog 14 #[.int .i64 r.a.n, .int .i64 ((R.rs.length : Int) + 2)] X' fun r w' => r = .returned (.int .i64 idv) ∧ X' = w' by
                have h := pick_any r.a.n HOK.out.n (R.rs.length + 2) (by omega) (by omega) X'
                rw [hid, show ((R.rs.length + 2 : Nat) : Int) = (R.rs.length : Int) + 2 by omega] at h
                exact h))
              have iw : IntKind.i64.wrap ((R.rs.length : Int) + 2) = (R.rs.length : Int) + 2 := by rw [IntKind.wrap_i64]; omega
              clear hid
              go_wp2_with fail
              refine region_begin (S := fun X' => X'.cell? ⟨q, 1, none⟩ = some (.int .i64 r.a.n) ∧ X'.cell? ⟨q, 18, none⟩ = some (.slice ea r.a.events.length ek)) 13 rfl (by kernel_rfl) (MKS.out _ (show w3.drew.heap[q]? = _ from G3.out)) (fun hH0 => ?_)
              refine wpAnyH_take (i := 0) (oi := ?ot70) (v := ?vt70) ?hit70 (by kernel_rfl) (by kernel_rfl) (by kernel_rfl) ?hQt70 ?hyt70 hH0 ?_
              case hit70 => simp only [List.getElem?_toArray, List.getElem?_cons_zero]; rfl
              case hQt70 => exact fun _ _ _ h => h
              case hyt70 => refine Or.inl ⟨by rfl, ?_⟩; intro W hSw; (try dsimp only at hSw); go_simp; try with_reducible rfl
              simp only [Act.put, List.setIfInBounds_toArray, List.set_cons_zero, List.set_cons_succ]
              refine wpAnyH_take (i := 1) (oi := ?ot71) (v := ?vt71) ?hit71 (by kernel_rfl) (by kernel_rfl) (by kernel_rfl) ?hQt71 ?hyt71 hH0 ?_
              case hit71 => simp only [List.getElem?_toArray, List.getElem?_cons_zero, List.getElem?_cons_succ]; rfl
              case hQt71 => exact fun _ _ _ h => h
              case hyt71 => refine Or.inl ⟨by rfl, ?_⟩; intro W hSw; (try dsimp only at hSw); go_simp; try with_reducible rfl
              simp only [Act.put, List.setIfInBounds_toArray, List.set_cons_zero, List.set_cons_succ]
              refine wpAnyH_take (i := 2) (oi := ?ot72) (v := ?vt72) ?hit72 (by kernel_rfl) (by kernel_rfl) (by kernel_rfl) ?hQt72 ?hyt72 hH0 ?_
              case hit72 => simp only [List.getElem?_toArray, List.getElem?_cons_zero, List.getElem?_cons_succ]; rfl
              case hQt72 => exact fun _ _ _ h => h
              case hyt72 => refine Or.inl ⟨by rfl, ?_⟩; intro W hSw; (try dsimp only at hSw); go_simp; try with_reducible rfl
              simp only [Act.put, List.setIfInBounds_toArray, List.set_cons_zero, List.set_cons_succ]
              refine wpAnyH_take (i := 3) (oi := ?ot73) (v := ?vt73) ?hit73 (by kernel_rfl) (by kernel_rfl) (by kernel_rfl) ?hQt73 ?hyt73 hH0 ?_
              case hit73 => simp only [List.getElem?_toArray, List.getElem?_cons_zero, List.getElem?_cons_succ]; rfl
              case hQt73 => exact fun _ _ _ h => h
              case hyt73 => refine Or.inl ⟨by rfl, ?_⟩; intro W hSw; (try dsimp only at hSw); go_simp; try with_reducible rfl
              simp only [Act.put, List.setIfInBounds_toArray, List.set_cons_zero, List.set_cons_succ]
              refine wpAnyH_take (i := 4) (oi := ?ot74) (v := ?vt74) ?hit74 (by kernel_rfl) (by kernel_rfl) (by kernel_rfl) ?hQt74 ?hyt74 hH0 ?_
              case hit74 => simp only [List.getElem?_toArray, List.getElem?_cons_zero, List.getElem?_cons_succ]; rfl
              case hQt74 => exact fun _ _ _ h => h
              case hyt74 => refine Or.inl ⟨by rfl, ?_⟩; intro W hSw; (try dsimp only at hSw); go_simp; try with_reducible rfl
              simp only [Act.put, List.setIfInBounds_toArray, List.set_cons_zero, List.set_cons_succ]
              refine wpAnyH_take (i := 5) (oi := ?ot75) (v := ?vt75) ?hit75 (by kernel_rfl) (by kernel_rfl) (by kernel_rfl) ?hQt75 ?hyt75 hH0 ?_
              case hit75 => simp only [List.getElem?_toArray, List.getElem?_cons_zero, List.getElem?_cons_succ]; rfl
              case hQt75 => exact fun _ _ _ h => h
              case hyt75 => refine Or.inl ⟨by rfl, ?_⟩; intro W hSw; (try dsimp only at hSw); go_simp; try with_reducible rfl
              simp only [Act.put, List.setIfInBounds_toArray, List.set_cons_zero, List.set_cons_succ]
              refine wpAnyH_take (i := 7) (oi := ?ot77) (v := ?vt77) ?hit77 (by kernel_rfl) (by kernel_rfl) (by kernel_rfl) ?hQt77 ?hyt77 hH0 ?_
              case hit77 => simp only [List.getElem?_toArray, List.getElem?_cons_zero, List.getElem?_cons_succ]; rfl
              case hQt77 => exact fun _ _ _ h => h
              case hyt77 => refine Or.inl ⟨by rfl, ?_⟩; intro W hSw; (try dsimp only at hSw); go_simp; try with_reducible rfl
              simp only [Act.put, List.setIfInBounds_toArray, List.set_cons_zero, List.set_cons_succ]
              refine wpAnyH_take (i := 8) (oi := ?ot78) (v := ?vt78) ?hit78 (by kernel_rfl) (by kernel_rfl) (by kernel_rfl) ?hQt78 ?hyt78 hH0 ?_
              case hit78 => simp only [List.getElem?_toArray, List.getElem?_cons_zero, List.getElem?_cons_succ]; rfl
              case hQt78 => exact fun _ _ _ h => h
              case hyt78 => refine Or.inl ⟨by rfl, ?_⟩; intro W hSw; (try dsimp only at hSw); go_simp; try with_reducible rfl
              simp only [Act.put, List.setIfInBounds_toArray, List.set_cons_zero, List.set_cons_succ]
              refine wpAnyH_take (i := 11) (oi := ?ot711) (v := ?vt711) ?hit711 (by kernel_rfl) (by kernel_rfl) (by kernel_rfl) ?hQt711 ?hyt711 hH0 ?_
              case hit711 => simp only [List.getElem?_toArray, List.getElem?_cons_zero, List.getElem?_cons_succ]; rfl
              case hQt711 => exact fun _ _ _ h => h
              case hyt711 => refine Or.inl ⟨by rfl, ?_⟩; intro W hSw; (try dsimp only at hSw); go_simp; try with_reducible rfl
              simp only [Act.put, List.setIfInBounds_toArray, List.set_cons_zero, List.set_cons_succ]
              clear hH0 iw
              have hd := (Below.refl w3.heap.size w3).drew
              have HMd := Lib.hid (HM3.out.keep hd)
              have HSd := Lib.hid (step_below (c := c) hd (rfl : R.ov = R.ov))
              have Gd := Lib.hid (show w3.drew.heap[q]? = _ from G3.out)
              have HBd := Lib.hid (HB3.out.trans (hd.mono HB3.out.size))
              have hzd : q < w3.drew.heap.size := hz3
              have HWd := Lib.hid (HW3.out.trans (hd.mono (Nat.le_of_lt hz3)))
              clear hd
              generalize w3.drew = wd at *
              refine wpAnyH_ready (rs := [6]) (by kernel_rfl) (by simp) ?_
              refine AllReadyH.cons (o := ?ot76) ?hot76 (fun K' hK => ?_) AllReadyH.nil
              case hot76 => simp only [List.getElem?_toArray, List.getElem?_cons_zero, List.getElem?_cons_succ]; rfl
              go_simp
              refine (CPN.out _).mono ?_
              rintro e wd' ⟨rfl, rfl⟩
              refine hK.out _ _ (MKS.out _ Gd.out) (fun hH1 => ?_)
              clear hK K'
              (try simp only [Act.put, List.setIfInBounds_toArray, List.set_cons_zero, List.set_cons_succ])
              refine wpAnyH_take (i := 9) (oi := ?ot79) (v := ?vt79) ?hit79 (by kernel_rfl) (by kernel_rfl) (by kernel_rfl) ?hQt79 ?hyt79 hH1 ?_
              case hit79 => simp only [List.getElem?_toArray, List.getElem?_cons_zero, List.getElem?_cons_succ]; rfl
              case hQt79 => exact fun _ _ _ h => h
              case hyt79 => refine Or.inl ⟨by rfl, ?_⟩; intro W hSw; (try dsimp only at hSw); go_simp; try with_reducible rfl
              simp only [Act.put, List.setIfInBounds_toArray, List.set_cons_zero, List.set_cons_succ]
              refine wpAnyH_take (i := 10) (oi := ?ot710) (v := ?vt710) ?hit710 (by kernel_rfl) (by kernel_rfl) (by kernel_rfl) ?hQt710 ?hyt710 hH1 ?_
              case hit710 => simp only [List.getElem?_toArray, List.getElem?_cons_zero, List.getElem?_cons_succ]; rfl
              case hQt710 => exact fun _ _ _ h => h
              case hyt710 => refine Or.inl ⟨by rfl, ?_⟩; intro W hSw; (try dsimp only at hSw); go_simp; try with_reducible rfl
              simp only [Act.put, List.setIfInBounds_toArray, List.set_cons_zero, List.set_cons_succ]
              clear hH1
              obtain ⟨s2, outs2, hap⟩ := pair_of (answerS R.s 2 idv 0 (now + pm) (fun o => { o with version := 0, events := r.a.events }))
              have HAP := Lib.hid hap
              have hee : EvA (fun k => R.mut c k ∨ False) wd (.slice ea r.a.events.length ek) r.a.events := by
                have h1 := HOK.out.evv.keep (B' := q) (Below.trans HWA.out HWd.out) hwz
                refine ⟨h1.up HBd.out.size, fun hp k hk hu => ?_⟩
                obtain ⟨_, _, e1, _, _, _, h5⟩ := h1
                obtain ⟨b5, o5, e5, hlt5, _⟩ := h5 hp
                rcases hu with hu | hu
                · have h6 := (HMd.out.mutlo k hu).1
                  injection e1 with e1 _ _
                  rw [e5] at e1
                  rw [e1] at hk
                  have : b5 = k := Option.some.inj hk
                  omega
                · exact hu
              have CA := Lib.hid (take_result (fun _ => False) w.heap.size c R wd HMd.out (by omega) 1 (by decide) (by decide) idv 0 0 _ r.a.events hee (by have := HSA.out.e; omega) (now + pm) (fun e => HINV.out.some e) s2 outs2 hap)
              clear hee hap
              refine wpAnyH_ready (rs := [12]) (by kernel_rfl) (by simp) ?_
              refine AllReadyH.cons (o := ?ot712) ?hot712 (fun K' hK => ?_) AllReadyH.nil
              case hot712 => simp only [List.getElem?_toArray, List.getElem?_cons_zero, List.getElem?_cons_succ]; rfl
              go_simp
              refine CA.out.mono ?_
              rintro e w4 ⟨v, rfl, R', outs, hs', hm', st', -⟩
              have HS' := Lib.hid hs'
              have HM' := Lib.hid hm'
              have ST' := Lib.hid (HSd.out.trans st')
              have G4 := Lib.hid ((st'.kept.block q hzd (fun hu => HQM.out hu)).trans Gd.out)
              clear hs' hm' st'
              refine hK.out _ _ (MKS.out _ G4.out) (fun hH2 => ?_)
              clear hK K'
              (try simp only [Act.put, List.setIfInBounds_toArray, List.set_cons_zero, List.set_cons_succ])
              clear hH2
              refine wpAnyH_done (by kernel_rfl) ?_ _
              go_wp2_with fail
              go_meet
              case rel => exact ⟨R', HM'.out, by rw [onceS, if_neg (by decide), if_neg (by decide), if_neg (by decide), if_neg (by decide), if_pos rfl, ← HCM.out.len, HID.out, HAP.out]; exact HS'.out, ST'.out⟩
          · as_aux_lemma =>
              obtain ⟨s2, outs2, hap⟩ := pair_of (tickS R.s (now + pm))
              have HAP := Lib.hid hap
              have CA := Lib.hid (tick_any (fun _ => False) w.heap.size c R w3 HM3.out (by omega) (now + pm) (fun e => HINV.out.some e) (by have h1 := HINV.out.a0; have h2 := HINV.out.a1; unfold Vw.I64; omega) s2 outs2 hap)
              clear hap
              go_wp2_with fail
              refine CA.out.mono ?_
              rintro e w4 ⟨v, rfl, R', outs, hs', hm', st', -⟩
              have HS' := Lib.hid hs'
              have HM' := Lib.hid hm'
              have ST' := Lib.hid st'
              clear hs' hm' st'
              go_wp2_with fail
              go_meet
              case rel => exact ⟨R', HM'.out, by rw [onceS, if_neg (by decide), if_neg (by decide), if_neg (by decide), if_neg (by decide), if_neg (by decide), if_pos rfl, HAP.out]; exact HS'.out, ST'.out⟩
          · as_aux_lemma =>
              have CA := Lib.hid (cancel_any (fun _ => False) w.heap.size c R w3 HM3.out)
              go_wp2_with fail
              refine CA.out.mono ?_
              rintro e w4 ⟨rfl, hm', st'⟩
              have HM' := Lib.hid hm'
              have ST' := Lib.hid st'
              clear hm' st'
              go_wp2_with fail
              go_meet
              case rel => exact ⟨_, HM'.out, by rw [onceS, if_neg (by decide), if_neg (by decide), if_neg (by decide), if_neg (by decide), if_neg (by decide), if_neg (by decide)], ST'.out⟩
        case rest =>
          obtain ⟨R', hm', hs', st'⟩ := hcut
          have hstep := once_step (HINV.out.later (show now ≤ now + pm by omega)) r.a ci
          rw [← hs'] at hstep
          obtain ⟨hinv', hrel'⟩ := hstep
          have how' := own_step HOW3.out HM1.out (Nat.le_refl _) st'
          have hbw' := HB3.out.trans (st'.below HM3.out)
          have hn : R.rs.length = R.s.ops.length := HCM.out.len
          have hn' : R'.rs.length = R'.s.ops.length := hm'.len
          have hlen := hrel'.len
          rw [← hn, ← hn'] at hlen
          have HM' := Lib.hid hm'
          have HINV' := Lib.hid hinv'
          have HREL' := Lib.hid hrel'
          have HOW' := Lib.hid how'
          have HBW' := Lib.hid hbw'
          have HN := Lib.hid hn
          have HN' := Lib.hid hn'
          clear hs' st' hinv' hrel' how' hbw' hn hn'
          obtain ⟨n0, hn0'⟩ : ∃ n0, R.rs.length = n0 := ⟨_, rfl⟩
          obtain ⟨n1, hn1'⟩ : ∃ n1, R'.rs.length = n1 := ⟨_, rfl⟩
          rw [hn0'] at hlen hrs ⊢
          rw [hn1'] at hlen
          have HN0 := Lib.hid hn0'
          have HN1 := Lib.hid hn1'
          have CO2 := Lib.hid (ops_any (fun _ => False) w.heap.size c R' wc hm' (by omega))
          rw [hn1'] at CO2
          clear hm' hn0' hn1'
          have j1 : decide (n1 < n0) = false := by rw [decide_eq_false_iff_not]; omega
          have j1i : decide ((n1 : Int) < (n0 : Int)) = false := by rw [decide_eq_false_iff_not]; omega
          have j2 : decide ((n0 : Int) + 1 < (n1 : Int)) = false := by rw [decide_eq_false_iff_not]; omega
          have j3 : (0 : Int) ≤ (n0 : Int) := by omega
          have j4 : (n0 : Int) ≤ 60 := by omega
          go_wp2_with fail
          refine CO2.out.mono ?_
          rintro e w5 ⟨vk, rfl, hok5, hb5⟩
          obtain ⟨kb, kk, rfl⟩ := row_form hok5
          have HM5 := Lib.hid (HM'.out.keep hb5)
          have HB5 := Lib.hid (HBW'.out.trans (hb5.mono HBW'.out.size))
          have HOW5 := Lib.hid (own_below hb5 HOW'.out)
          have HK5 := Lib.hid hok5
          clear hok5 hb5
          go_wp2_with fail
          go_loopg [12] n1 (fun gn t12 wy => ∃ j : Nat, j ≤ n1 ∧ gn = n1 - j ∧ t12 = .int .i64 j ∧ Below w5.heap.size w5 wy)
          case atStart => exact ⟨0, Nat.zero_le _, rfl, rfl, Below.refl _ _⟩
          case round =>
            obtain ⟨j, hj, hgn, rfl, hby⟩ := hrel
            have HGN := Lib.hid hgn
            clear hgn
            have HBY := Lib.hid hby
            clear hby
            by_cases hjl : j < n1
            · have hrow := own_below HBY.out HK5.out
              have hp0 : 0 < R'.rs.length := by rw [HN1.out]; omega
              rw [← HN1.out] at hrow
              obtain ⟨g, cap2, hv, hbg, hgs, hcell⟩ := row_at hrow hp0
              rw [HN1.out] at hv
              obtain ⟨rfl, -, rfl⟩ : kb = some ⟨g, 0, none⟩ ∧ n1 = n1 ∧ kk = cap2 := by injection hv with e1 e2 e3; exact ⟨e1, e2, e3⟩
              obtain ⟨o, ho⟩ : ∃ o, R'.rs[j]'(by rw [HN1.out]; exact hjl) = o := ⟨_, rfl⟩
              have hget : R'.s.ops[j]? = some o.o := by rw [← HM'.out.ops, List.getElem?_map, List.getElem?_eq_getElem (by rw [HN1.out]; exact hjl), ho]; rfl
              have hok := HINV'.out.ops j o.o hget
              have hpl := HM'.out.plain o (by rw [← ho]; exact List.getElem_mem _)
              obtain ⟨cs2, hcs2⟩ : ∃ cs2, o.cells = cs2 := ⟨_, rfl⟩
              have hl2 : cs2.length = 17 := by rw [← hcs2]; rfl
              have HRG2 := Lib.hid (show wr.rangeAt g (j * 17) cs2 from fun jj v hjj => by
                have h17 : jj < 17 := by have := (List.getElem?_eq_some_iff.1 hjj).1; omega
                have := hcell j (by rw [HN1.out]; exact hjl) jj h17
                rw [ho, hcs2, hjj] at this
                exact this)
              have HPL2 := Lib.hid (show cs2.toArray.all (·.oneCell') = true from all_oneCell_toArray (fun v hv => by rw [← hcs2, ← ocells_one] at hv; exact ocells_plain (fun x hx => by obtain rfl := List.mem_singleton.1 hx; exact hpl) hv))
              have HCS2 := Lib.hid (show cs2 = o.cells from hcs2.symm)
              have HL2 := Lib.hid hl2
              have HGET := Lib.hid hget
              have HOKO := Lib.hid hok
              have HCELL := Lib.hid hcell
              have HGS := Lib.hid hgs
              have i3 : (0 : Int) ≤ (j : Int) := by omega
              have i4 : (j : Int) < (n1 : Int) := by omega
              have i5 : (n1 : Int) ≤ 61 := by omega
              have hA2 := (Below.refl wr.heap.size wr).alloc (Nat.le_refl _) (.cells cs2.toArray 56)
              have G2 := Lib.hid (heap_alloc_new wr (.cells cs2.toArray 56))
              have HA2 := Lib.hid hA2
              have hst : (storeCells ⟨wr.heap.size, 0, none⟩ cs2).run Tryd.prog (wr.alloc (.cells #[.int .i64 0, .int .i64 0, .int .i64 0, .int .i64 0, .string ⟨#[]⟩, .int .i64 0, .int .i64 0, .int .i64 0, .slice none 0 0, .int .i64 0, .int .i64 0, .int .i64 0, .int .i64 0, .string ⟨#[]⟩, .int .i64 0, .int .i64 0, .slice none 0 0] 56)) = .ok () (wr.alloc (.cells cs2.toArray 56)) := run_storeCells_new wr 56 #[.int .i64 0, .int .i64 0, .int .i64 0, .int .i64 0, .string ⟨#[]⟩, .int .i64 0, .int .i64 0, .int .i64 0, .slice none 0 0, .int .i64 0, .int .i64 0, .int .i64 0, .int .i64 0, .string ⟨#[]⟩, .int .i64 0, .int .i64 0, .slice none 0 0] cs2.toArray (by rw [List.size_toArray, HL2.out]; exact opsize) (by rw [show cs2.toArray.size = 17 from HL2.out]; rfl) HPL2.out
              have hls : cs2.length = 17 := HL2.out
              clear hrow hp0 hv hbg hgs hcell ho hget hok hpl hcs2 hl2 hA2
              go_upto_region 38 with (refine wpList_load_mid rfl 56 _ rfl g (j * 17) (by rfl) cs2 _ HRG2.out Tryd.underlying56 rfl (by rw [HL2.out]; exact opsize) ?_)
              clear hst hls
              generalize wr.alloc (.cells cs2.toArray 56) = wa2 at *
              have hza2 : wr.heap.size < wa2.heap.size := (Array.getElem?_eq_some_iff.1 G2.out).1
              have hwz2 : w5.heap.size ≤ wr.heap.size := HBY.out.size
              have HBZ := Lib.hid (HBY.out.trans (HA2.out.mono hwz2))
              generalize hqo : wr.heap.size = qo at *
              have HQO := Lib.hid hqo
              clear hqo
              have hid := HOKO.out.id
              have hs0 := HOKO.out.s0
              have hs1 := HOKO.out.s1
              have g1 : (o.o.id != (j : Int) + 1) = false := by rw [bne_eq_false_iff_eq]; exact hid
              clear hid
              go_cut [221] from 150 to 242 (fun s221 wx => s221 = .bool false ∧ Below wa2.heap.size wa2 wx)
              case first =>
                have z0 : wa2.cell? ⟨qo, 0, none⟩ = some (.int .i64 o.o.kind) := by rw [Lib.cell_of_heap G2.out, HCS2.out]; rfl
                have z1 : wa2.cell? ⟨qo, 1, none⟩ = some (.int .i64 o.o.id) := by rw [Lib.cell_of_heap G2.out, HCS2.out]; rfl
                have z2 : wa2.cell? ⟨qo, 2, none⟩ = some (.int .i64 o.o.start) := by rw [Lib.cell_of_heap G2.out, HCS2.out]; rfl
                have z3 : wa2.cell? ⟨qo, 3, none⟩ = some (.int .i64 o.o.end_) := by rw [Lib.cell_of_heap G2.out, HCS2.out]; rfl
                have z6 : wa2.cell? ⟨qo, 6, none⟩ = some (.int .i64 o.o.b.session) := by rw [Lib.cell_of_heap G2.out, HCS2.out]; rfl
                have z7 : wa2.cell? ⟨qo, 7, none⟩ = some (.int .i64 o.o.b.seq) := by rw [Lib.cell_of_heap G2.out, HCS2.out]; rfl
                by_cases he : o.o.end_ = -1
                · have g2 : (o.o.end_ != -1) = false := by rw [bne_eq_false_iff_eq]; exact he
                  clear he
                  rcases Nat.eq_zero_or_pos j with hj0 | hj0
                  · have g4 : ¬ (0 : Int) < (j : Int) := by omega
                    have g4n : ¬ 0 < j := by omega
                    have g5 : True := trivial
                    have g6 : True := trivial
                    clear hj0
                    by_cases hkd : o.o.kind = 1
                    · obtain ⟨kd1, kd2⟩ := HOKO.out.kd hkd
                      have g7 : (o.o.kind == 1) = true := by rw [beq_iff_eq]; exact hkd
                      have g8 : (o.o.b.seq != o.o.id) = false := by rw [bne_eq_false_iff_eq]; exact kd1
                      have g9 : (o.o.b.session != 9) = false := by rw [bne_eq_false_iff_eq]; exact kd2
                      clear hkd kd1 kd2
                      have ew1 : IntKind.i64.wrap ((j : Int) + 1) = (j : Int) + 1 := by rw [IntKind.wrap_i64]; omega
                      try clear hjl
                      try clear hj
                      try clear j2
                      try clear j1i
                      try clear j1
                      try clear CPN
                      try clear CA
                      try clear hlen
                      try clear HBX
                      try clear G3b
                      try clear hk180
                      try clear hlt
                      try clear hrs
                      try clear hnow
                      try clear hk
                      try clear hza
                      try clear hwz2
                      try clear hza2
                      try clear hs1
                      try clear hs0
                      try clear HQO
                      try clear HBZ
                      try clear HA2
                      try clear G2
                      try clear HGS
                      try clear HCELL
                      try clear HOKO
                      try clear HGET
                      try clear HL2
                      try clear HCS2
                      try clear HPL2
                      try clear HRG2
                      try clear HBY
                      try clear HK5
                      try clear HOW5
                      try clear HB5
                      try clear HM5
                      try clear CO2
                      try clear HN1
                      try clear HN0
                      try clear HN'
                      try clear HN
                      try clear HBW'
                      try clear HOW'
                      try clear HREL'
                      try clear HINV'
                      try clear HM'
                      try clear HOK
                      try clear HCS
                      try clear G3
                      try clear G1
                      try clear HQM
                      try clear HWA
                      try clear HW3
                      try clear hz3
                      try clear HOW3
                      try clear HB3
                      try clear HM3
                      try clear HB1
                      try clear HM1
                      try clear CO1
                      try clear CPO
                      try clear CP3
                      try clear hc10
                      try clear hpm3
                      try clear hpm0
                      try clear HSA
                      try clear HPL
                      try clear HRG
                      try clear HLEN
                      try clear hmax
                      try clear hwz
                      try clear HCLT
                      try clear HBW
                      try clear HCM
                      try clear HINV
                      try clear hn0
                      try clear HSM
                      try clear h60
                      try clear HBN
                      try clear HMN
                      try clear CN
                      try clear HQ
                      try clear HBB
                      try clear HBA
                      try clear CS
                      try clear HSH
                      try clear HT
                      try clear HL
                      as_aux_lemma =>
                        go_wp2_with fail
                        go_quiet (fail)
                        go_wp2_with fail
                        go_meet
                        case rel => exact ⟨by first | rfl | simp [g5, g6], below_drewN' _ _⟩
                    · have g7 : (o.o.kind == 1) = false := by rw [beq_eq_false_iff_ne]; exact hkd
                      clear hkd
                      have ew1 : IntKind.i64.wrap ((j : Int) + 1) = (j : Int) + 1 := by rw [IntKind.wrap_i64]; omega
                      try clear hjl
                      try clear hj
                      try clear j2
                      try clear j1i
                      try clear j1
                      try clear CPN
                      try clear CA
                      try clear hlen
                      try clear HBX
                      try clear G3b
                      try clear hk180
                      try clear hlt
                      try clear hrs
                      try clear hnow
                      try clear hk
                      try clear hza
                      try clear hwz2
                      try clear hza2
                      try clear hs1
                      try clear hs0
                      try clear HQO
                      try clear HBZ
                      try clear HA2
                      try clear G2
                      try clear HGS
                      try clear HCELL
                      try clear HOKO
                      try clear HGET
                      try clear HL2
                      try clear HCS2
                      try clear HPL2
                      try clear HRG2
                      try clear HBY
                      try clear HK5
                      try clear HOW5
                      try clear HB5
                      try clear HM5
                      try clear CO2
                      try clear HN1
                      try clear HN0
                      try clear HN'
                      try clear HN
                      try clear HBW'
                      try clear HOW'
                      try clear HREL'
                      try clear HINV'
                      try clear HM'
                      try clear HOK
                      try clear HCS
                      try clear G3
                      try clear G1
                      try clear HQM
                      try clear HWA
                      try clear HW3
                      try clear hz3
                      try clear HOW3
                      try clear HB3
                      try clear HM3
                      try clear HB1
                      try clear HM1
                      try clear CO1
                      try clear CPO
                      try clear CP3
                      try clear hc10
                      try clear hpm3
                      try clear hpm0
                      try clear HSA
                      try clear HPL
                      try clear HRG
                      try clear HLEN
                      try clear hmax
                      try clear hwz
                      try clear HCLT
                      try clear HBW
                      try clear HCM
                      try clear HINV
                      try clear hn0
                      try clear HSM
                      try clear h60
                      try clear HBN
                      try clear HMN
                      try clear CN
                      try clear HQ
                      try clear HBB
                      try clear HBA
                      try clear CS
                      try clear HSH
                      try clear HT
                      try clear HL
                      as_aux_lemma =>
                        go_wp2_with fail
                        go_quiet (fail)
                        go_wp2_with fail
                        go_meet
                        case rel => exact ⟨by first | rfl | simp [g5, g6], below_drewN' _ _⟩
                  · have g4 : (0 : Int) < (j : Int) := by omega
                    obtain ⟨i, rfl⟩ : ∃ i, j = i + 1 := ⟨j - 1, by omega⟩
                    obtain ⟨p, hp⟩ : ∃ p, R'.rs[i]'(by rw [HN1.out]; omega) = p := ⟨_, rfl⟩
                    have hgp : R'.s.ops[i]? = some p.o := by rw [← HM'.out.ops, List.getElem?_map, List.getElem?_eq_getElem (by rw [HN1.out]; omega), hp]; rfl
                    obtain ⟨pa1, pa2⟩ := HINV'.out.pair i p.o o.o hgp HGET.out
                    have g5 : decide (o.o.start < p.o.start) = false := by rw [decide_eq_false_iff_not]; omega
                    have g6 : decide (o.o.start < p.o.end_) = false := by rw [decide_eq_false_iff_not]; omega
                    have g4b : decide ((0 : Int) < (i : Int) + 1) = true := by rw [decide_eq_true_eq]; omega
                    have g4c : decide (0 < i + 1) = true := by rw [decide_eq_true_eq]; omega
                    have hidi : o.o.id = (i : Int) + 1 + 1 := by have := HOKO.out.id; omega
                    clear g1
                    have g1 : (o.o.id != (i : Int) + 1 + 1) = false := by rw [bne_eq_false_iff_eq]; exact hidi
                    have i6 : (0 : Int) ≤ (i : Int) := by omega
                    have i7 : (i : Int) < (n1 : Int) := by omega
                    have i8 : (i : Int) + 1 < (n1 : Int) := by omega
                    have hgl : g < qo := by have h1 := HQO.out; have h2 := HGS.out; omega
                    have p2 : wa2.cell? ⟨g, i * 17 + 2, none⟩ = some (.int .i64 p.o.start) := (HA2.out.cell (p := ⟨g, i * 17 + 2, none⟩) hgl).trans ((HCELL.out i (by rw [HN1.out]; omega) 2 (by omega)).trans (by rw [hp]; rfl))
                    have p3 : wa2.cell? ⟨g, i * 17 + 3, none⟩ = some (.int .i64 p.o.end_) := (HA2.out.cell (p := ⟨g, i * 17 + 3, none⟩) hgl).trans ((HCELL.out i (by rw [HN1.out]; omega) 3 (by omega)).trans (by rw [hp]; rfl))
                    clear hj0 hp hgp pa1 pa2 hidi hgl
                    by_cases hkd : o.o.kind = 1
                    · obtain ⟨kd1, kd2⟩ := HOKO.out.kd hkd
                      have g7 : (o.o.kind == 1) = true := by rw [beq_iff_eq]; exact hkd
                      have g8 : (o.o.b.seq != o.o.id) = false := by rw [bne_eq_false_iff_eq]; exact kd1
                      have g9 : (o.o.b.session != 9) = false := by rw [bne_eq_false_iff_eq]; exact kd2
                      clear hkd kd1 kd2
                      have ew1 : IntKind.i64.wrap ((i : Int) + 1 + 1) = (i : Int) + 1 + 1 := by rw [IntKind.wrap_i64]; omega
                      have ew2 : IntKind.i64.wrap ((i : Int) + 1 - 1) = (i : Int) := by rw [IntKind.wrap_i64]; omega
                      have ew3 : IntKind.i64.wrap (i : Int) = (i : Int) := by rw [IntKind.wrap_i64]; omega
                      try clear hjl
                      try clear hj
                      try clear j2
                      try clear j1i
                      try clear j1
                      try clear CPN
                      try clear CA
                      try clear hlen
                      try clear HBX
                      try clear G3b
                      try clear hk180
                      try clear hlt
                      try clear hrs
                      try clear hnow
                      try clear hk
                      try clear hza
                      try clear hwz2
                      try clear hza2
                      try clear hs1
                      try clear hs0
                      try clear HQO
                      try clear HBZ
                      try clear HA2
                      try clear G2
                      try clear HGS
                      try clear HCELL
                      try clear HOKO
                      try clear HGET
                      try clear HL2
                      try clear HCS2
                      try clear HPL2
                      try clear HRG2
                      try clear HBY
                      try clear HK5
                      try clear HOW5
                      try clear HB5
                      try clear HM5
                      try clear CO2
                      try clear HN1
                      try clear HN0
                      try clear HN'
                      try clear HN
                      try clear HBW'
                      try clear HOW'
                      try clear HREL'
                      try clear HINV'
                      try clear HM'
                      try clear HOK
                      try clear HCS
                      try clear G3
                      try clear G1
                      try clear HQM
                      try clear HWA
                      try clear HW3
                      try clear hz3
                      try clear HOW3
                      try clear HB3
                      try clear HM3
                      try clear HB1
                      try clear HM1
                      try clear CO1
                      try clear CPO
                      try clear CP3
                      try clear hc10
                      try clear hpm3
                      try clear hpm0
                      try clear HSA
                      try clear HPL
                      try clear HRG
                      try clear HLEN
                      try clear hmax
                      try clear hwz
                      try clear HCLT
                      try clear HBW
                      try clear HCM
                      try clear HINV
                      try clear hn0
                      try clear HSM
                      try clear h60
                      try clear HBN
                      try clear HMN
                      try clear CN
                      try clear HQ
                      try clear HBB
                      try clear HBA
                      try clear CS
                      try clear HSH
                      try clear HT
                      try clear HL
                      as_aux_lemma =>
                        go_wp2_with fail
                        go_quiet (fail)
                        go_wp2_with fail
                        go_meet
                        case rel => exact ⟨by first | rfl | simp [g5, g6], below_drewN' _ _⟩
                    · have g7 : (o.o.kind == 1) = false := by rw [beq_eq_false_iff_ne]; exact hkd
                      clear hkd
                      have ew1 : IntKind.i64.wrap ((i : Int) + 1 + 1) = (i : Int) + 1 + 1 := by rw [IntKind.wrap_i64]; omega
                      have ew2 : IntKind.i64.wrap ((i : Int) + 1 - 1) = (i : Int) := by rw [IntKind.wrap_i64]; omega
                      have ew3 : IntKind.i64.wrap (i : Int) = (i : Int) := by rw [IntKind.wrap_i64]; omega
                      try clear hjl
                      try clear hj
                      try clear j2
                      try clear j1i
                      try clear j1
                      try clear CPN
                      try clear CA
                      try clear hlen
                      try clear HBX
                      try clear G3b
                      try clear hk180
                      try clear hlt
                      try clear hrs
                      try clear hnow
                      try clear hk
                      try clear hza
                      try clear hwz2
                      try clear hza2
                      try clear hs1
                      try clear hs0
                      try clear HQO
                      try clear HBZ
                      try clear HA2
                      try clear G2
                      try clear HGS
                      try clear HCELL
                      try clear HOKO
                      try clear HGET
                      try clear HL2
                      try clear HCS2
                      try clear HPL2
                      try clear HRG2
                      try clear HBY
                      try clear HK5
                      try clear HOW5
                      try clear HB5
                      try clear HM5
                      try clear CO2
                      try clear HN1
                      try clear HN0
                      try clear HN'
                      try clear HN
                      try clear HBW'
                      try clear HOW'
                      try clear HREL'
                      try clear HINV'
                      try clear HM'
                      try clear HOK
                      try clear HCS
                      try clear G3
                      try clear G1
                      try clear HQM
                      try clear HWA
                      try clear HW3
                      try clear hz3
                      try clear HOW3
                      try clear HB3
                      try clear HM3
                      try clear HB1
                      try clear HM1
                      try clear CO1
                      try clear CPO
                      try clear CP3
                      try clear hc10
                      try clear hpm3
                      try clear hpm0
                      try clear HSA
                      try clear HPL
                      try clear HRG
                      try clear HLEN
                      try clear hmax
                      try clear hwz
                      try clear HCLT
                      try clear HBW
                      try clear HCM
                      try clear HINV
                      try clear hn0
                      try clear HSM
                      try clear h60
                      try clear HBN
                      try clear HMN
                      try clear CN
                      try clear HQ
                      try clear HBB
                      try clear HBA
                      try clear CS
                      try clear HSH
                      try clear HT
                      try clear HL
                      as_aux_lemma =>
                        go_wp2_with fail
                        go_quiet (fail)
                        go_wp2_with fail
                        go_meet
                        case rel => exact ⟨by first | rfl | simp [g5, g6], below_drewN' _ _⟩
                · have g2 : (o.o.end_ != -1) = true := by rw [bne_iff_ne]; exact he
                  have g3 : decide (o.o.end_ < o.o.start) = false := by rw [decide_eq_false_iff_not]; rcases HOKO.out.en with e | e; exact absurd e he; omega
                  clear he
                  rcases Nat.eq_zero_or_pos j with hj0 | hj0
                  · have g4 : ¬ (0 : Int) < (j : Int) := by omega
                    have g4n : ¬ 0 < j := by omega
                    have g5 : True := trivial
                    have g6 : True := trivial
                    clear hj0
                    by_cases hkd : o.o.kind = 1
                    · obtain ⟨kd1, kd2⟩ := HOKO.out.kd hkd
                      have g7 : (o.o.kind == 1) = true := by rw [beq_iff_eq]; exact hkd
                      have g8 : (o.o.b.seq != o.o.id) = false := by rw [bne_eq_false_iff_eq]; exact kd1
                      have g9 : (o.o.b.session != 9) = false := by rw [bne_eq_false_iff_eq]; exact kd2
                      clear hkd kd1 kd2
                      have ew1 : IntKind.i64.wrap ((j : Int) + 1) = (j : Int) + 1 := by rw [IntKind.wrap_i64]; omega
                      try clear hjl
                      try clear hj
                      try clear j2
                      try clear j1i
                      try clear j1
                      try clear CPN
                      try clear CA
                      try clear hlen
                      try clear HBX
                      try clear G3b
                      try clear hk180
                      try clear hlt
                      try clear hrs
                      try clear hnow
                      try clear hk
                      try clear hza
                      try clear hwz2
                      try clear hza2
                      try clear hs1
                      try clear hs0
                      try clear HQO
                      try clear HBZ
                      try clear HA2
                      try clear G2
                      try clear HGS
                      try clear HCELL
                      try clear HOKO
                      try clear HGET
                      try clear HL2
                      try clear HCS2
                      try clear HPL2
                      try clear HRG2
                      try clear HBY
                      try clear HK5
                      try clear HOW5
                      try clear HB5
                      try clear HM5
                      try clear CO2
                      try clear HN1
                      try clear HN0
                      try clear HN'
                      try clear HN
                      try clear HBW'
                      try clear HOW'
                      try clear HREL'
                      try clear HINV'
                      try clear HM'
                      try clear HOK
                      try clear HCS
                      try clear G3
                      try clear G1
                      try clear HQM
                      try clear HWA
                      try clear HW3
                      try clear hz3
                      try clear HOW3
                      try clear HB3
                      try clear HM3
                      try clear HB1
                      try clear HM1
                      try clear CO1
                      try clear CPO
                      try clear CP3
                      try clear hc10
                      try clear hpm3
                      try clear hpm0
                      try clear HSA
                      try clear HPL
                      try clear HRG
                      try clear HLEN
                      try clear hmax
                      try clear hwz
                      try clear HCLT
                      try clear HBW
                      try clear HCM
                      try clear HINV
                      try clear hn0
                      try clear HSM
                      try clear h60
                      try clear HBN
                      try clear HMN
                      try clear CN
                      try clear HQ
                      try clear HBB
                      try clear HBA
                      try clear CS
                      try clear HSH
                      try clear HT
                      try clear HL
                      as_aux_lemma =>
                        go_wp2_with fail
                        go_quiet (fail)
                        go_wp2_with fail
                        go_meet
                        case rel => exact ⟨by first | rfl | simp [g5, g6], below_drewN' _ _⟩
                    · have g7 : (o.o.kind == 1) = false := by rw [beq_eq_false_iff_ne]; exact hkd
                      clear hkd
                      have ew1 : IntKind.i64.wrap ((j : Int) + 1) = (j : Int) + 1 := by rw [IntKind.wrap_i64]; omega
                      try clear hjl
                      try clear hj
                      try clear j2
                      try clear j1i
                      try clear j1
                      try clear CPN
                      try clear CA
                      try clear hlen
                      try clear HBX
                      try clear G3b
                      try clear hk180
                      try clear hlt
                      try clear hrs
                      try clear hnow
                      try clear hk
                      try clear hza
                      try clear hwz2
                      try clear hza2
                      try clear hs1
                      try clear hs0
                      try clear HQO
                      try clear HBZ
                      try clear HA2
                      try clear G2
                      try clear HGS
                      try clear HCELL
                      try clear HOKO
                      try clear HGET
                      try clear HL2
                      try clear HCS2
                      try clear HPL2
                      try clear HRG2
                      try clear HBY
                      try clear HK5
                      try clear HOW5
                      try clear HB5
                      try clear HM5
                      try clear CO2
                      try clear HN1
                      try clear HN0
                      try clear HN'
                      try clear HN
                      try clear HBW'
                      try clear HOW'
                      try clear HREL'
                      try clear HINV'
                      try clear HM'
                      try clear HOK
                      try clear HCS
                      try clear G3
                      try clear G1
                      try clear HQM
                      try clear HWA
                      try clear HW3
                      try clear hz3
                      try clear HOW3
                      try clear HB3
                      try clear HM3
                      try clear HB1
                      try clear HM1
                      try clear CO1
                      try clear CPO
                      try clear CP3
                      try clear hc10
                      try clear hpm3
                      try clear hpm0
                      try clear HSA
                      try clear HPL
                      try clear HRG
                      try clear HLEN
                      try clear hmax
                      try clear hwz
                      try clear HCLT
                      try clear HBW
                      try clear HCM
                      try clear HINV
                      try clear hn0
                      try clear HSM
                      try clear h60
                      try clear HBN
                      try clear HMN
                      try clear CN
                      try clear HQ
                      try clear HBB
                      try clear HBA
                      try clear CS
                      try clear HSH
                      try clear HT
                      try clear HL
                      as_aux_lemma =>
                        go_wp2_with fail
                        go_quiet (fail)
                        go_wp2_with fail
                        go_meet
                        case rel => exact ⟨by first | rfl | simp [g5, g6], below_drewN' _ _⟩
                  · have g4 : (0 : Int) < (j : Int) := by omega
                    obtain ⟨i, rfl⟩ : ∃ i, j = i + 1 := ⟨j - 1, by omega⟩
                    obtain ⟨p, hp⟩ : ∃ p, R'.rs[i]'(by rw [HN1.out]; omega) = p := ⟨_, rfl⟩
                    have hgp : R'.s.ops[i]? = some p.o := by rw [← HM'.out.ops, List.getElem?_map, List.getElem?_eq_getElem (by rw [HN1.out]; omega), hp]; rfl
                    obtain ⟨pa1, pa2⟩ := HINV'.out.pair i p.o o.o hgp HGET.out
                    have g5 : decide (o.o.start < p.o.start) = false := by rw [decide_eq_false_iff_not]; omega
                    have g6 : decide (o.o.start < p.o.end_) = false := by rw [decide_eq_false_iff_not]; omega
                    have g4b : decide ((0 : Int) < (i : Int) + 1) = true := by rw [decide_eq_true_eq]; omega
                    have g4c : decide (0 < i + 1) = true := by rw [decide_eq_true_eq]; omega
                    have hidi : o.o.id = (i : Int) + 1 + 1 := by have := HOKO.out.id; omega
                    clear g1
                    have g1 : (o.o.id != (i : Int) + 1 + 1) = false := by rw [bne_eq_false_iff_eq]; exact hidi
                    have i6 : (0 : Int) ≤ (i : Int) := by omega
                    have i7 : (i : Int) < (n1 : Int) := by omega
                    have i8 : (i : Int) + 1 < (n1 : Int) := by omega
                    have hgl : g < qo := by have h1 := HQO.out; have h2 := HGS.out; omega
                    have p2 : wa2.cell? ⟨g, i * 17 + 2, none⟩ = some (.int .i64 p.o.start) := (HA2.out.cell (p := ⟨g, i * 17 + 2, none⟩) hgl).trans ((HCELL.out i (by rw [HN1.out]; omega) 2 (by omega)).trans (by rw [hp]; rfl))
                    have p3 : wa2.cell? ⟨g, i * 17 + 3, none⟩ = some (.int .i64 p.o.end_) := (HA2.out.cell (p := ⟨g, i * 17 + 3, none⟩) hgl).trans ((HCELL.out i (by rw [HN1.out]; omega) 3 (by omega)).trans (by rw [hp]; rfl))
                    clear hj0 hp hgp pa1 pa2 hidi hgl
                    by_cases hkd : o.o.kind = 1
                    · obtain ⟨kd1, kd2⟩ := HOKO.out.kd hkd
                      have g7 : (o.o.kind == 1) = true := by rw [beq_iff_eq]; exact hkd
                      have g8 : (o.o.b.seq != o.o.id) = false := by rw [bne_eq_false_iff_eq]; exact kd1
                      have g9 : (o.o.b.session != 9) = false := by rw [bne_eq_false_iff_eq]; exact kd2
                      clear hkd kd1 kd2
                      have ew1 : IntKind.i64.wrap ((i : Int) + 1 + 1) = (i : Int) + 1 + 1 := by rw [IntKind.wrap_i64]; omega
                      have ew2 : IntKind.i64.wrap ((i : Int) + 1 - 1) = (i : Int) := by rw [IntKind.wrap_i64]; omega
                      have ew3 : IntKind.i64.wrap (i : Int) = (i : Int) := by rw [IntKind.wrap_i64]; omega
                      try clear hjl
                      try clear hj
                      try clear j2
                      try clear j1i
                      try clear j1
                      try clear CPN
                      try clear CA
                      try clear hlen
                      try clear HBX
                      try clear G3b
                      try clear hk180
                      try clear hlt
                      try clear hrs
                      try clear hnow
                      try clear hk
                      try clear hza
                      try clear hwz2
                      try clear hza2
                      try clear hs1
                      try clear hs0
                      try clear HQO
                      try clear HBZ
                      try clear HA2
                      try clear G2
                      try clear HGS
                      try clear HCELL
                      try clear HOKO
                      try clear HGET
                      try clear HL2
                      try clear HCS2
                      try clear HPL2
                      try clear HRG2
                      try clear HBY
                      try clear HK5
                      try clear HOW5
                      try clear HB5
                      try clear HM5
                      try clear CO2
                      try clear HN1
                      try clear HN0
                      try clear HN'
                      try clear HN
                      try clear HBW'
                      try clear HOW'
                      try clear HREL'
                      try clear HINV'
                      try clear HM'
                      try clear HOK
                      try clear HCS
                      try clear G3
                      try clear G1
                      try clear HQM
                      try clear HWA
                      try clear HW3
                      try clear hz3
                      try clear HOW3
                      try clear HB3
                      try clear HM3
                      try clear HB1
                      try clear HM1
                      try clear CO1
                      try clear CPO
                      try clear CP3
                      try clear hc10
                      try clear hpm3
                      try clear hpm0
                      try clear HSA
                      try clear HPL
                      try clear HRG
                      try clear HLEN
                      try clear hmax
                      try clear hwz
                      try clear HCLT
                      try clear HBW
                      try clear HCM
                      try clear HINV
                      try clear hn0
                      try clear HSM
                      try clear h60
                      try clear HBN
                      try clear HMN
                      try clear CN
                      try clear HQ
                      try clear HBB
                      try clear HBA
                      try clear CS
                      try clear HSH
                      try clear HT
                      try clear HL
                      as_aux_lemma =>
                        go_wp2_with fail
                        go_quiet (fail)
                        go_wp2_with fail
                        go_meet
                        case rel => exact ⟨by first | rfl | simp [g5, g6], below_drewN' _ _⟩
                    · have g7 : (o.o.kind == 1) = false := by rw [beq_eq_false_iff_ne]; exact hkd
                      clear hkd
                      have ew1 : IntKind.i64.wrap ((i : Int) + 1 + 1) = (i : Int) + 1 + 1 := by rw [IntKind.wrap_i64]; omega
                      have ew2 : IntKind.i64.wrap ((i : Int) + 1 - 1) = (i : Int) := by rw [IntKind.wrap_i64]; omega
                      have ew3 : IntKind.i64.wrap (i : Int) = (i : Int) := by rw [IntKind.wrap_i64]; omega
                      try clear hjl
                      try clear hj
                      try clear j2
                      try clear j1i
                      try clear j1
                      try clear CPN
                      try clear CA
                      try clear hlen
                      try clear HBX
                      try clear G3b
                      try clear hk180
                      try clear hlt
                      try clear hrs
                      try clear hnow
                      try clear hk
                      try clear hza
                      try clear hwz2
                      try clear hza2
                      try clear hs1
                      try clear hs0
                      try clear HQO
                      try clear HBZ
                      try clear HA2
                      try clear G2
                      try clear HGS
                      try clear HCELL
                      try clear HOKO
                      try clear HGET
                      try clear HL2
                      try clear HCS2
                      try clear HPL2
                      try clear HRG2
                      try clear HBY
                      try clear HK5
                      try clear HOW5
                      try clear HB5
                      try clear HM5
                      try clear CO2
                      try clear HN1
                      try clear HN0
                      try clear HN'
                      try clear HN
                      try clear HBW'
                      try clear HOW'
                      try clear HREL'
                      try clear HINV'
                      try clear HM'
                      try clear HOK
                      try clear HCS
                      try clear G3
                      try clear G1
                      try clear HQM
                      try clear HWA
                      try clear HW3
                      try clear hz3
                      try clear HOW3
                      try clear HB3
                      try clear HM3
                      try clear HB1
                      try clear HM1
                      try clear CO1
                      try clear CPO
                      try clear CP3
                      try clear hc10
                      try clear hpm3
                      try clear hpm0
                      try clear HSA
                      try clear HPL
                      try clear HRG
                      try clear HLEN
                      try clear hmax
                      try clear hwz
                      try clear HCLT
                      try clear HBW
                      try clear HCM
                      try clear HINV
                      try clear hn0
                      try clear HSM
                      try clear h60
                      try clear HBN
                      try clear HMN
                      try clear CN
                      try clear HQ
                      try clear HBB
                      try clear HBA
                      try clear CS
                      try clear HSH
                      try clear HT
                      try clear HL
                      as_aux_lemma =>
                        go_wp2_with fail
                        go_quiet (fail)
                        go_wp2_with fail
                        go_meet
                        case rel => exact ⟨by first | rfl | simp [g5, g6], below_drewN' _ _⟩
              case rest =>
                obtain ⟨rfl, hbx⟩ := hcut
                have G3b := Lib.hid ((hbx.block qo hza2).trans G2.out)
                have HBX := Lib.hid (HBZ.out.trans (hbx.mono (Nat.le_trans hwz2 (Nat.le_of_lt hza2))))
                clear hbx
                go_upto_region 40 with fail
                go_cut [242] from 150 to 242 (fun s242 wx => s242 = .bool false ∧ Below wc.heap.size wc wx)
                case first =>
                  have z3 : wc.cell? ⟨qo, 3, none⟩ = some (.int .i64 o.o.end_) := by rw [Lib.cell_of_heap G3b.out, HCS2.out]; rfl
                  rcases (show j + 1 < n0 ∨ j + 1 = n0 ∨ n0 ≤ j by omega) with hc | hc | hc
                  · have b1 : (j : Int) < (n0 : Int) := by omega
                    have b2 : (j : Int) < (n0 : Int) - 1 := by omega
                    have hrw := own_below HBX.out HOW5.out
                    obtain ⟨gw, cw, hvw, -, -, hcw⟩ := row_at hrw (by rw [HN0.out]; omega)
                    rw [HN0.out] at hvw
                    obtain ⟨rfl, -, rfl⟩ : wb = some ⟨gw, 0, none⟩ ∧ n0 = n0 ∧ wk = cw := by injection hvw with e1 e2 e3; exact ⟨e1, e2, e3⟩
                    obtain ⟨ow, how2⟩ : ∃ ow, R.rs[j]'(by rw [HN0.out]; omega) = ow := ⟨_, rfl⟩
                    have hgw : R.s.ops[j]? = some ow.o := by rw [← HCM.out.ops, List.getElem?_map, List.getElem?_eq_getElem (by rw [HN0.out]; omega), how2]; rfl
                    have hee := HREL'.out.same j ow.o o.o (by rw [← HN.out, HN0.out]; exact hc) hgw HGET.out
                    have y3 : wc.cell? ⟨gw, j * 17 + 3, none⟩ = some (.int .i64 ow.o.end_) := (hcw j (by rw [HN0.out]; omega) 3 (by omega)).trans (by rw [how2]; rfl)
                    have b3 : (o.o.end_ != ow.o.end_) = false := by rw [bne_eq_false_iff_eq]; exact hee
                    clear hrw hvw hcw how2 hgw hee hc
                    have ew : IntKind.i64.wrap ((n0 : Int) - 1) = (n0 : Int) - 1 := by rw [IntKind.wrap_i64]; omega
                    try clear hjl
                    try clear hj
                    try clear j2
                    try clear j1i
                    try clear j1
                    try clear CPN
                    try clear CA
                    try clear hlen
                    try clear HBX
                    try clear G3b
                    try clear hk180
                    try clear hlt
                    try clear hrs
                    try clear hnow
                    try clear hk
                    try clear hza
                    try clear hwz2
                    try clear hza2
                    try clear hs1
                    try clear hs0
                    try clear HQO
                    try clear HBZ
                    try clear HA2
                    try clear G2
                    try clear HGS
                    try clear HCELL
                    try clear HOKO
                    try clear HGET
                    try clear HL2
                    try clear HCS2
                    try clear HPL2
                    try clear HRG2
                    try clear HBY
                    try clear HK5
                    try clear HOW5
                    try clear HB5
                    try clear HM5
                    try clear CO2
                    try clear HN1
                    try clear HN0
                    try clear HN'
                    try clear HN
                    try clear HBW'
                    try clear HOW'
                    try clear HREL'
                    try clear HINV'
                    try clear HM'
                    try clear HOK
                    try clear HCS
                    try clear G3
                    try clear G1
                    try clear HQM
                    try clear HWA
                    try clear HW3
                    try clear hz3
                    try clear HOW3
                    try clear HB3
                    try clear HM3
                    try clear HB1
                    try clear HM1
                    try clear CO1
                    try clear CPO
                    try clear CP3
                    try clear hc10
                    try clear hpm3
                    try clear hpm0
                    try clear HSA
                    try clear HPL
                    try clear HRG
                    try clear HLEN
                    try clear hmax
                    try clear hwz
                    try clear HCLT
                    try clear HBW
                    try clear HCM
                    try clear HINV
                    try clear hn0
                    try clear HSM
                    try clear h60
                    try clear HBN
                    try clear HMN
                    try clear CN
                    try clear HQ
                    try clear HBB
                    try clear HBA
                    try clear CS
                    try clear HSH
                    try clear HT
                    try clear HL
                    as_aux_lemma =>
                      go_wp2_with fail
                      go_quiet (fail)
                      go_wp2_with fail
                      go_meet
                      case rel => exact ⟨rfl, below_drewN' _ _⟩
                  · have b1 : (j : Int) < (n0 : Int) := by omega
                    have b2 : decide ((j : Int) < (n0 : Int) - 1) = false := by rw [decide_eq_false_iff_not]; omega
                    clear hc
                    have ew : IntKind.i64.wrap ((n0 : Int) - 1) = (n0 : Int) - 1 := by rw [IntKind.wrap_i64]; omega
                    try clear hjl
                    try clear hj
                    try clear j2
                    try clear j1i
                    try clear j1
                    try clear CPN
                    try clear CA
                    try clear hlen
                    try clear HBX
                    try clear G3b
                    try clear hk180
                    try clear hlt
                    try clear hrs
                    try clear hnow
                    try clear hk
                    try clear hza
                    try clear hwz2
                    try clear hza2
                    try clear hs1
                    try clear hs0
                    try clear HQO
                    try clear HBZ
                    try clear HA2
                    try clear G2
                    try clear HGS
                    try clear HCELL
                    try clear HOKO
                    try clear HGET
                    try clear HL2
                    try clear HCS2
                    try clear HPL2
                    try clear HRG2
                    try clear HBY
                    try clear HK5
                    try clear HOW5
                    try clear HB5
                    try clear HM5
                    try clear CO2
                    try clear HN1
                    try clear HN0
                    try clear HN'
                    try clear HN
                    try clear HBW'
                    try clear HOW'
                    try clear HREL'
                    try clear HINV'
                    try clear HM'
                    try clear HOK
                    try clear HCS
                    try clear G3
                    try clear G1
                    try clear HQM
                    try clear HWA
                    try clear HW3
                    try clear hz3
                    try clear HOW3
                    try clear HB3
                    try clear HM3
                    try clear HB1
                    try clear HM1
                    try clear CO1
                    try clear CPO
                    try clear CP3
                    try clear hc10
                    try clear hpm3
                    try clear hpm0
                    try clear HSA
                    try clear HPL
                    try clear HRG
                    try clear HLEN
                    try clear hmax
                    try clear hwz
                    try clear HCLT
                    try clear HBW
                    try clear HCM
                    try clear HINV
                    try clear hn0
                    try clear HSM
                    try clear h60
                    try clear HBN
                    try clear HMN
                    try clear CN
                    try clear HQ
                    try clear HBB
                    try clear HBA
                    try clear CS
                    try clear HSH
                    try clear HT
                    try clear HL
                    as_aux_lemma =>
                      go_wp2_with fail
                      go_quiet (fail)
                      go_wp2_with fail
                      go_meet
                      case rel => exact ⟨rfl, below_drewN' _ _⟩
                  · have b1 : decide (j < n0) = false := by rw [decide_eq_false_iff_not]; omega
                    have b1i : decide ((j : Int) < (n0 : Int)) = false := by rw [decide_eq_false_iff_not]; omega
                    clear hc
                    have ew : IntKind.i64.wrap ((n0 : Int) - 1) = (n0 : Int) - 1 := by rw [IntKind.wrap_i64]; omega
                    try clear hjl
                    try clear hj
                    try clear j2
                    try clear j1i
                    try clear j1
                    try clear CPN
                    try clear CA
                    try clear hlen
                    try clear HBX
                    try clear G3b
                    try clear hk180
                    try clear hlt
                    try clear hrs
                    try clear hnow
                    try clear hk
                    try clear hza
                    try clear hwz2
                    try clear hza2
                    try clear hs1
                    try clear hs0
                    try clear HQO
                    try clear HBZ
                    try clear HA2
                    try clear G2
                    try clear HGS
                    try clear HCELL
                    try clear HOKO
                    try clear HGET
                    try clear HL2
                    try clear HCS2
                    try clear HPL2
                    try clear HRG2
                    try clear HBY
                    try clear HK5
                    try clear HOW5
                    try clear HB5
                    try clear HM5
                    try clear CO2
                    try clear HN1
                    try clear HN0
                    try clear HN'
                    try clear HN
                    try clear HBW'
                    try clear HOW'
                    try clear HREL'
                    try clear HINV'
                    try clear HM'
                    try clear HOK
                    try clear HCS
                    try clear G3
                    try clear G1
                    try clear HQM
                    try clear HWA
                    try clear HW3
                    try clear hz3
                    try clear HOW3
                    try clear HB3
                    try clear HM3
                    try clear HB1
                    try clear HM1
                    try clear CO1
                    try clear CPO
                    try clear CP3
                    try clear hc10
                    try clear hpm3
                    try clear hpm0
                    try clear HSA
                    try clear HPL
                    try clear HRG
                    try clear HLEN
                    try clear hmax
                    try clear hwz
                    try clear HCLT
                    try clear HBW
                    try clear HCM
                    try clear HINV
                    try clear hn0
                    try clear HSM
                    try clear h60
                    try clear HBN
                    try clear HMN
                    try clear CN
                    try clear HQ
                    try clear HBB
                    try clear HBA
                    try clear CS
                    try clear HSH
                    try clear HT
                    try clear HL
                    as_aux_lemma =>
                      go_wp2_with fail
                      go_quiet (fail)
                      go_wp2_with fail
                      go_meet
                      case rel => exact ⟨rfl, below_drewN' _ _⟩
                case rest =>
                  obtain ⟨rfl, hbx2⟩ := hcut
                  go_wp2_with fail
                  go_roundg (n1 - (j + 1))
                  case measure => rw [HGN.out]; omega
                  case rel => exact ⟨j + 1, by omega, rfl, by go_num, HBX.out.trans (hbx2.mono HBX.out.size)⟩
            · have g : ¬ ((j : Int) < (n1 : Int)) := by omega
              have HMY := Lib.hid (HM5.out.keep HBY.out)
              have HFB := Lib.hid (HB5.out.trans (HBY.out.mono HB5.out.size))
              have hcp := pending_any (fun _ => False) w.heap.size c R' wr HMY.out
              have hfn : R'.rs.length ≤ k + 1 := by rw [HN1.out]; omega
              cases hp : R'.s.pending with
              | false =>
                rw [hp] at hcp
                have CP := Lib.hid hcp
                clear hcp hp
                go_wp2_with fail
                refine CP.out.mono ?_
                rintro e wz ⟨rfl, rfl⟩
                go_wp2_with fail
                go_roundw
                case rel => exact ⟨k + 1, now + pm, R', by omega, by go_num, rfl, HINV'.out, by omega, hfn, HMY.out, HFB.out⟩
                case measure => simp [intOf]; omega
              | true =>
                rw [hp] at hcp
                have CP := Lib.hid hcp
                obtain ⟨lq, rq, hlq, hrq⟩ := HINV'.out.pend hp
                have hn1 : n1 = lq.length + 1 := by rw [← HN1.out, HN'.out, hlq]; simp
                obtain ⟨i, hi⟩ : ∃ i, lq.length = i := ⟨_, rfl⟩
                rw [hi] at hn1
                subst hn1
                have hrow := own_below HBY.out HK5.out
                rw [← HN1.out] at hrow
                obtain ⟨g4, cap4, hv, -, -, hcell⟩ := row_at hrow (by rw [HN1.out]; omega)
                rw [HN1.out] at hv
                obtain ⟨rfl, -, rfl⟩ : kb = some ⟨g4, 0, none⟩ ∧ i + 1 = i + 1 ∧ kk = cap4 := by injection hv with e1 e2 e3; exact ⟨e1, e2, e3⟩
                obtain ⟨o, ho⟩ : ∃ o, R'.rs[i]'(by rw [HN1.out]; omega) = o := ⟨_, rfl⟩
                have hget : R'.s.ops[i]? = some o.o := by rw [← HM'.out.ops, List.getElem?_map, List.getElem?_eq_getElem (by rw [HN1.out]; omega), ho]; rfl
                have hoe : o.o.end_ = -1 := by
                  rw [hlq, ← hi, List.getElem?_append_right (Nat.le_refl _), Nat.sub_self] at hget
                  have := Option.some.inj hget
                  rw [← this]
                  exact hrq
                have y3 : wr.cell? ⟨g4, i * 17 + 3, none⟩ = some (.int .i64 (-1)) := by
                  rw [hcell i (by rw [HN1.out]; omega) 3 (by omega), ho, ← hoe]
                  rfl
                have e0 : ((i : Int) + 1 == 0) = false := by rw [beq_eq_false_iff_ne]; omega
                have e1 : (0 : Int) ≤ (i : Int) := by omega
                have e2 : (i : Int) < (i : Int) + 1 := by omega
                have e3 : (i : Int) ≤ 61 := by omega
                clear hcp hp hlq hrq hi hrow hv hcell ho hget hoe
                go_wp2_with fail
                refine CP.out.mono ?_
                rintro e wz ⟨rfl, rfl⟩
                go_wp2_with fail
                go_roundw
                case rel => exact ⟨k + 1, now + pm, R', by omega, by go_num, rfl, HINV'.out, by omega, hfn, HMY.out, HFB.out⟩
                case measure => simp [intOf]; omega
      · have g : ¬ ((k : Int) < (l.length : Int)) := by omega
        go_wp2_with fail
        go_ret
        exact ⟨rfl, HBW.out⟩
end Go.Proofs.YtapgjjfndbfnpaaDoor
