/-
  The walk of bucketlinelaw22.ClientPlays. Printed by gen_cliplays.py of this claim's writer.
-/
import Derived.Test.YtapgjjfndbfnpaaDoorCliReg2
import Derived.Test.YtapgjjfndbfnpaaDoorCliReg3
import Derived.Test.YtapgjjfndbfnpaaDoorCliOnce
import Derived.Test.YtapgjjfndbfnpaaDoorCliRead
import Derived.Deep.CutBlock
import Derived.Deep.CutRange
import Derived.BigQuiet
import Derived.IntWalk
namespace Go.Proofs.YtapgjjfndbfnpaaDoor
open Go.RowKit
set_option linter.unusedSimpArgs false
set_option linter.unusedVariables false

theorem pair_of4 {A B : Type} (x : A × B) : ∃ a b, x = (a, b) := ⟨x.1, x.2, rfl⟩
theorem triple_of4 {A B C : Type} (x : A × B × C) : ∃ a b c, x = (a, b, c) := ⟨x.1, x.2.1, x.2.2, rfl⟩
theorem both_new {w : World} {session wait : Int} {lo : Nat} (hlo : lo ≤ w.heap.size) :
    BothM lo w.heap.size (w.alloc (.cells (newR session wait).cells 94)).heap.size ((w.alloc (.cells (newR session wait).cells 94)).alloc (.cells (newR session wait).cells 70)) (newR session wait) (newR session wait) := by
  have hb := (Below.refl (w.alloc (.cells (newR session wait).cells 94)).heap.size (w.alloc (.cells (newR session wait).cells 94))).alloc (Nat.le_refl _) (.cells (newR session wait).cells 70)
  have hm1 : ∀ b k, (newR session wait).mut b k → k = b := fun b k hk => by
    rcases hk with e | e
    · exact e
    · exact absurd e (by simp [newR, Value.ownBlock])
  refine ⟨rfl, (newR_is (fun _ => False) lo w session wait hlo (fun k hk => hk.elim)).other (kept_below hb) (fun _ h => h) (fun k hk hx => ?_) (fun k hx => ?_), Rf.newR_is _ lo _ session wait (by rw [World.size_alloc]; omega) (fun k hk => by rw [hm1 _ k hk, World.size_alloc]; omega)⟩
  · have := hm1 _ k hx
    omega
  · rw [hm1 _ k hx]
    simp only [World.size_alloc]
    omega

theorem row_form5 {w : World} {base n sz : Nat} {e : TypeId} {v : Value} {xs : List Value} (h : w.ownsRow base e sz v n xs) : ∃ a cap, v = .slice a n cap := by
  rcases h.2 with ⟨e1, e2⟩ | ⟨g, cap, cur, e1, _⟩
  · exact ⟨none, 0, by rw [e1, e2]⟩
  · exact ⟨_, cap, e1⟩
theorem row_at5 {w : World} {base : Nat} {v : Value} {rs : List OpR} (h : w.ownsRow base 56 17 v rs.length (ocells rs)) (hp : 0 < rs.length) : ∃ g cap, v = .slice (some ⟨g, 0, none⟩) rs.length cap ∧ base ≤ g ∧ g < w.heap.size ∧ ∀ i, (hi : i < rs.length) → ∀ j, j < 17 → w.cell? ⟨g, i * 17 + j, none⟩ = rs[i].cells[j]? := by
  rcases h.2 with ⟨_, e⟩ | ⟨g, cap, cur, e, hb, hg, r1, r2, r3, r4⟩
  · omega
  · exact ⟨g, cap, e, hb, (Array.getElem?_eq_some_iff.1 hg).1, fun i hi j hj => row_cell hg r4 i j hi hj rfl⟩

set_option maxRecDepth 100000 in
set_option maxHeartbeats 64000000 in
theorem walkClientPlays (session wait : Int) (v2 : Value) (w : World) (hT : Tabs w) (hv : ∃ l, IsActs w.heap.size w v2 l) :
    Calls Tryd.prog 5 #[.int .i64 session, .int .i64 wait, v2] w fun e w' => e = .returned (.bool true) ∧ Below w.heap.size w w' := by
  obtain ⟨l, hl⟩ := hv
  have HL := Lib.hid hl
  have HT := Lib.hid hT
  obtain ⟨la, lk, rfl⟩ := hl.form
  have hmax : l.length ≤ 9223372036854775807 := by obtain ⟨_, _, he, h1, h2, _⟩ := hl; unfold maxLen at h2; omega
  have HSH := Lib.hid (shown22_any w hT)
  clear hl hT
  go_enter Tryd.func5, Tryd.ntmps5
  go_wp2_with fail
  refine HSH.out.mono ?_
  rintro e wA ⟨rfl, hbA⟩
  have HBA := Lib.hid hbA
  have CS := Lib.hid (small22_any w.heap.size _ l wA (HL.out.keep hbA (Nat.le_refl _)) hbA.size)
  clear hbA
  go_wp2_with fail
  refine CS.out.mono ?_
  rintro e wB ⟨q, rfl, hq, hbB⟩
  have HBB := Lib.hid (HBA.out.trans (hbB.mono HBA.out.size))
  have HQ := Lib.hid hq
  clear hbB hq HSH CS
  cases q with
  | false =>
    go_wp2_with fail
    go_ret
    exact ⟨rfl, HBB.out⟩
  | true =>
    have hsm := HQ.out (by trivial)
    have h60 := hsm.1
    have HSM := Lib.hid hsm.2
    clear hsm
    cases hno : newOk session wait with
    | false =>
      have CN := Lib.hid (new_no session wait hno wB)
      have CM := Lib.hid (Rf.new_no session wait hno wB)
      clear hno
      go_wp2_with fail
      refine CN.out.mono ?_
      rintro e wC ⟨rfl, rfl⟩
      go_wp2_with fail
      refine CM.out.mono ?_
      rintro e wC ⟨rfl, rfl⟩
      go_wp2_with fail
      go_ret
      exact ⟨rfl, HBB.out⟩
    | true =>
      have CN := Lib.hid (new_ok session wait hno wB)
      have CM := Lib.hid (Rf.new_ok session wait hno (wB.alloc (.cells (newR session wait).cells 94)))
      have hwt : 1 ≤ wait ∧ wait ≤ 1073741824 := by simp [newOk] at hno; omega
      obtain ⟨hw1, hw2⟩ := hwt
      have HBO := Lib.hid (both_new (session := session) (wait := wait) HBB.out.size)
      have HBD := Lib.hid ((HBB.out.alloc HBB.out.size (.cells (newR session wait).cells 94)).alloc (by rw [World.size_alloc]; have := HBB.out.size; omega) (.cells (newR session wait).cells 70))
      clear hno
      go_wp2_with fail
      refine CN.out.mono ?_
      rintro e wC ⟨rfl, rfl⟩
      go_wp2_with fail
      refine CM.out.mono ?_
      rintro e wD ⟨rfl, rfl⟩
      clear CN CM
      generalize (wB.alloc (.cells (newR session wait).cells 94)).alloc (.cells (newR session wait).cells 70) = ws at *
      generalize hm0 : (wB.alloc (.cells (newR session wait).cells 94)).heap.size = m at *
      generalize hc0 : wB.heap.size = c at *
      clear hm0 hc0
      go_wp2_with fail
      go_loopw [10, 12, 13, 14] (fun t10 t12 t13 t14 wr => ∃ (k err : Nat) (now : Int) (R Q : ClR), k ≤ l.length ∧ t14 = .int .i64 k ∧ t13 = .int .i64 now ∧ t10 = .int .i64 err ∧ t12 = .int .i64 err ∧ 0 ≤ now ∧ now ≤ 4294967296 * (k : Int) ∧ BothM w.heap.size c m wr R Q ∧ InvT wait now k R.s ∧ Below w.heap.size w wr) (fun _ _ _ t14 _ => l.length - (intOf t14).toNat)
      case atStart => exact ⟨0, 0, 0, newR session wait, newR session wait, Nat.zero_le _, rfl, rfl, rfl, rfl, by omega, by omega, HBO.out, ⟨⟨fun o ho => absurd ho (by simp [newR]), fun e => by cases e⟩, rfl, by simp [newR], by simp [newR], by simp [newR]⟩, HBD.out⟩
      case round =>
        obtain ⟨k, err, now, R, Q, hk, rfl, rfl, rfl, rfl, hn0, hnow, hbo, hinv, hbw⟩ := hrel
        have HBO := Lib.hid hbo
        have HINV := Lib.hid hinv
        have HBW := Lib.hid hbw
        have hwz : w.heap.size ≤ wr.heap.size := hbw.size
        clear hbo hinv hbw
        by_cases hlt : k < l.length
        · obtain ⟨b, off, cap', he, hblk, hrg⟩ := (HL.out.keep HBW.out (Nat.le_refl _)).range k hlt
          have hok := (HL.out.keep HBW.out (Nat.le_refl _)).ok k hlt
          obtain ⟨rfl, -, rfl⟩ : la = some ⟨b, off, none⟩ ∧ l.length = l.length ∧ lk = cap' := by injection he with e1 e2 e3; exact ⟨e1, e2, e3⟩
          clear he
          have hsa := HSM.out k hlt
          obtain ⟨r, hr⟩ : ∃ r, l[k] = r := ⟨_, rfl⟩
          rw [hr] at hrg hok hsa
          obtain ⟨ba, bk, ca, ck, sa, sk, oa, ok, ea, ek, hform⟩ := hok.forms
          have hpl := hok.plain
          have HOK := Lib.hid (show (⟨r.a, .slice ba r.a.b.events.length bk, .slice ca r.a.v.chain.length ck, .slice sa r.a.v.since.length sk, .slice oa r.a.v.boot.length ok, .slice ea r.a.events.length ek⟩ : AcR).Ok w.heap.size wr by rw [← hform]; exact hok)
          obtain ⟨cs, hcs⟩ : ∃ cs, r.cells = cs := ⟨_, rfl⟩
          have hlen : cs.length = 19 := by rw [← hcs]; rfl
          have HCS := Lib.hid (show cs = [.int .i64 r.a.op, .int .i64 r.a.n, .int .i64 r.a.m, .string r.a.b.stream, .int .i64 r.a.b.expect, .int .i64 r.a.b.session, .int .i64 r.a.b.seq, .slice ba r.a.b.events.length bk, .string r.a.stream, .int .i64 r.a.from_, .int .i64 r.a.v.epoch, .slice ca r.a.v.chain.length ck, .slice sa r.a.v.since.length sk, .slice oa r.a.v.boot.length ok, .int .i64 r.a.out.code, .int .i64 r.a.out.pos, .int .i64 r.a.out.first, .int .i64 r.a.out.version, .slice ea r.a.events.length ek] from hcs.symm.trans ((congrArg AcR.cells hform).trans rfl))
          rw [hcs] at hrg hpl
          have HLEN := Lib.hid hlen
          have HRG := Lib.hid hrg
          have HPL := Lib.hid hpl
          have HSA := Lib.hid hsa
          obtain ⟨ci, hci⟩ : ∃ ci : Int, ((pickT r.a.op 10 : Nat) : Int) = ci := ⟨_, rfl⟩
          have hc10 : ci = 0 ∨ ci = 1 ∨ ci = 2 ∨ ci = 3 ∨ ci = 4 ∨ ci = 5 ∨ ci = 6 ∨ ci = 7 ∨ ci = 8 ∨ ci = 9 := by
            have := pick_lt r.a.op 10 (by omega)
            omega
          have CPO := Lib.hid (fun (X' : World) => (show Calls Tryd.prog 14 #[.int .i64 r.a.op, .int .i64 10] X' fun r w' => r = .returned (.int .i64 ci) ∧ X' = w' by have h := pick_any r.a.op hok.op 10 (by omega) (by omega) X'; rw [hci] at h; exact h))
          obtain ⟨p6, hp6⟩ : ∃ p6 : Nat, pickT r.a.n 6 = p6 := ⟨_, rfl⟩
          have hp6l : p6 < 6 := by rw [← hp6]; exact pick_lt r.a.n 6 (by omega)
          have CP6 := Lib.hid (fun (X' : World) => (show Calls Tryd.prog 14 #[.int .i64 r.a.n, .int .i64 6] X' fun r w' => r = .returned (.int .i64 (p6 : Int)) ∧ w' = X' by have h := pick_any r.a.n hok.n 6 (by omega) (by omega) X'; rw [hp6] at h; exact h.mono fun _ _ ⟨h1, h2⟩ => ⟨h1, h2.symm⟩))
          have i1 : (0 : Int) ≤ (k : Int) := by omega
          have i2 : (k : Int) < (l.length : Int) := by omega
          have hk180 : (k : Int) ≤ 60 := by omega
          have hA1 := (Below.refl wr.heap.size wr).alloc (Nat.le_refl _) (.cells cs.toArray 33)
          have HWA := Lib.hid hA1
          have G1 := Lib.hid (heap_alloc_new wr (.cells cs.toArray 33))
          have HB1 := Lib.hid (HBO.out.below hA1)
          have HW1 := Lib.hid (HBW.out.trans (hA1.mono HBW.out.size))
          have hst : (storeCells ⟨wr.heap.size, 0, none⟩ cs).run Tryd.prog (wr.alloc (.cells #[.int .i64 0, .int .i64 0, .int .i64 0, .string ⟨#[]⟩, .int .i64 0, .int .i64 0, .int .i64 0, .slice none 0 0, .string ⟨#[]⟩, .int .i64 0, .int .i64 0, .slice none 0 0, .slice none 0 0, .slice none 0 0, .int .i64 0, .int .i64 0, .int .i64 0, .int .i64 0, .slice none 0 0] 33)) = .ok () (wr.alloc (.cells cs.toArray 33)) := run_storeCells_new wr 33 #[.int .i64 0, .int .i64 0, .int .i64 0, .string ⟨#[]⟩, .int .i64 0, .int .i64 0, .int .i64 0, .slice none 0 0, .string ⟨#[]⟩, .int .i64 0, .int .i64 0, .slice none 0 0, .slice none 0 0, .slice none 0 0, .int .i64 0, .int .i64 0, .int .i64 0, .int .i64 0, .slice none 0 0] cs.toArray (by rw [List.size_toArray, HLEN.out]; exact actsize) (by rw [show cs.toArray.size = 19 from HLEN.out]; rfl) HPL.out
          have hls : cs.length = 19 := HLEN.out
          have HQM := Lib.hid (show ¬ R.mut c wr.heap.size ∧ ¬ Q.mut m wr.heap.size from ⟨fun hu => by have := (HBO.out.hc.mutlo _ hu).2; omega, fun hu => by have := (HBO.out.hm.mutlo _ hu).2; omega⟩)
          clear hrg hok hsa hform hpl hcs hlen hr hci hA1 hblk hp6
          go_upto_region 14 with (refine wpList_load_mid rfl 33 _ rfl b (off + k * 19) (by rfl) cs _ HRG.out Tryd.underlying33 rfl (by rw [HLEN.out]; exact actsize) ?_)
          clear hst hls
          generalize wr.alloc (.cells cs.toArray 33) = wa at *
          have hza : wr.heap.size < wa.heap.size := (Array.getElem?_eq_some_iff.1 G1.out).1
          generalize hqq : wr.heap.size = q at *
          clear hqq
          have y1 : wa.cell? ⟨q, 1, none⟩ = some (.int .i64 r.a.n) := by rw [Lib.cell_of_heap G1.out, HCS.out]; rfl
          obtain ⟨xa, xk, hov⟩ := HB1.out.hm.form
          have z2 : wa.cell? ⟨m, 2, none⟩ = some (.slice xa Q.rs.length xk) := by rw [← hov]; exact HB1.out.hm.c2
          have hqr : Q.rs.length = R.s.ops.length := HB1.out.hm.len.trans (by rw [HB1.out.same])
          have hqn : Q.rs.length ≤ k := by rw [hqr]; exact HINV.out.ln
          have HQR := Lib.hid hqr
          clear hqr
          obtain ⟨i5, hi5, hi52⟩ : ∃ i5 : Nat, (p6 : Int).tdiv 5 = (i5 : Int) ∧ i5 ≤ 1 := ⟨p6 / 5, by rw [Int.tdiv_eq_ediv_of_nonneg (by omega)]; rfl, by omega⟩
          have ew5 : IntKind.i64.wrap (i5 : Int) = (i5 : Int) := by rw [IntKind.wrap_i64]; omega
          have ewi : IntKind.i64.wrap ((Q.rs.length : Int) + (i5 : Int)) = (Q.rs.length : Int) + (i5 : Int) := by rw [IntKind.wrap_i64]; omega
          clear hov
          go_upto_region 16 with fail
          go_quiet (refine Calls.quiet_of_same (CP6.out _))
          have HBd := Lib.hid (HB1.out.below (below_drewN' wa nq))
          have HWd := Lib.hid (HWA.out.trans ((below_drewN' wa nq).mono (Nat.le_of_lt hza)))
          have HW2 := Lib.hid (below_drewN HW1.out nq)
          have Gd := Lib.hid (show (wa.drewN nq).heap[q]? = _ from G1.out)
          clear y1 z2
          generalize wa.drewN nq = wd at *
          obtain ⟨id, hid⟩ : ∃ id : Int, (Q.rs.length : Int) + (i5 : Int) = id := ⟨_, rfl⟩
          rw [hid] at *
          have HID := Lib.hid hid
          have y0 : wd.cell? ⟨q, 0, none⟩ = some (.int .i64 r.a.op) := by rw [Lib.cell_of_heap Gd.out, HCS.out]; rfl
          clear hid ew5 ewi hi5
          go_wp2_with fail
          refine (CPO.out _).mono ?_
          rintro e wd' ⟨rfl, rfl⟩
          clear y0
          go_upto_block 2 with fail
          go_cut [10, 12, 13, 16, 17] from 93 to 372 (fun s10 s12 s13 s16 s17 wx => ∃ (err1 : Nat) (now1 : Int) (R1 Q1 : ClR) (outs : List OutR), s10 = .int .i64 err1 ∧ s12 = .int .i64 err1 ∧ s13 = .int .i64 now1 ∧ 0 ≤ now1 ∧ now1 ≤ now + 4294967296 ∧ BothM w.heap.size c m wx R1 Q1 ∧ InvT wait now1 (k + 1) R1.s ∧ Told w.heap.size wx s16 s17 R1.s outs ∧ Below w.heap.size w wx)
          case first =>
            rcases hc10 with rfl | rfl | rfl | rfl | rfl | rfl | rfl | rfl | rfl | rfl
            · as_aux_lemma =>
                have y3 : wd.cell? ⟨q, 3, none⟩ = some (.string r.a.b.stream) := by rw [Lib.cell_of_heap Gd.out, HCS.out]; rfl
                have y4 : wd.cell? ⟨q, 4, none⟩ = some (.int .i64 r.a.b.expect) := by rw [Lib.cell_of_heap Gd.out, HCS.out]; rfl
                have y7 : wd.cell? ⟨q, 7, none⟩ = some (.slice ba r.a.b.events.length bk) := by rw [Lib.cell_of_heap Gd.out, HCS.out]; rfl
                obtain ⟨s2, outs2, err2, hap⟩ := triple_of4 (appendS R.s r.a.b.stream r.a.b.expect r.a.b.events now)
                have HAP := Lib.hid hap
                have HEV := Lib.hid (fun (X : World) (hb : Below w.heap.size wd X) => (show IsEvents w.heap.size X (.slice ba r.a.b.events.length bk) (r.a.b.events) from (HOK.out.bev.keep (B' := q) HWd.out hwz).keep hb (Nat.le_refl _)))
                have CA := Lib.hid (append_any (fun k => Q.mut m k) w.heap.size c R wd HBd.out.hc (by have h1 := HBd.out.hc.len; have h2 := HINV.out.ln; omega) (tabs_below HT.out HW2.out) r.a.b.stream r.a.b.expect _ r.a.b.events ((HEV.out wd (Below.refl _ _)).up HW2.out.size) (by have := HSA.out.b; omega) now s2 outs2 err2 hap)
                clear hap
                go_wp2_with fail
                refine CA.out.mono ?_
                rintro e w4 ⟨v, rfl, hd⟩
                obtain ⟨R1, outs, hh, hpl, hst⟩ := half_of HBd.out hd
                have HH := Lib.hid hh
                have HPLN := Lib.hid hpl
                have G4 := Lib.hid ((hst.kept.block q (Array.getElem?_eq_some_iff.1 Gd.out).1 HQM.out.1).trans Gd.out)
                clear hd hh hpl hst
                have x3 : w4.cell? ⟨q, 3, none⟩ = some (.string r.a.b.stream) := by rw [Lib.cell_of_heap G4.out, HCS.out]; rfl
                have x4 : w4.cell? ⟨q, 4, none⟩ = some (.int .i64 r.a.b.expect) := by rw [Lib.cell_of_heap G4.out, HCS.out]; rfl
                have x7 : w4.cell? ⟨q, 7, none⟩ = some (.slice ba r.a.b.events.length bk) := by rw [Lib.cell_of_heap G4.out, HCS.out]; rfl
                have CB := Lib.hid (Rf.append_any (fun k => R1.mut c k) w.heap.size m Q w4 HH.out.hm (by have h1 := HBd.out.hm.len; rw [HBd.out.same] at h1; have h2 := HINV.out.ln; omega) r.a.b.stream r.a.b.expect _ r.a.b.events (eva_arg (HEV.out w4 HH.out.below) (HW2.out.trans HH.out.below).size (fun j hj => hj.elim (fun hj => (HH.out.hm.mutlo j hj).1) (fun hj => (HH.out.hc.mutlo j hj).1))) ⟨HSA.out.lb.s, HSA.out.lb.n, HSA.out.lb.e⟩ now s2 outs2 err2 (by rw [HBd.out.same]; exact HAP.out))
                clear y3 y4 y7
                go_wp2_with fail
                refine CB.out.mono ?_
                rintro e w5 ⟨v2, rfl, hd2⟩
                obtain ⟨Q1, hb1, hs1, htd, hbl⟩ := both_of HH.out HPLN.out (stepP_append HINV.out.p HAP.out) hd2
                have HB5 := Lib.hid hb1
                have HBL := Lib.hid hbl
                have HINV1 := Lib.hid (show InvT wait now (k + 1) R1.s by rw [hs1]; exact HINV.out.next (stepP_append HINV.out.p HAP.out) (next_append HAP.out) hn0 (Int.le_refl _))
                have HTD := Lib.hid (show Told w.heap.size w5 v v2 R1.s outs by rw [hs1]; exact htd)
                clear hd2 hb1 hs1 htd hbl
                go_wp2_with fail
                go_meet
                case rel => exact ⟨err2, now, R1, Q1, outs, rfl, rfl, rfl, hn0, by omega, HB5.out, HINV1.out, HTD.out, HW2.out.trans HBL.out⟩
            · as_aux_lemma =>
                have y3 : wd.cell? ⟨q, 3, none⟩ = some (.string r.a.b.stream) := by rw [Lib.cell_of_heap Gd.out, HCS.out]; rfl
                have y4 : wd.cell? ⟨q, 4, none⟩ = some (.int .i64 r.a.b.expect) := by rw [Lib.cell_of_heap Gd.out, HCS.out]; rfl
                have y7 : wd.cell? ⟨q, 7, none⟩ = some (.slice ba r.a.b.events.length bk) := by rw [Lib.cell_of_heap Gd.out, HCS.out]; rfl
                obtain ⟨s2, outs2, err2, hap⟩ := triple_of4 (appendS R.s r.a.b.stream r.a.b.expect r.a.b.events now)
                have HAP := Lib.hid hap
                have HEV := Lib.hid (fun (X : World) (hb : Below w.heap.size wd X) => (show IsEvents w.heap.size X (.slice ba r.a.b.events.length bk) (r.a.b.events) from (HOK.out.bev.keep (B' := q) HWd.out hwz).keep hb (Nat.le_refl _)))
                have CA := Lib.hid (append_any (fun k => Q.mut m k) w.heap.size c R wd HBd.out.hc (by have h1 := HBd.out.hc.len; have h2 := HINV.out.ln; omega) (tabs_below HT.out HW2.out) r.a.b.stream r.a.b.expect _ r.a.b.events ((HEV.out wd (Below.refl _ _)).up HW2.out.size) (by have := HSA.out.b; omega) now s2 outs2 err2 hap)
                clear hap
                go_wp2_with fail
                refine CA.out.mono ?_
                rintro e w4 ⟨v, rfl, hd⟩
                obtain ⟨R1, outs, hh, hpl, hst⟩ := half_of HBd.out hd
                have HH := Lib.hid hh
                have HPLN := Lib.hid hpl
                have G4 := Lib.hid ((hst.kept.block q (Array.getElem?_eq_some_iff.1 Gd.out).1 HQM.out.1).trans Gd.out)
                clear hd hh hpl hst
                have x3 : w4.cell? ⟨q, 3, none⟩ = some (.string r.a.b.stream) := by rw [Lib.cell_of_heap G4.out, HCS.out]; rfl
                have x4 : w4.cell? ⟨q, 4, none⟩ = some (.int .i64 r.a.b.expect) := by rw [Lib.cell_of_heap G4.out, HCS.out]; rfl
                have x7 : w4.cell? ⟨q, 7, none⟩ = some (.slice ba r.a.b.events.length bk) := by rw [Lib.cell_of_heap G4.out, HCS.out]; rfl
                have CB := Lib.hid (Rf.append_any (fun k => R1.mut c k) w.heap.size m Q w4 HH.out.hm (by have h1 := HBd.out.hm.len; rw [HBd.out.same] at h1; have h2 := HINV.out.ln; omega) r.a.b.stream r.a.b.expect _ r.a.b.events (eva_arg (HEV.out w4 HH.out.below) (HW2.out.trans HH.out.below).size (fun j hj => hj.elim (fun hj => (HH.out.hm.mutlo j hj).1) (fun hj => (HH.out.hc.mutlo j hj).1))) ⟨HSA.out.lb.s, HSA.out.lb.n, HSA.out.lb.e⟩ now s2 outs2 err2 (by rw [HBd.out.same]; exact HAP.out))
                clear y3 y4 y7
                go_wp2_with fail
                refine CB.out.mono ?_
                rintro e w5 ⟨v2, rfl, hd2⟩
                obtain ⟨Q1, hb1, hs1, htd, hbl⟩ := both_of HH.out HPLN.out (stepP_append HINV.out.p HAP.out) hd2
                have HB5 := Lib.hid hb1
                have HBL := Lib.hid hbl
                have HINV1 := Lib.hid (show InvT wait now (k + 1) R1.s by rw [hs1]; exact HINV.out.next (stepP_append HINV.out.p HAP.out) (next_append HAP.out) hn0 (Int.le_refl _))
                have HTD := Lib.hid (show Told w.heap.size w5 v v2 R1.s outs by rw [hs1]; exact htd)
                clear hd2 hb1 hs1 htd hbl
                go_wp2_with fail
                go_meet
                case rel => exact ⟨err2, now, R1, Q1, outs, rfl, rfl, rfl, hn0, by omega, HB5.out, HINV1.out, HTD.out, HW2.out.trans HBL.out⟩
            · as_aux_lemma =>
                have y3 : wd.cell? ⟨q, 3, none⟩ = some (.string r.a.b.stream) := by rw [Lib.cell_of_heap Gd.out, HCS.out]; rfl
                have y4 : wd.cell? ⟨q, 4, none⟩ = some (.int .i64 r.a.b.expect) := by rw [Lib.cell_of_heap Gd.out, HCS.out]; rfl
                have y7 : wd.cell? ⟨q, 7, none⟩ = some (.slice ba r.a.b.events.length bk) := by rw [Lib.cell_of_heap Gd.out, HCS.out]; rfl
                obtain ⟨s2, outs2, err2, hap⟩ := triple_of4 (appendS R.s r.a.b.stream r.a.b.expect r.a.b.events now)
                have HAP := Lib.hid hap
                have HEV := Lib.hid (fun (X : World) (hb : Below w.heap.size wd X) => (show IsEvents w.heap.size X (.slice ba r.a.b.events.length bk) (r.a.b.events) from (HOK.out.bev.keep (B' := q) HWd.out hwz).keep hb (Nat.le_refl _)))
                have CA := Lib.hid (append_any (fun k => Q.mut m k) w.heap.size c R wd HBd.out.hc (by have h1 := HBd.out.hc.len; have h2 := HINV.out.ln; omega) (tabs_below HT.out HW2.out) r.a.b.stream r.a.b.expect _ r.a.b.events ((HEV.out wd (Below.refl _ _)).up HW2.out.size) (by have := HSA.out.b; omega) now s2 outs2 err2 hap)
                clear hap
                go_wp2_with fail
                refine CA.out.mono ?_
                rintro e w4 ⟨v, rfl, hd⟩
                obtain ⟨R1, outs, hh, hpl, hst⟩ := half_of HBd.out hd
                have HH := Lib.hid hh
                have HPLN := Lib.hid hpl
                have G4 := Lib.hid ((hst.kept.block q (Array.getElem?_eq_some_iff.1 Gd.out).1 HQM.out.1).trans Gd.out)
                clear hd hh hpl hst
                have x3 : w4.cell? ⟨q, 3, none⟩ = some (.string r.a.b.stream) := by rw [Lib.cell_of_heap G4.out, HCS.out]; rfl
                have x4 : w4.cell? ⟨q, 4, none⟩ = some (.int .i64 r.a.b.expect) := by rw [Lib.cell_of_heap G4.out, HCS.out]; rfl
                have x7 : w4.cell? ⟨q, 7, none⟩ = some (.slice ba r.a.b.events.length bk) := by rw [Lib.cell_of_heap G4.out, HCS.out]; rfl
                have CB := Lib.hid (Rf.append_any (fun k => R1.mut c k) w.heap.size m Q w4 HH.out.hm (by have h1 := HBd.out.hm.len; rw [HBd.out.same] at h1; have h2 := HINV.out.ln; omega) r.a.b.stream r.a.b.expect _ r.a.b.events (eva_arg (HEV.out w4 HH.out.below) (HW2.out.trans HH.out.below).size (fun j hj => hj.elim (fun hj => (HH.out.hm.mutlo j hj).1) (fun hj => (HH.out.hc.mutlo j hj).1))) ⟨HSA.out.lb.s, HSA.out.lb.n, HSA.out.lb.e⟩ now s2 outs2 err2 (by rw [HBd.out.same]; exact HAP.out))
                clear y3 y4 y7
                go_wp2_with fail
                refine CB.out.mono ?_
                rintro e w5 ⟨v2, rfl, hd2⟩
                obtain ⟨Q1, hb1, hs1, htd, hbl⟩ := both_of HH.out HPLN.out (stepP_append HINV.out.p HAP.out) hd2
                have HB5 := Lib.hid hb1
                have HBL := Lib.hid hbl
                have HINV1 := Lib.hid (show InvT wait now (k + 1) R1.s by rw [hs1]; exact HINV.out.next (stepP_append HINV.out.p HAP.out) (next_append HAP.out) hn0 (Int.le_refl _))
                have HTD := Lib.hid (show Told w.heap.size w5 v v2 R1.s outs by rw [hs1]; exact htd)
                clear hd2 hb1 hs1 htd hbl
                go_wp2_with fail
                go_meet
                case rel => exact ⟨err2, now, R1, Q1, outs, rfl, rfl, rfl, hn0, by omega, HB5.out, HINV1.out, HTD.out, HW2.out.trans HBL.out⟩
            · as_aux_lemma =>
                have y1 : wd.cell? ⟨q, 1, none⟩ = some (.int .i64 r.a.n) := by rw [Lib.cell_of_heap Gd.out, HCS.out]; rfl
                have y8 : wd.cell? ⟨q, 8, none⟩ = some (.string r.a.stream) := by rw [Lib.cell_of_heap Gd.out, HCS.out]; rfl
                have y9 : wd.cell? ⟨q, 9, none⟩ = some (.int .i64 r.a.from_) := by rw [Lib.cell_of_heap Gd.out, HCS.out]; rfl
                obtain ⟨s2, outs2, err2, hap⟩ := triple_of4 (readS R.s r.a.stream r.a.from_ r.a.n now)
                have HAP := Lib.hid hap
                have CA := Lib.hid (read_any (fun k => Q.mut m k) w.heap.size c R wd HBd.out.hc (by have h1 := HBd.out.hc.len; have h2 := HINV.out.ln; omega) (tabs_below HT.out HW2.out) r.a.stream r.a.from_ r.a.n now HOK.out.n s2 outs2 err2 hap)
                clear hap
                go_wp2_with fail
                refine CA.out.mono ?_
                rintro e w4 ⟨v, rfl, hd⟩
                obtain ⟨R1, outs, hh, hpl, hst⟩ := half_of HBd.out hd
                have HH := Lib.hid hh
                have HPLN := Lib.hid hpl
                have G4 := Lib.hid ((hst.kept.block q (Array.getElem?_eq_some_iff.1 Gd.out).1 HQM.out.1).trans Gd.out)
                clear hd hh hpl hst
                have x1 : w4.cell? ⟨q, 1, none⟩ = some (.int .i64 r.a.n) := by rw [Lib.cell_of_heap G4.out, HCS.out]; rfl
                have x8 : w4.cell? ⟨q, 8, none⟩ = some (.string r.a.stream) := by rw [Lib.cell_of_heap G4.out, HCS.out]; rfl
                have x9 : w4.cell? ⟨q, 9, none⟩ = some (.int .i64 r.a.from_) := by rw [Lib.cell_of_heap G4.out, HCS.out]; rfl
                have CB := Lib.hid (Rf.read_any (fun k => R1.mut c k) w.heap.size m Q w4 HH.out.hm (by have h1 := HBd.out.hm.len; rw [HBd.out.same] at h1; have h2 := HINV.out.ln; omega) r.a.stream (by have := HSA.out.st; omega) r.a.from_ r.a.n now HOK.out.n s2 outs2 err2 (by rw [HBd.out.same]; exact HAP.out))
                clear y1 y8 y9
                go_wp2_with fail
                refine CB.out.mono ?_
                rintro e w5 ⟨v2, rfl, hd2⟩
                obtain ⟨Q1, hb1, hs1, htd, hbl⟩ := both_of HH.out HPLN.out (stepP_read HINV.out.p HAP.out) hd2
                have HB5 := Lib.hid hb1
                have HBL := Lib.hid hbl
                have HINV1 := Lib.hid (show InvT wait now (k + 1) R1.s by rw [hs1]; exact HINV.out.next (stepP_read HINV.out.p HAP.out) (next_read HAP.out) hn0 (Int.le_refl _))
                have HTD := Lib.hid (show Told w.heap.size w5 v v2 R1.s outs by rw [hs1]; exact htd)
                clear hd2 hb1 hs1 htd hbl
                go_wp2_with fail
                go_meet
                case rel => exact ⟨err2, now, R1, Q1, outs, rfl, rfl, rfl, hn0, by omega, HB5.out, HINV1.out, HTD.out, HW2.out.trans HBL.out⟩
            · as_aux_lemma =>
                have y1 : wd.cell? ⟨q, 1, none⟩ = some (.int .i64 r.a.n) := by rw [Lib.cell_of_heap Gd.out, HCS.out]; rfl
                have y8 : wd.cell? ⟨q, 8, none⟩ = some (.string r.a.stream) := by rw [Lib.cell_of_heap Gd.out, HCS.out]; rfl
                have y9 : wd.cell? ⟨q, 9, none⟩ = some (.int .i64 r.a.from_) := by rw [Lib.cell_of_heap Gd.out, HCS.out]; rfl
                obtain ⟨s2, outs2, err2, hap⟩ := triple_of4 (readS R.s r.a.stream r.a.from_ r.a.n now)
                have HAP := Lib.hid hap
                have CA := Lib.hid (read_any (fun k => Q.mut m k) w.heap.size c R wd HBd.out.hc (by have h1 := HBd.out.hc.len; have h2 := HINV.out.ln; omega) (tabs_below HT.out HW2.out) r.a.stream r.a.from_ r.a.n now HOK.out.n s2 outs2 err2 hap)
                clear hap
                go_wp2_with fail
                refine CA.out.mono ?_
                rintro e w4 ⟨v, rfl, hd⟩
                obtain ⟨R1, outs, hh, hpl, hst⟩ := half_of HBd.out hd
                have HH := Lib.hid hh
                have HPLN := Lib.hid hpl
                have G4 := Lib.hid ((hst.kept.block q (Array.getElem?_eq_some_iff.1 Gd.out).1 HQM.out.1).trans Gd.out)
                clear hd hh hpl hst
                have x1 : w4.cell? ⟨q, 1, none⟩ = some (.int .i64 r.a.n) := by rw [Lib.cell_of_heap G4.out, HCS.out]; rfl
                have x8 : w4.cell? ⟨q, 8, none⟩ = some (.string r.a.stream) := by rw [Lib.cell_of_heap G4.out, HCS.out]; rfl
                have x9 : w4.cell? ⟨q, 9, none⟩ = some (.int .i64 r.a.from_) := by rw [Lib.cell_of_heap G4.out, HCS.out]; rfl
                have CB := Lib.hid (Rf.read_any (fun k => R1.mut c k) w.heap.size m Q w4 HH.out.hm (by have h1 := HBd.out.hm.len; rw [HBd.out.same] at h1; have h2 := HINV.out.ln; omega) r.a.stream (by have := HSA.out.st; omega) r.a.from_ r.a.n now HOK.out.n s2 outs2 err2 (by rw [HBd.out.same]; exact HAP.out))
                clear y1 y8 y9
                go_wp2_with fail
                refine CB.out.mono ?_
                rintro e w5 ⟨v2, rfl, hd2⟩
                obtain ⟨Q1, hb1, hs1, htd, hbl⟩ := both_of HH.out HPLN.out (stepP_read HINV.out.p HAP.out) hd2
                have HB5 := Lib.hid hb1
                have HBL := Lib.hid hbl
                have HINV1 := Lib.hid (show InvT wait now (k + 1) R1.s by rw [hs1]; exact HINV.out.next (stepP_read HINV.out.p HAP.out) (next_read HAP.out) hn0 (Int.le_refl _))
                have HTD := Lib.hid (show Told w.heap.size w5 v v2 R1.s outs by rw [hs1]; exact htd)
                clear hd2 hb1 hs1 htd hbl
                go_wp2_with fail
                go_meet
                case rel => exact ⟨err2, now, R1, Q1, outs, rfl, rfl, rfl, hn0, by omega, HB5.out, HINV1.out, HTD.out, HW2.out.trans HBL.out⟩
            · as_aux_lemma =>
                have y2 : wd.cell? ⟨q, 2, none⟩ = some (.int .i64 r.a.m) := by rw [Lib.cell_of_heap Gd.out, HCS.out]; rfl
                have y10 : wd.cell? ⟨q, 10, none⟩ = some (.int .i64 r.a.v.epoch) := by rw [Lib.cell_of_heap Gd.out, HCS.out]; rfl
                have y11 : wd.cell? ⟨q, 11, none⟩ = some (.slice ca r.a.v.chain.length ck) := by rw [Lib.cell_of_heap Gd.out, HCS.out]; rfl
                have y12 : wd.cell? ⟨q, 12, none⟩ = some (.slice sa r.a.v.since.length sk) := by rw [Lib.cell_of_heap Gd.out, HCS.out]; rfl
                have y13 : wd.cell? ⟨q, 13, none⟩ = some (.slice oa r.a.v.boot.length ok) := by rw [Lib.cell_of_heap Gd.out, HCS.out]; rfl
                obtain ⟨p4, hp4⟩ : ∃ p4 : Nat, pickT r.a.m 4 = p4 := ⟨_, rfl⟩
                have hp4l : p4 < 4 := by rw [← hp4]; exact pick_lt r.a.m 4 (by omega)
                have CP4 := Lib.hid (fun (X' : World) => (show Calls Tryd.prog 14 #[.int .i64 r.a.m, .int .i64 4] X' fun r w' => r = .returned (.int .i64 (p4 : Int)) ∧ X' = w' by have h := pick_any r.a.m HOK.out.m 4 (by omega) (by omega) X'; rw [hp4] at h; exact h))
                clear hp4
                have hkv : Vw.IsView w.heap.size wr (.agg #[.int .i64 r.a.v.epoch, .slice ca r.a.v.chain.length ck, .slice sa r.a.v.since.length sk, .slice oa r.a.v.boot.length ok]) r.a.v := ⟨HOK.out.ep, _, _, _, rfl, HOK.out.cv, HOK.out.sv, HOK.out.bv⟩
                have hkd := hkv.keep (B' := q) HWd.out hwz
                have HIV := Lib.hid (hkd.up HW2.out.size)
                have J1 := Lib.hid (fun (X : World) (hb : Below w.heap.size wd X) => (HOK.out.cv.keep (B' := q) HWd.out hwz).keep hb (Nat.le_refl _))
                have J2 := Lib.hid (fun (X : World) (hb : Below w.heap.size wd X) => (HOK.out.sv.keep (B' := q) HWd.out hwz).keep hb (Nat.le_refl _))
                have J3 := Lib.hid (fun (X : World) (hb : Below w.heap.size wd X) => (HOK.out.bv.keep (B' := q) HWd.out hwz).keep hb (Nat.le_refl _))
                clear hkv hkd
                by_cases h43 : p4 = 3
                · have e3 : (p4 : Int).tdiv 3 = 1 := by rw [h43]; rfl
                  have CA := Lib.hid (take_view (fun k => Q.mut m k) w.heap.size c R wd HBd.out.hc _ r.a.v HIV.out 1 (by decide) (by decide) now)
                  clear h43
                  go_wp2_with fail
                  refine (CP4.out _).mono ?_
                  rintro e wd' ⟨rfl, rfl⟩
                  go_wp2_with fail
                  refine CA.out.mono ?_
                  rintro e w4 ⟨v, rfl, hd⟩
                  obtain ⟨R1, outs, hh, hpl, hst⟩ := half_of HBd.out hd
                  have HH := Lib.hid hh
                  have HPLN := Lib.hid hpl
                  have G4 := Lib.hid ((hst.kept.block q (Array.getElem?_eq_some_iff.1 Gd.out).1 HQM.out.1).trans Gd.out)
                  clear hd hh hpl hst
                  have hd2 : Rf.RDoes (fun k => R1.mut c k) w.heap.size m Q w4 R.s [] (.slice none 0 0) w4 := by
                    have := Rf.rdoes_none HH.out.hm (Below.refl w4.heap.size w4)
                    rwa [HBd.out.same] at this
                  obtain ⟨Q1, hb1, hs1, htd, hbl⟩ := both_of HH.out HPLN.out (stepP_nil HINV.out.p) hd2
                  have HB5 := Lib.hid hb1
                  have HBL := Lib.hid hbl
                  have HINV1 := Lib.hid (show InvT wait now (k + 1) R1.s by rw [hs1]; exact HINV.out.next (stepP_nil HINV.out.p) ⟨rfl, .inl rfl, by simp⟩ hn0 (Int.le_refl _))
                  have HTD := Lib.hid (show Told w.heap.size w4 v (.slice none 0 0) R1.s outs by rw [hs1]; exact htd)
                  clear hd2 hb1 hs1 htd hbl
                  go_wp2_with fail
                  go_meet
                  case rel => exact ⟨err, now, R1, Q1, outs, rfl, rfl, rfl, hn0, by omega, HB5.out, HINV1.out, HTD.out, HW2.out.trans HBL.out⟩
                · have e3 : (p4 : Int).tdiv 3 = 0 := by
                    rcases (show p4 = 0 ∨ p4 = 1 ∨ p4 = 2 by omega) with e | e | e <;> rw [e] <;> rfl
                  obtain ⟨s2, outs2, hap⟩ := pair_of4 (seeS R.s r.a.v now)
                  have HAP := Lib.hid hap
                  have CA := Lib.hid (take_see (fun k => Q.mut m k) w.heap.size c R wd HBd.out.hc (by have h1 := HBd.out.hc.len; have h2 := HINV.out.ln; omega) _ r.a.v HIV.out HSA.out.v now (fun e => HINV.out.p.pd e) s2 outs2 hap)
                  clear h43 hap
                  go_wp2_with fail
                  refine (CP4.out _).mono ?_
                  rintro e wd' ⟨rfl, rfl⟩
                  go_wp2_with fail
                  refine CA.out.mono ?_
                  rintro e w4 ⟨v, rfl, hd⟩
                  obtain ⟨R1, outs, hh, hpl, hst⟩ := half_of HBd.out hd
                  have HH := Lib.hid hh
                  have HPLN := Lib.hid hpl
                  have G4 := Lib.hid ((hst.kept.block q (Array.getElem?_eq_some_iff.1 Gd.out).1 HQM.out.1).trans Gd.out)
                  clear hd hh hpl hst
                  have x10 : w4.cell? ⟨q, 10, none⟩ = some (.int .i64 r.a.v.epoch) := by rw [Lib.cell_of_heap G4.out, HCS.out]; rfl
                  have x11 : w4.cell? ⟨q, 11, none⟩ = some (.slice ca r.a.v.chain.length ck) := by rw [Lib.cell_of_heap G4.out, HCS.out]; rfl
                  have x12 : w4.cell? ⟨q, 12, none⟩ = some (.slice sa r.a.v.since.length sk) := by rw [Lib.cell_of_heap G4.out, HCS.out]; rfl
                  have x13 : w4.cell? ⟨q, 13, none⟩ = some (.slice oa r.a.v.boot.length ok) := by rw [Lib.cell_of_heap G4.out, HCS.out]; rfl
                  have CB := Lib.hid (Rf.see_any (fun k => R1.mut c k) w.heap.size m Q w4 HH.out.hm (by have h1 := HBd.out.hm.len; rw [HBd.out.same] at h1; have h2 := HINV.out.ln; omega) r.a.v ca sa oa ck sk ok HOK.out.ep (ina_arg (J1.out w4 HH.out.below) (HW2.out.trans HH.out.below).size (fun j hj => hj.elim (fun hj => (HH.out.hm.mutlo j hj).1) (fun hj => (HH.out.hc.mutlo j hj).1))) (ina_arg (J2.out w4 HH.out.below) (HW2.out.trans HH.out.below).size (fun j hj => hj.elim (fun hj => (HH.out.hm.mutlo j hj).1) (fun hj => (HH.out.hc.mutlo j hj).1))) (ina_arg (J3.out w4 HH.out.below) (HW2.out.trans HH.out.below).size (fun j hj => hj.elim (fun hj => (HH.out.hm.mutlo j hj).1) (fun hj => (HH.out.hc.mutlo j hj).1))) HSA.out.v now (fun e => by rw [HBd.out.same] at e ⊢; exact HINV.out.p.pd e) s2 outs2 (by rw [HBd.out.same]; exact HAP.out))
                  clear y2 y10 y11 y12 y13
                  go_wp2_with fail
                  refine CB.out.mono ?_
                  rintro e w5 ⟨v2, rfl, hd2⟩
                  obtain ⟨Q1, hb1, hs1, htd, hbl⟩ := both_of HH.out HPLN.out (stepP_see HINV.out.p HAP.out) hd2
                  have HB5 := Lib.hid hb1
                  have HBL := Lib.hid hbl
                  have HINV1 := Lib.hid (show InvT wait now (k + 1) R1.s by rw [hs1]; exact HINV.out.next (stepP_see HINV.out.p HAP.out) (next_see HAP.out) hn0 (Int.le_refl _))
                  have HTD := Lib.hid (show Told w.heap.size w5 v v2 R1.s outs by rw [hs1]; exact htd)
                  clear hd2 hb1 hs1 htd hbl
                  go_wp2_with fail
                  go_meet
                  case rel => exact ⟨err, now, R1, Q1, outs, rfl, rfl, rfl, hn0, by omega, HB5.out, HINV1.out, HTD.out, HW2.out.trans HBL.out⟩
            · as_aux_lemma =>
                obtain ⟨s2, outs2, hap⟩ := pair_of4 (answerS R.s 1 id ((pickT r.a.m 3 / 2 : Nat) : Int) now (fun o => { o with out := r.a.out }))
                have HAP := Lib.hid hap
                clear hap
                have HGD := Lib.hid (show wd.heap[q]? = some (.cells #[.int .i64 r.a.op, .int .i64 r.a.n, .int .i64 r.a.m, .string r.a.b.stream, .int .i64 r.a.b.expect, .int .i64 r.a.b.session, .int .i64 r.a.b.seq, .slice ba r.a.b.events.length bk, .string r.a.stream, .int .i64 r.a.from_, .int .i64 r.a.v.epoch, .slice ca r.a.v.chain.length ck, .slice sa r.a.v.since.length sk, .slice oa r.a.v.boot.length ok, .int .i64 r.a.out.code, .int .i64 r.a.out.pos, .int .i64 r.a.out.first, .int .i64 r.a.out.version, .slice ea r.a.events.length ek] 33) by rw [Gd.out, HCS.out])
                go_upto_region 33 with fail
                refine reg33 (r := r) (ba := ba) (ca := ca) (sa := sa) (oa := oa) (ea := ea) (bk := bk) (ck := ck) (sk := sk) (ok := ok) (ek := ek) _ _ _ _ _ _ _ _ _ _ _ _ _ _ _ _ _ _ _ _ _ _ _ _ _ _ _ _ _ _ _ _ _ _ _ _ _ _ _ _ _ _ _ _ _ _ _ _ _ _ _ _ _ _ _ _ _ _ _ _ _ _ _ _ _ _ _ _ _ _ _ _ _ _ _ _ _ _ _ _ _ _ _ _ _ _ _ _ _ _ _ _ _ _ _ _ _ _ _ _ _ _ _ _ _ _ _ _ _ _ _ _ _ _ _ _ _ _ _ _ _ _ _ _ _ _ _ _ _ _ _ _ _ _ _ _ _ _ _ _ _ _ _ _ _ _ _ _ _ _ _ _ _ _ _ _ _ _ _ _ _ _ _ _ _ _ _ _ _ _ _ _ _ _ _ _ _ _ _ _ _ _ _ _ _ _ _ _ _ _ _ _ _ _ _ _ _ _ _ _ _ _ _ _ _ _ _ _ _ _ _ _ _ _ _ _ _ _ _ _ _ _ _ _ _ _ _ _ _ _ _ _ _ _ _ _ _ _ _ _ _ _ _ _ _ _ _ _ _ _ _ _ _ _ _ _ _ _ _ _ _ _ _ _ _ _ _ _ _ _ _ _ _ _ _ _ _ _ _ _ _ _ _ _ _ _ _ _ _ _ _ _ _ _ _ _ _ _ _ _ _ _ _ _ _ _ _ _ _ _ _ _ _ _ _ _ _ _ _ _ _ _ _ _ _ _ _ _ _ _ _ _ _ _ _ _ _ _ _ _ _ _ _ _ _ _ _ _ _ _ _ _ _ _ _ _ _ _ _ _ _ _ _ _ _ _ _ _ HBd.out HINV.out (by omega) HGD.out (show Vw.I64 r.a.n from HOK.out.n) (show Vw.I64 r.a.m from HOK.out.m) HQM.out.1 (by intro p a w d v h; cases d <;> exact h) ?_
                intro v _ _ _ _ _ _ _ _ _ _ _ _ _ _ _ _ w4 R1 outs hh hpl hg4
                dsimp only
                rw [HAP.out] at hh hpl
                have HH := Lib.hid hh
                have HPLN := Lib.hid hpl
                have HG4 := Lib.hid (hg4.trans HGD.out)
                clear hh hpl hg4
                go_upto_region 34 with fail
                refine reg34 (r := r) (ba := ba) (ca := ca) (sa := sa) (oa := oa) (ea := ea) (bk := bk) (ck := ck) (sk := sk) (ok := ok) (ek := ek) (s2 := s2) (outs2 := outs2) _ _ _ _ _ _ _ _ _ _ _ _ _ _ _ _ _ _ _ _ _ _ _ _ _ _ _ _ _ _ _ _ _ _ _ _ _ _ _ _ _ _ _ _ _ _ _ _ _ _ _ _ _ _ _ _ _ _ _ _ _ _ _ _ _ _ _ _ _ _ _ _ _ _ _ _ _ _ _ _ _ _ _ _ _ _ _ _ _ _ _ _ _ _ _ _ _ _ _ _ _ _ _ _ _ _ _ _ _ _ _ _ _ _ _ _ _ _ _ _ _ _ _ _ _ _ _ _ _ _ _ _ _ _ _ _ _ _ _ _ _ _ _ _ _ _ _ _ _ _ _ _ _ _ _ _ _ _ _ _ _ _ _ _ _ _ _ _ _ _ _ _ _ _ _ _ _ _ _ _ _ _ _ _ _ _ _ _ _ _ _ _ _ _ _ _ _ _ _ _ _ _ _ _ _ _ _ _ _ _ _ _ _ _ _ _ _ _ _ _ _ _ _ _ _ _ _ _ _ _ _ _ _ _ _ _ _ _ _ _ _ _ _ _ _ _ _ _ _ _ _ _ _ _ _ _ _ _ _ _ _ _ _ _ _ _ _ _ _ _ _ _ _ _ _ _ _ _ _ _ _ _ _ _ _ _ _ _ _ _ _ _ _ _ _ _ _ _ _ _ _ _ _ _ _ _ _ _ _ _ _ _ _ _ _ _ _ _ _ _ _ _ _ _ _ _ _ _ _ _ _ _ _ _ _ _ _ _ _ _ _ _ _ _ _ _ _ _ _ _ _ _ _ _ _ _ _ _ _ _ _ _ _ _ _ _ _ _ _ HH.out.hm (by have h1 := HBd.out.hm.len; rw [HBd.out.same] at h1; have h2 := HINV.out.ln; omega) (fun e => by rw [HBd.out.same] at e ⊢; exact HINV.out.p.pd e) HG4.out (show Vw.I64 r.a.m from HOK.out.m) (eva_nil _ _) HQM.out.2 (by rw [HBd.out.same]; exact HAP.out) (by intro p a w d v h; cases d <;> exact h) ?_
                intro v2 _ _ _ _ _ _ _ _ _ _ w5 hd2
                dsimp only
                obtain ⟨Q1, hb1, hs1, htd, hbl⟩ := both_of HH.out HPLN.out (stepP_answer (f := (fun o => { o with out := r.a.out })) HINV.out.p (fun _ => rfl) HAP.out) hd2
                have HB5 := Lib.hid hb1
                have HBL := Lib.hid hbl
                have HINV1 := Lib.hid (show InvT wait now (k + 1) R1.s by rw [hs1]; exact HINV.out.next (stepP_answer (f := (fun o => { o with out := r.a.out })) HINV.out.p (fun _ => rfl) HAP.out) (next_answer (fun e => HINV.out.p.pd e) HAP.out) hn0 (Int.le_refl _))
                have HTD := Lib.hid (show Told w.heap.size w5 v v2 R1.s outs by rw [hs1]; exact htd)
                clear hd2 hb1 hs1 htd hbl
                go_wp2_with fail
                go_meet
                case rel => exact ⟨err, now, R1, Q1, outs, rfl, rfl, rfl, hn0, by omega, HB5.out, HINV1.out, HTD.out, HW2.out.trans HBL.out⟩
            · as_aux_lemma =>
                have HEV := Lib.hid (fun (X : World) (hb : Below w.heap.size wd X) => (show IsEvents w.heap.size X (.slice ea r.a.events.length ek) (r.a.events) from (HOK.out.evv.keep (B' := q) HWd.out hwz).keep hb (Nat.le_refl _)))
                obtain ⟨s2, outs2, hap⟩ := pair_of4 (answerS R.s 2 id ((pickT r.a.m 3 / 2 : Nat) : Int) now (fun o => { o with version := r.a.m, events := r.a.events }))
                have HAP := Lib.hid hap
                clear hap
                have HGD := Lib.hid (show wd.heap[q]? = some (.cells #[.int .i64 r.a.op, .int .i64 r.a.n, .int .i64 r.a.m, .string r.a.b.stream, .int .i64 r.a.b.expect, .int .i64 r.a.b.session, .int .i64 r.a.b.seq, .slice ba r.a.b.events.length bk, .string r.a.stream, .int .i64 r.a.from_, .int .i64 r.a.v.epoch, .slice ca r.a.v.chain.length ck, .slice sa r.a.v.since.length sk, .slice oa r.a.v.boot.length ok, .int .i64 r.a.out.code, .int .i64 r.a.out.pos, .int .i64 r.a.out.first, .int .i64 r.a.out.version, .slice ea r.a.events.length ek] 33) by rw [Gd.out, HCS.out])
                go_upto_region 36 with fail
                refine reg36 (r := r) (ba := ba) (ca := ca) (sa := sa) (oa := oa) (ea := ea) (bk := bk) (ck := ck) (sk := sk) (ok := ok) (ek := ek) _ _ _ _ _ _ _ _ _ _ _ _ _ _ _ _ _ _ _ _ _ _ _ _ _ _ _ _ _ _ _ _ _ _ _ _ _ _ _ _ _ _ _ _ _ _ _ _ _ _ _ _ _ _ _ _ _ _ _ _ _ _ _ _ _ _ _ _ _ _ _ _ _ _ _ _ _ _ _ _ _ _ _ _ _ _ _ _ _ _ _ _ _ _ _ _ _ _ _ _ _ _ _ _ _ _ _ _ _ _ _ _ _ _ _ _ _ _ _ _ _ _ _ _ _ _ _ _ _ _ _ _ _ _ _ _ _ _ _ _ _ _ _ _ _ _ _ _ _ _ _ _ _ _ _ _ _ _ _ _ _ _ _ _ _ _ _ _ _ _ _ _ _ _ _ _ _ _ _ _ _ _ _ _ _ _ _ _ _ _ _ _ _ _ _ _ _ _ _ _ _ _ _ _ _ _ _ _ _ _ _ _ _ _ _ _ _ _ _ _ _ _ _ _ _ _ _ _ _ _ _ _ _ _ _ _ _ _ _ _ _ _ _ _ _ _ _ _ _ _ _ _ _ _ _ _ _ _ _ _ _ _ _ _ _ _ _ _ _ _ _ _ _ _ _ _ _ _ _ _ _ _ _ _ _ _ _ _ _ _ _ _ _ _ _ _ _ _ _ _ _ _ _ _ _ _ _ _ _ _ _ _ _ _ _ _ _ _ _ _ _ _ _ _ _ _ _ _ _ _ _ _ _ _ _ _ _ _ _ _ _ _ _ _ _ _ _ _ _ _ _ _ _ _ _ _ _ _ _ _ _ _ _ _ _ _ _ _ HBd.out HINV.out (by omega) HGD.out (show Vw.I64 r.a.n from HOK.out.n) (show Vw.I64 r.a.m from HOK.out.m) HQM.out.1 (eva_arg (HEV.out wd (Below.refl _ _)) HW2.out.size (fun j hj => HBd.out.lo_c j hj)) (by have := HSA.out.e; omega) (by intro p a w d v h; cases d <;> exact h) ?_
                intro v _ _ _ _ _ _ _ _ _ _ _ _ _ _ _ _ _ _ w4 R1 outs hh hpl hg4
                dsimp only
                rw [HAP.out] at hh hpl
                have HH := Lib.hid hh
                have HPLN := Lib.hid hpl
                have HG4 := Lib.hid (hg4.trans HGD.out)
                clear hh hpl hg4
                go_upto_region 37 with fail
                refine reg37 (r := r) (ba := ba) (ca := ca) (sa := sa) (oa := oa) (ea := ea) (bk := bk) (ck := ck) (sk := sk) (ok := ok) (ek := ek) (s2 := s2) (outs2 := outs2) _ _ _ _ _ _ _ _ _ _ _ _ _ _ _ _ _ _ _ _ _ _ _ _ _ _ _ _ _ _ _ _ _ _ _ _ _ _ _ _ _ _ _ _ _ _ _ _ _ _ _ _ _ _ _ _ _ _ _ _ _ _ _ _ _ _ _ _ _ _ _ _ _ _ _ _ _ _ _ _ _ _ _ _ _ _ _ _ _ _ _ _ _ _ _ _ _ _ _ _ _ _ _ _ _ _ _ _ _ _ _ _ _ _ _ _ _ _ _ _ _ _ _ _ _ _ _ _ _ _ _ _ _ _ _ _ _ _ _ _ _ _ _ _ _ _ _ _ _ _ _ _ _ _ _ _ _ _ _ _ _ _ _ _ _ _ _ _ _ _ _ _ _ _ _ _ _ _ _ _ _ _ _ _ _ _ _ _ _ _ _ _ _ _ _ _ _ _ _ _ _ _ _ _ _ _ _ _ _ _ _ _ _ _ _ _ _ _ _ _ _ _ _ _ _ _ _ _ _ _ _ _ _ _ _ _ _ _ _ _ _ _ _ _ _ _ _ _ _ _ _ _ _ _ _ _ _ _ _ _ _ _ _ _ _ _ _ _ _ _ _ _ _ _ _ _ _ _ _ _ _ _ _ _ _ _ _ _ _ _ _ _ _ _ _ _ _ _ _ _ _ _ _ _ _ _ _ _ _ _ _ _ _ _ _ _ _ _ _ _ _ _ _ _ _ _ _ _ _ _ _ _ _ _ _ _ _ _ _ _ _ _ _ _ _ _ _ _ _ _ _ _ _ _ _ _ _ _ _ _ _ _ _ _ _ _ _ _ _ HH.out.hm (by have h1 := HBd.out.hm.len; rw [HBd.out.same] at h1; have h2 := HINV.out.ln; omega) (fun e => by rw [HBd.out.same] at e ⊢; exact HINV.out.p.pd e) HG4.out (show Vw.I64 r.a.m from HOK.out.m) (eva_arg (HEV.out w4 HH.out.below) (HW2.out.trans HH.out.below).size (fun j hj => hj.elim (fun hj => (HH.out.hm.mutlo j hj).1) (fun hj => (HH.out.hc.mutlo j hj).1))) HQM.out.2 (by rw [HBd.out.same]; exact HAP.out) (by intro p a w d v h; cases d <;> exact h) ?_
                intro v2 _ _ _ _ _ _ _ _ _ _ _ _ _ _ w5 hd2
                dsimp only
                obtain ⟨Q1, hb1, hs1, htd, hbl⟩ := both_of HH.out HPLN.out (stepP_answer (f := (fun o => { o with version := r.a.m, events := r.a.events })) HINV.out.p (fun _ => rfl) HAP.out) hd2
                have HB5 := Lib.hid hb1
                have HBL := Lib.hid hbl
                have HINV1 := Lib.hid (show InvT wait now (k + 1) R1.s by rw [hs1]; exact HINV.out.next (stepP_answer (f := (fun o => { o with version := r.a.m, events := r.a.events })) HINV.out.p (fun _ => rfl) HAP.out) (next_answer (fun e => HINV.out.p.pd e) HAP.out) hn0 (Int.le_refl _))
                have HTD := Lib.hid (show Told w.heap.size w5 v v2 R1.s outs by rw [hs1]; exact htd)
                clear hd2 hb1 hs1 htd hbl
                go_wp2_with fail
                go_meet
                case rel => exact ⟨err, now, R1, Q1, outs, rfl, rfl, rfl, hn0, by omega, HB5.out, HINV1.out, HTD.out, HW2.out.trans HBL.out⟩
            · as_aux_lemma =>
                have y1 : wd.cell? ⟨q, 1, none⟩ = some (.int .i64 r.a.n) := by rw [Lib.cell_of_heap Gd.out, HCS.out]; rfl
                obtain ⟨pn, hpn⟩ : ∃ pn : Nat, pickT r.a.n (2 * wait).toNat = pn := ⟨_, rfl⟩
                have hpnl : (pn : Int) < 2 * wait := by
                  have := pick_lt r.a.n (2 * wait).toNat (by omega)
                  rw [hpn] at this
                  omega
                have ew2 : IntKind.i64.wrap (2 * wait) = 2 * wait := by rw [IntKind.wrap_i64]; omega
                have CPW := Lib.hid (fun (X' : World) => (show Calls Tryd.prog 14 #[.int .i64 r.a.n, .int .i64 (2 * wait)] X' fun r w' => r = .returned (.int .i64 (pn : Int)) ∧ X' = w' by
                  have h := pick_any r.a.n HOK.out.n (2 * wait).toNat (by omega) (by omega) X'
                  rw [hpn, show (((2 * wait).toNat : Nat) : Int) = 2 * wait by omega] at h
                  exact h))
                obtain ⟨nw, hnw⟩ : ∃ nw : Int, now + (pn : Int) = nw := ⟨_, rfl⟩
                have ewn : IntKind.i64.wrap (now + (pn : Int)) = nw := by rw [IntKind.wrap_i64]; omega
                have hnw0 : 0 ≤ nw := by omega
                have hnw1 : now ≤ nw := by omega
                have hnw2 : nw ≤ now + 4294967296 := by omega
                have hnw3 : nw ≤ 4294967296 * 61 := by omega
                have HNW := Lib.hid hnw
                obtain ⟨s2, outs2, hap⟩ := pair_of4 (tickS R.s nw)
                have HAP := Lib.hid hap
                have CA := Lib.hid (tick_any (fun k => Q.mut m k) w.heap.size c R wd HBd.out.hc (by have h1 := HBd.out.hc.len; have h2 := HINV.out.ln; omega) nw (fun e => HINV.out.p.pd e) (by have h1 := HINV.out.a0; have h2 := HINV.out.a1; unfold Vw.I64; omega) s2 outs2 hap)
                clear hap hpn hnw
                go_wp2_with fail
                refine (CPW.out _).mono ?_
                rintro e wd' ⟨rfl, rfl⟩
                go_wp2_with fail
                refine CA.out.mono ?_
                rintro e w4 ⟨v, rfl, hd⟩
                obtain ⟨R1, outs, hh, hpl, hst⟩ := half_of HBd.out hd
                have HH := Lib.hid hh
                have HPLN := Lib.hid hpl
                have G4 := Lib.hid ((hst.kept.block q (Array.getElem?_eq_some_iff.1 Gd.out).1 HQM.out.1).trans Gd.out)
                clear hd hh hpl hst
                have CB := Lib.hid (Rf.tick_any (fun k => R1.mut c k) w.heap.size m Q w4 HH.out.hm (by have h1 := HBd.out.hm.len; rw [HBd.out.same] at h1; have h2 := HINV.out.ln; omega) nw (fun e => by rw [HBd.out.same] at e ⊢; exact HINV.out.p.pd e) (by rw [HBd.out.same]; have h1 := HINV.out.a0; have h2 := HINV.out.a1; unfold Vw.I64; omega) s2 outs2 (by rw [HBd.out.same]; exact HAP.out))
                clear y1
                go_wp2_with fail
                refine CB.out.mono ?_
                rintro e w5 ⟨v2, rfl, hd2⟩
                obtain ⟨Q1, hb1, hs1, htd, hbl⟩ := both_of HH.out HPLN.out (stepP_tick HINV.out.p HAP.out) hd2
                have HB5 := Lib.hid hb1
                have HBL := Lib.hid hbl
                have HINV1 := Lib.hid (show InvT wait nw (k + 1) R1.s by rw [hs1]; exact HINV.out.next (stepP_tick HINV.out.p HAP.out) (next_tick HAP.out) hnw0 (hnw1))
                have HTD := Lib.hid (show Told w.heap.size w5 v v2 R1.s outs by rw [hs1]; exact htd)
                clear hd2 hb1 hs1 htd hbl
                go_wp2_with fail
                go_meet
                case rel => exact ⟨err, nw, R1, Q1, outs, rfl, rfl, rfl, hnw0, hnw2, HB5.out, HINV1.out, HTD.out, HW2.out.trans HBL.out⟩
            · as_aux_lemma =>
                have CA := Lib.hid (cancel_any (fun k => Q.mut m k) w.heap.size c R wd HBd.out.hc)
                go_wp2_with fail
                refine CA.out.mono ?_
                rintro e w4 ⟨rfl, hm', st'⟩
                obtain ⟨hb4, hq4, hbl4⟩ := both_cancel HBd.out hm' rfl st'
                have d3 := hq4.c3
                have f3 := hq4.fr 3
                have HB4 := Lib.hid hb4
                have HBL4 := Lib.hid hbl4
                clear hb4 hq4 hbl4 hm' st'
                go_upto_region 45 with fail
                refine reg45 (lo := w.heap.size) _ _ _ _ _ _ _ _ _ _ _ _ _ _ _ _ _ _ _ _ _ _ _ _ _ _ _ _ _ _ _ _ _ _ _ _ _ _ _ _ _ _ _ _ _ _ _ _ _ _ _ _ _ _ _ _ _ _ _ _ _ _ _ _ _ _ _ _ _ _ _ _ _ _ _ _ _ _ _ _ _ _ _ _ _ _ _ _ _ _ _ _ _ _ _ _ _ _ _ _ _ _ _ _ _ _ _ _ _ _ _ _ _ _ _ _ _ _ _ _ _ _ _ _ _ _ _ _ _ _ _ _ _ _ _ _ _ _ _ _ _ _ _ _ _ _ _ _ _ _ _ _ _ _ _ _ _ _ _ _ _ _ _ _ _ _ _ _ _ _ _ _ _ _ _ _ _ _ _ _ _ _ _ _ _ _ _ _ _ _ _ _ _ _ _ _ _ _ _ _ _ _ _ _ _ _ _ _ _ _ _ _ _ _ _ _ _ _ _ _ _ _ _ _ _ _ _ _ _ _ _ _ _ _ _ _ _ _ _ _ _ _ _ _ _ _ _ _ _ _ _ _ _ _ _ _ _ _ _ _ _ _ _ _ _ _ _ _ _ _ _ _ _ _ _ _ _ _ _ _ _ _ _ _ _ _ _ _ _ _ _ _ _ _ _ _ _ _ _ _ _ _ _ _ _ _ _ _ _ _ _ _ _ _ _ _ _ _ _ _ _ _ _ _ _ _ _ _ _ _ _ _ _ _ _ _ _ _ _ _ _ _ _ _ _ _ _ _ _ _ _ _ _ _ _ _ _ _ _ _ _ _ _ _ _ _ _ _ _ _ HB4.out ?_
                intro _ _ _ _ _ _ _ _ _ _ _ _ _ _ _ _ _ _ _ _ _ _ _ w7 R7 hb7 hs7 hbl7
                dsimp only
                have HB7 := Lib.hid hb7
                have HS7 := Lib.hid hs7
                have HBL7 := Lib.hid (HBL4.out.trans hbl7)
                clear hb7 hs7 hbl7
                go_wp2_with fail
                go_meet
                case rel => exact ⟨err, now, R7, _, [], rfl, rfl, rfl, hn0, by omega, HB7.out, by rw [HS7.out]; exact ⟨⟨HINV.out.p.kd, fun e => by cases e⟩, HINV.out.wt, HINV.out.a0, HINV.out.a1, by have := HINV.out.ln; show R.s.ops.length ≤ _; omega⟩, told_nil, HW2.out.trans HBL7.out⟩
          case rest =>
            as_aux_lemma =>
              obtain ⟨err1, now1, R1, Q1, outs, rfl, rfl, rfl, hn1, hn2, hb2, hin1, htd, hbl2⟩ := hcut
              have HB2 := Lib.hid hb2
              have HIN1 := Lib.hid hin1
              have HTD := Lib.hid htd
              have HBL2 := Lib.hid hbl2
              clear hb2 hin1 htd hbl2
              go_upto_region 48 with (refine wpList_store_new rfl 79 _ _ rfl wc #[.int .i64 0, .int .i64 0, .int .i64 0, .int .i64 0, .string ⟨#[]⟩, .int .i64 0, .int .i64 0, .int .i64 0, .slice none 0 0, .int .i64 0, .int .i64 0, .int .i64 0, .int .i64 0, .string ⟨#[]⟩, .int .i64 0, .int .i64 0, .slice none 0 0] #[.int .i64 0, .int .i64 0, .int .i64 0, .int .i64 0, .string ⟨#[]⟩, .int .i64 0, .int .i64 0, .int .i64 0, .slice none 0 0, .int .i64 0, .int .i64 0, .int .i64 0, .int .i64 0, .string ⟨#[]⟩, .int .i64 0, .int .i64 0, .slice none 0 0] rfl (by rfl) (by rfl) Rf.opsize rfl (by rfl) ?_)
              have hAz := (Below.refl wc.heap.size wc).alloc (Nat.le_refl _) (.cells #[.int .i64 0, .int .i64 0, .int .i64 0, .int .i64 0, .string ⟨#[]⟩, .int .i64 0, .int .i64 0, .int .i64 0, .slice none 0 0, .int .i64 0, .int .i64 0, .int .i64 0, .int .i64 0, .string ⟨#[]⟩, .int .i64 0, .int .i64 0, .slice none 0 0] 79)
              have GZ := Lib.hid (heap_alloc_new wc (.cells #[.int .i64 0, .int .i64 0, .int .i64 0, .int .i64 0, .string ⟨#[]⟩, .int .i64 0, .int .i64 0, .int .i64 0, .slice none 0 0, .int .i64 0, .int .i64 0, .int .i64 0, .int .i64 0, .string ⟨#[]⟩, .int .i64 0, .int .i64 0, .slice none 0 0] 79))
              have HAZ := Lib.hid hAz
              have HBZ := Lib.hid (HB2.out.below hAz)
              clear hAz
              generalize wc.alloc (.cells #[.int .i64 0, .int .i64 0, .int .i64 0, .int .i64 0, .string ⟨#[]⟩, .int .i64 0, .int .i64 0, .int .i64 0, .slice none 0 0, .int .i64 0, .int .i64 0, .int .i64 0, .int .i64 0, .string ⟨#[]⟩, .int .i64 0, .int .i64 0, .slice none 0 0] 79) = wz at *
              generalize hq2 : wc.heap.size = q2 at *
              have HQ2 := Lib.hid hq2
              clear hq2
              obtain ⟨xa2, xk2, hov2⟩ := HBZ.out.hm.form
              have hov3 := hov2
              have hlq : Q1.rs.length = R1.s.ops.length := HBZ.out.hm.len.trans (by rw [HBZ.out.same])
              have hlr : R1.rs.length = R1.s.ops.length := HBZ.out.hc.len
              have hln : R1.s.ops.length ≤ k + 1 := HIN1.out.ln
              rw [hlq] at hov2
              obtain ⟨n, hn⟩ : ∃ n, R1.s.ops.length = n := ⟨_, rfl⟩
              rw [hn] at hlq hlr hln hov2
              have z2 : wz.cell? ⟨m, 2, none⟩ = some (.slice xa2 n xk2) := by rw [← hov2]; exact HBZ.out.hm.c2
              have HOV2 := Lib.hid hov2
              have HN := Lib.hid hn
              have HLQ := Lib.hid hlq
              have HLR := Lib.hid hlr
              have hq2z : q2 < wz.heap.size := (Array.getElem?_eq_some_iff.1 GZ.out).1
              clear hov2 hov3 hn hlq hlr
              cases n with
              | zero =>
                have hz0 : lastS R1.s = zeroOp := by
                  unfold lastS
                  rw [List.eq_nil_of_length_eq_zero HN.out]
                  rfl
                as_aux_lemma =>
                  have HZ0 := Lib.hid hz0
                  have HYC := Lib.hid (show Below wc.heap.size wc wz by rw [HQ2.out]; exact HAZ.out)
                  have CO1 := Lib.hid (ops_any _ w.heap.size c R1 wz HBZ.out.hc (by have := HLR.out; omega))
                  clear hz0
                  go_wp2_with fail
                  refine CO1.out.mono ?_
                  rintro e w5 ⟨vk, rfl, hok5, hb5⟩
                  obtain ⟨ak, capk, rfl⟩ := row_form5 hok5
                  have HB5 := Lib.hid (HBZ.out.below hb5)
                  have G5 := Lib.hid ((hb5.block q2 (Array.getElem?_eq_some_iff.1 GZ.out).1).trans GZ.out)
                  have HF5 := Lib.hid ((HBL2.out.trans (HYC.out.mono HBL2.out.size)).trans (hb5.mono (Nat.le_trans HBL2.out.size HYC.out.size)))
                  have HTD5 := Lib.hid ((HTD.out.below HYC.out).below hb5)
                  rw [HLR.out]
                  clear hok5 hb5 z2
                  go_upto_region 51 with fail
                  refine reg51z _ _ _ _ _ _ _ _ _ _ _ _ _ _ _ _ _ _ _ _ _ _ _ _ _ _ _ _ _ _ _ _ _ _ _ _ _ _ _ _ _ _ _ _ _ _ _ _ _ _ _ _ _ _ _ _ _ _ _ _ _ _ _ _ _ _ _ _ _ _ _ _ _ _ _ _ _ _ _ _ _ _ _ _ _ _ _ _ _ _ _ _ _ _ _ _ _ _ _ _ _ _ _ _ _ _ _ _ _ _ _ _ _ _ _ _ _ _ _ _ _ _ _ _ _ _ _ _ _ _ _ _ _ _ _ _ _ _ _ _ _ _ _ _ _ _ _ _ _ _ _ _ _ _ _ _ _ _ _ _ _ _ _ _ _ _ _ _ _ _ _ _ _ _ _ _ _ _ _ _ _ _ _ _ _ _ _ _ _ _ _ _ _ _ _ _ _ _ _ _ _ _ _ _ _ _ _ _ _ _ _ _ _ _ _ _ _ _ _ _ _ _ _ _ _ _ _ _ _ _ _ _ _ _ _ _ _ _ _ _ _ _ _ _ _ _ _ _ _ _ _ _ _ _ _ _ _ _ _ _ _ _ _ _ _ _ _ _ _ _ _ _ _ _ _ _ _ _ _ _ _ _ _ _ _ _ _ _ _ _ _ _ _ _ _ _ _ _ _ _ _ _ _ _ _ _ _ _ _ _ _ _ _ _ _ _ _ _ _ _ _ _ _ _ _ _ _ _ _ _ _ _ _ _ _ _ _ _ _ _ _ _ _ _ _ _ _ _ _ _ _ _ _ _ _ _ _ _ _ _ _ _ _ _ _ HB5.out HTD5.out HOV2.out HZ0.out G5.out (by intro p a w d v h; cases d <;> exact h) ?_
                  intro _ _ _ _ _ _ _ _ _ _ _ _ _ _ _ _ _ _ _ _ _ _ _ _ _ _ _ _ _ _ _ _ _ _ _ _ _ _ _ _ _ _ _ _ _ _ _ _ _ _ _ _ _ _ _ w9 hb9
                  dsimp only
                  have HB9 := Lib.hid hb9
                  clear hb9
                  go_wp2_with fail
                  go_roundw
                  case rel => exact ⟨k + 1, err1, now1, R1, Q1, by omega, by go_num, rfl, rfl, rfl, hn1, by omega, HB5.out.below HB9.out, HIN1.out, HF5.out.trans (HB9.out.mono HF5.out.size)⟩
                  case measure => simp [intOf]; omega
              | succ i =>
                obtain ⟨l1, r1, hl1⟩ := HBZ.out.hm.split (by intro e; have := HN.out; rw [← HBZ.out.same, e] at this; exact absurd this (by simp))
                have hi : l1.length = i := by have := HLQ.out; rw [hl1] at this; simpa using this
                obtain ⟨l2, r2, hl2⟩ := HBZ.out.hc.split (by intro e; have := HN.out; rw [e] at this; exact absurd this (by simp))
                have hi2 : l2.length = i := by have := HLR.out; rw [hl2] at this; simpa using this
                have ho1 : r1.o = lastS R1.s := by rw [← HBZ.out.same]; exact (HBZ.out.hm.lastS hl1).symm
                have ho2 : r2.o = lastS R1.s := (HBZ.out.hc.lastS hl2).symm
                have hm1 : r1 ∈ Q1.rs := by rw [hl1]; simp
                have hm2 : r2 ∈ R1.rs := by rw [hl2]; simp
                obtain ⟨a3, k3, hv3⟩ := (HBZ.out.hm.bev r1 hm1).1.form
                obtain ⟨a4, k4, hv4⟩ := (HBZ.out.hm.evv r1 hm1).1.form
                obtain ⟨a1, k1, hv1⟩ := (HBZ.out.hc.bev r2 hm2).1.form
                obtain ⟨a2, k2, hv2⟩ := (HBZ.out.hc.evv r2 hm2).1.form
                rw [ho1] at hv3 hv4
                rw [ho2] at hv1 hv2
                have e3 := (HBZ.out.hm.bev r1 hm1).1
                have e4 := (HBZ.out.hm.evv r1 hm1).1
                have e1 := (HBZ.out.hc.bev r2 hm2).1
                have e2 := (HBZ.out.hc.evv r2 hm2).1
                rw [ho1, hv3] at e3
                rw [ho1, hv4] at e4
                rw [ho2, hv1] at e1
                rw [ho2, hv2] at e2
                obtain ⟨o, hoo⟩ : ∃ o, lastS R1.s = o := ⟨_, rfl⟩
                rw [hoo] at ho1 ho2 hv1 hv2 hv3 hv4 e1 e2 e3 e4
                have hc3 : r1.cells = [.int .i64 o.kind, .int .i64 o.id, .int .i64 o.start, .int .i64 o.end_, .string o.b.stream, .int .i64 o.b.expect, .int .i64 o.b.session, .int .i64 o.b.seq, .slice a3 o.b.events.length k3, .int .i64 o.out.code, .int .i64 o.out.pos, .int .i64 o.out.first, .int .i64 o.out.version, .string o.stream, .int .i64 o.from_, .int .i64 o.version, .slice a4 o.events.length k4] := by unfold OpR.cells; rw [ho1, hv3, hv4]
                have hc1 : r2.cells = [.int .i64 o.kind, .int .i64 o.id, .int .i64 o.start, .int .i64 o.end_, .string o.b.stream, .int .i64 o.b.expect, .int .i64 o.b.session, .int .i64 o.b.seq, .slice a1 o.b.events.length k1, .int .i64 o.out.code, .int .i64 o.out.pos, .int .i64 o.out.first, .int .i64 o.out.version, .string o.stream, .int .i64 o.from_, .int .i64 o.version, .slice a2 o.events.length k2] := by unfold OpR.cells; rw [ho2, hv1, hv2]
                obtain ⟨g, cap, hovg, hgl, hgc, hgs, hcell, -⟩ := HBZ.out.hm.last hl1
                rw [hi] at hovg hcell
                obtain ⟨rfl, -, rfl⟩ : xa2 = some ⟨g, 0, none⟩ ∧ i + 1 = i + 1 ∧ xk2 = cap := by have := HOV2.out; rw [hovg] at this; injection this with e1 e2 e3; exact ⟨e1.symm, e2, e3.symm⟩
                have hrg : wz.rangeAt g (i * 17) [.int .i64 o.kind, .int .i64 o.id, .int .i64 o.start, .int .i64 o.end_, .string o.b.stream, .int .i64 o.b.expect, .int .i64 o.b.session, .int .i64 o.b.seq, .slice a3 o.b.events.length k3, .int .i64 o.out.code, .int .i64 o.out.pos, .int .i64 o.out.first, .int .i64 o.out.version, .string o.stream, .int .i64 o.from_, .int .i64 o.version, .slice a4 o.events.length k4] := fun j v hj => by
                  have h17 : j < 17 := (List.getElem?_eq_some_iff.1 hj).1
                  rw [hcell j h17, hc3]
                  exact hj
                have HRG3 := Lib.hid hrg
                have HE1 := Lib.hid e1
                have HE2 := Lib.hid e2
                have HE3 := Lib.hid e3
                have HE4 := Lib.hid e4
                have HC1 := Lib.hid hc1
                have HL2 := Lib.hid hl2
                have HI2 := Lib.hid hi2
                have HOO := Lib.hid hoo
                have HGET := Lib.hid (show R1.rs[i]? = some r2 by rw [hl2, List.getElem?_append_right (by omega), hi2, Nat.sub_self]; rfl)
                have HEVW := Lib.hid (fun (X' : World) (hbx : BothM w.heap.size c m X' R1 Q1) => (show IsEvents X'.heap.size X' (.slice a1 o.b.events.length k1) o.b.events ∧ IsEvents X'.heap.size X' (.slice a2 o.events.length k2) o.events ∧ IsEvents X'.heap.size X' (.slice a3 o.b.events.length k3) o.b.events ∧ IsEvents X'.heap.size X' (.slice a4 o.events.length k4) o.events from by
                  have q1 := (hbx.hc.bev r2 hm2).1
                  have q2 := (hbx.hc.evv r2 hm2).1
                  have q3 := (hbx.hm.bev r1 hm1).1
                  have q4 := (hbx.hm.evv r1 hm1).1
                  rw [ho2, hv1] at q1
                  rw [ho2, hv2] at q2
                  rw [ho1, hv3] at q3
                  rw [ho1, hv4] at q4
                  exact ⟨q1, q2, q3, q4⟩))
                have HGQ := Lib.hid (show g < q2 ∧ g < wz.heap.size from ⟨by
                  obtain ⟨g', cap', hov', -, -, hgs', -, -⟩ := HB2.out.hm.last hl1
                  rw [hovg] at hov'
                  injection hov' with e1 _ _
                  injection e1 with e1
                  injection e1 with e1 _ _
                  subst e1
                  have := HQ2.out
                  omega, hgs⟩)
                have HMQ := Lib.hid (show m < q2 from by have := HB2.out.hm.clt; have := HQ2.out; omega)
                have HPL3 := Lib.hid (show (#[.int .i64 o.kind, .int .i64 o.id, .int .i64 o.start, .int .i64 o.end_, .string o.b.stream, .int .i64 o.b.expect, .int .i64 o.b.session, .int .i64 o.b.seq, .slice a3 o.b.events.length k3, .int .i64 o.out.code, .int .i64 o.out.pos, .int .i64 o.out.first, .int .i64 o.out.version, .string o.stream, .int .i64 o.from_, .int .i64 o.version, .slice a4 o.events.length k4] : Array Value).all (·.oneCell') = true by simp [Value.oneCell'])
                have hmz : m < wz.heap.size := HBZ.out.hm.clt
                have hi60 : (i : Int) ≤ 100 := by omega
                have hi0 : (0 : Int) ≤ (i : Int) := by omega
                have hi1 : (i : Int) < (i : Int) + 1 := by omega
                have hi3 : (0 : Int) < (i : Int) + 1 := by omega
                have ewl : IntKind.i64.wrap (i : Int) = (i : Int) := by rw [IntKind.wrap_i64]; omega
                clear e1 e2 e3 e4 hc1 hc3 hl1 hl2 hi hi2 ho1 ho2 hm1 hm2 hv1 hv2 hv3 hv4 hovg hgl hgc hgs hcell hrg hoo
                as_aux_lemma =>
                  go_upto_region 49 with fail
                  refine reg49 _ _ _ _ _ _ _ _ _ _ _ _ _ _ _ _ _ _ _ _ _ _ _ _ _ _ _ _ _ _ _ _ _ _ _ _ _ _ _ _ _ _ _ _ _ _ _ _ _ _ _ _ _ _ _ _ _ _ _ _ _ _ _ _ _ _ _ _ _ _ _ _ _ _ _ _ _ _ _ _ _ _ _ _ _ _ _ _ _ _ _ _ _ _ _ _ _ _ _ _ _ _ _ _ _ _ _ _ _ _ _ _ _ _ _ _ _ _ _ _ _ _ _ _ _ _ _ _ _ _ _ _ _ _ _ _ _ _ _ _ _ _ _ _ _ _ _ _ _ _ _ _ _ _ _ _ _ _ _ _ _ _ _ _ _ _ _ _ _ _ _ _ _ _ _ _ _ _ _ _ _ _ _ _ _ _ _ _ _ _ _ _ _ _ _ _ _ _ _ _ _ _ _ _ _ _ _ _ _ _ _ _ _ _ _ _ _ _ _ _ _ _ _ _ _ _ _ _ _ _ _ _ _ _ _ _ _ _ _ _ _ _ _ _ _ _ _ _ _ _ _ _ _ _ _ _ _ _ _ _ _ _ _ _ _ _ _ _ _ _ _ _ _ _ _ _ _ _ _ _ _ _ _ _ _ _ _ _ _ _ _ _ _ _ _ _ _ _ _ _ _ _ _ _ _ _ _ _ _ _ _ _ _ _ _ _ _ _ _ _ _ _ _ _ _ _ _ _ _ _ _ _ _ _ _ _ _ _ _ _ _ _ _ _ _ _ _ _ _ _ _ _ _ _ _ _ _ _ _ _ _ _ _ _ _ _ _ _ _ _ _ z2 HRG3.out GZ.out rfl hmz HGQ.out.2 (by have := HMQ.out; omega) (by have := HGQ.out.1; omega) (by omega) (by intro p a w d v h; cases d <;> exact h) ?_
                  intro _ _ _ _ _ _ _ _ _ _ _ _
                  dsimp only
                  have HBY0 := Lib.hid (Rf.below_setCells (HAZ.out.drew) q2 (Nat.le_refl _) [.int .i64 o.kind, .int .i64 o.id, .int .i64 o.start, .int .i64 o.end_, .string o.b.stream, .int .i64 o.b.expect, .int .i64 o.b.session, .int .i64 o.b.seq, .slice a3 o.b.events.length k3, .int .i64 o.out.code, .int .i64 o.out.pos, .int .i64 o.out.first, .int .i64 o.out.version, .string o.stream, .int .i64 o.from_, .int .i64 o.version, .slice a4 o.events.length k4] 0 _ (HAZ.out.drew))
                  have GY := Lib.hid (Rf.set_whole (vs := [.int .i64 o.kind, .int .i64 o.id, .int .i64 o.start, .int .i64 o.end_, .string o.b.stream, .int .i64 o.b.expect, .int .i64 o.b.session, .int .i64 o.b.seq, .slice a3 o.b.events.length k3, .int .i64 o.out.code, .int .i64 o.out.pos, .int .i64 o.out.first, .int .i64 o.out.version, .string o.stream, .int .i64 o.from_, .int .i64 o.version, .slice a4 o.events.length k4]) (show wz.drew.heap[q2]? = _ from GZ.out) rfl)
                  generalize wz.drew.setCells q2 0 [.int .i64 o.kind, .int .i64 o.id, .int .i64 o.start, .int .i64 o.end_, .string o.b.stream, .int .i64 o.b.expect, .int .i64 o.b.session, .int .i64 o.b.seq, .slice a3 o.b.events.length k3, .int .i64 o.out.code, .int .i64 o.out.pos, .int .i64 o.out.first, .int .i64 o.out.version, .string o.stream, .int .i64 o.from_, .int .i64 o.version, .slice a4 o.events.length k4] = wy at *
                  have HYC := Lib.hid (show Below wc.heap.size wc wy by rw [HQ2.out]; exact HBY0.out)
                  have HBY := Lib.hid (HB2.out.below HYC.out)
                  have CO1 := Lib.hid (ops_any _ w.heap.size c R1 wy HBY.out.hc (by have := HLR.out; omega))
                  clear z2
                  go_wp2_with fail
                  refine CO1.out.mono ?_
                  rintro e w5 ⟨vk, rfl, hok5, hb5⟩
                  have hr0 : i < R1.rs.length := by have := HLR.out; omega
                  obtain ⟨gk, capk, rfl, -, hgk, hcellk⟩ := row_at5 hok5 (by omega)
                  have hrk : w5.rangeAt gk (i * 17) [.int .i64 o.kind, .int .i64 o.id, .int .i64 o.start, .int .i64 o.end_, .string o.b.stream, .int .i64 o.b.expect, .int .i64 o.b.session, .int .i64 o.b.seq, .slice a1 o.b.events.length k1, .int .i64 o.out.code, .int .i64 o.out.pos, .int .i64 o.out.first, .int .i64 o.out.version, .string o.stream, .int .i64 o.from_, .int .i64 o.version, .slice a2 o.events.length k2] := fun j v hj => by
                    have h17 : j < 17 := (List.getElem?_eq_some_iff.1 hj).1
                    have hri := HGET.out
                    rw [List.getElem?_eq_getElem hr0] at hri
                    rw [hcellk i hr0 j h17, Option.some.inj hri, HC1.out]
                    exact hj
                  have HRK := Lib.hid hrk
                  have HGK := Lib.hid hgk
                  have HB5 := Lib.hid (HBY.out.below hb5)
                  have G5 := Lib.hid ((hb5.block q2 (Array.getElem?_eq_some_iff.1 GY.out).1).trans GY.out)
                  have HF5 := Lib.hid ((HBL2.out.trans (HYC.out.mono HBL2.out.size)).trans (hb5.mono (Nat.le_trans HBL2.out.size HYC.out.size)))
                  have HTD5 := Lib.hid ((HTD.out.below HYC.out).below hb5)
                  rw [HLR.out]
                  clear hok5 hb5 hrk hgk hcellk hr0
                  have q1 := HEVW.out w5 HB5.out
                  have HQ1 := Lib.hid q1
                  clear q1
                  go_upto_region 51 with fail
                  refine reg51s _ _ _ _ _ _ _ _ _ _ _ _ _ _ _ _ _ _ _ _ _ _ _ _ _ _ _ _ _ _ _ _ _ _ _ _ _ _ _ _ _ _ _ _ _ _ _ _ _ _ _ _ _ _ _ _ _ _ _ _ _ _ _ _ _ _ _ _ _ _ _ _ _ _ _ _ _ _ _ _ _ _ _ _ _ _ _ _ _ _ _ _ _ _ _ _ _ _ _ _ _ _ _ _ _ _ _ _ _ _ _ _ _ _ _ _ _ _ _ _ _ _ _ _ _ _ _ _ _ _ _ _ _ _ _ _ _ _ _ _ _ _ _ _ _ _ _ _ _ _ _ _ _ _ _ _ _ _ _ _ _ _ _ _ _ _ _ _ _ _ _ _ _ _ _ _ _ _ _ _ _ _ _ _ _ _ _ _ _ _ _ _ _ _ _ _ _ _ _ _ _ _ _ _ _ _ _ _ _ _ _ _ _ _ _ _ _ _ _ _ _ _ _ _ _ _ _ _ _ _ _ _ _ _ _ _ _ _ _ _ _ _ _ _ _ _ _ _ _ _ _ _ _ _ _ _ _ _ _ _ _ _ _ _ _ _ _ _ _ _ _ _ _ _ _ _ _ _ _ _ _ _ _ _ _ _ _ _ _ _ _ _ _ _ _ _ _ _ _ _ _ _ _ _ _ _ _ _ _ _ _ _ _ _ _ _ _ _ _ _ _ _ _ _ _ _ _ _ _ _ _ _ _ _ _ _ _ _ _ _ _ _ _ _ _ _ _ _ _ _ _ _ _ _ _ _ _ _ _ _ _ _ _ _ _ HB5.out HTD5.out HOV2.out HOO.out G5.out HRK.out HGK.out (by omega) HQ1.out.1 HQ1.out.2.1 HQ1.out.2.2.1 HQ1.out.2.2.2 (by intro p a w d v h; cases d <;> exact h) ?_
                  intro _ _ _ _ _ _ _ _ _ _ _ _ _ _ _ _ _ _ _ _ _ _ _ _ _ _ _ _ _ _ _ _ _ _ _ _ _ _ _ _ _ _ _ _ _ _ _ _ _ _ _ _ _ _ _ w9 hb9
                  dsimp only
                  have HB9 := Lib.hid hb9
                  clear hb9
                  go_wp2_with fail
                  go_roundw
                  case rel => exact ⟨k + 1, err1, now1, R1, Q1, by omega, by go_num, rfl, rfl, rfl, hn1, by omega, HB5.out.below HB9.out, HIN1.out, HF5.out.trans (HB9.out.mono HF5.out.size)⟩
                  case measure => simp [intOf]; omega
        · have g : ¬ ((k : Int) < (l.length : Int)) := by omega
          go_wp2_with fail
          go_ret
          exact ⟨rfl, HBW.out⟩
end Go.Proofs.YtapgjjfndbfnpaaDoor
