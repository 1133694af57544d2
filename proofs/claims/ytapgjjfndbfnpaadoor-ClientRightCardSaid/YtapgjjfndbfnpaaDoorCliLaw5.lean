/-
  The walk of bucketlinelaw22.ClientRight. Printed by gen_cliright.py of this claim's writer.
-/
import Derived.Test.YtapgjjfndbfnpaaDoorCliRt
import Derived.Test.YtapgjjfndbfnpaaDoorCliShown
import Derived.Test.YtapgjjfndbfnpaaDoorCliSmall2
import Derived.Test.YtapgjjfndbfnpaaDoorCliRead
import Derived.Test.YtapgjjfndbfnpaaDoorCliVw
import Derived.Deep.CutBlock
import Derived.Deep.CutRange
import Derived.Deep.LoopGhost
import Derived.BigQuiet
import Derived.IntWalk
namespace Go.Proofs.YtapgjjfndbfnpaaDoor
open Go.RowKit
set_option linter.unusedSimpArgs false
set_option linter.unusedVariables false

theorem triple_of5 {A B C : Type} (x : A × B × C) : ∃ a b c, x = (a, b, c) := ⟨x.1, x.2.1, x.2.2, rfl⟩
theorem pair_of5 {A B : Type} (x : A × B) : ∃ a b, x = (a, b) := ⟨x.1, x.2, rfl⟩
theorem form_of5 {w : World} {base n sz : Nat} {e : TypeId} {v : Value} {xs : List Value} (h : w.ownsRow base e sz v n xs) : ∃ a cap, v = .slice a n cap := by
  rcases h.2 with ⟨e1, e2⟩ | ⟨g, cap, cur, e1, _⟩
  · exact ⟨none, 0, by rw [e1, e2]⟩
  · exact ⟨_, cap, e1⟩
theorem does_after {X : Nat → Prop} {lo c : Nat} {R : ClR} {w w1 w2 : World} {s' : ClW} {l : List OutW} {v : Value} (hb : Below w.heap.size w w1) (h : Does X lo c R w1 s' l v w2) : Does X lo c R w s' l v w2 := by
  obtain ⟨R', outs, a1, a2, a3, a4, a5, a6⟩ := h
  exact ⟨R', outs, a1, a2, (step_below hb rfl).trans a3, outs_less hb.size a4, a5, a6⟩
theorem does_eq {X : Nat → Prop} {lo c : Nat} {R : ClR} {w w2 : World} {s' s2 : ClW} {l l2 : List OutW} {v : Value} (h : Does X lo c R w s' l v w2) (e : (s2, l2) = (s', l)) : Does X lo c R w s2 l2 v w2 := by
  injection e with e1 e2
  rw [e1, e2]
  exact h

set_option maxRecDepth 100000 in
set_option maxHeartbeats 64000000 in
theorem walkClientRight (v0 : Value) (w : World) (hT : Tabs w) (hv : ∃ l, IsActs w.heap.size w v0 l) :
    Calls Tryd.prog 6 #[v0] w fun e w' => e = .returned (.bool true) ∧ Below w.heap.size w w' := by
  obtain ⟨l, hl⟩ := hv
  have HL := Lib.hid hl
  have HT := Lib.hid hT
  obtain ⟨la, lk, rfl⟩ := hl.form
  have hmax : l.length ≤ 9223372036854775807 := by obtain ⟨_, _, he, h1, h2, _⟩ := hl; unfold maxLen at h2; omega
  have HSH := Lib.hid (shown22_any w hT)
  clear hl hT
  go_enter Tryd.func6, Tryd.ntmps6
  go_wp2_with fail
  refine HSH.out.mono ?_
  rintro e wA ⟨rfl, hbA⟩
  have HBA := Lib.hid hbA
  have CS := Lib.hid (small22_any w.heap.size _ l wA (HL.out.keep hbA (Nat.le_refl _)) hbA.size)
  clear hbA
  go_wp2_with fail
  refine CS.out.mono ?_
  rintro e wB ⟨q, rfl, hq, hbB⟩
  have HBB := Lib.hid (HBA.out.trans (hbB.mono HBA.out.size))
  have HQ := Lib.hid hq
  have CN := Lib.hid (new_ok 9 5 (by decide) wB)
  have HMN := Lib.hid (newR_is (fun _ => False) w.heap.size wB 9 5 HBB.out.size (fun k hk => hk.elim))
  have HBN := Lib.hid (HBB.out.alloc HBB.out.size (.cells (newR 9 5).cells 94))
  clear hbB hq
  cases q with
  | false =>
    go_wp2_with fail
    refine CN.out.mono ?_
    rintro e wC ⟨rfl, rfl⟩
    go_wp2_with fail
    go_ret
    exact ⟨rfl, HBN.out⟩
  | true =>
    have hsm := HQ.out (by trivial)
    have h60 := hsm.1
    have HSM := Lib.hid hsm.2
    clear hsm
    go_wp2_with fail
    refine CN.out.mono ?_
    rintro e wC ⟨rfl, rfl⟩
    generalize wB.alloc (.cells (newR 9 5).cells 94) = ws at *
    generalize hc0 : wB.heap.size = c at *
    clear hc0
    go_wp2_with fail
    go_loopw [7, 8] (fun t7 t8 wr => ∃ (k : Nat) (now : Int) (R : ClR), k ≤ l.length ∧ t8 = .int .i64 k ∧ t7 = .int .i64 now ∧ InvO R.s now ∧ InvQ R.s ∧ now ≤ 7 * k ∧ R.rs.length ≤ k ∧ ClM (fun _ => False) w.heap.size wr c R ∧ Below w.heap.size w wr) (fun _ t8 _ => l.length - (intOf t8).toNat)
    case atStart => exact ⟨0, 0, newR 9 5, Nat.zero_le _, rfl, rfl, inv_new, inv_newQ, by omega, by simp [newR], HMN.out, HBN.out⟩
    case round =>
      obtain ⟨k, now, R, hk, rfl, rfl, hinv, hinq, hnow, hrs, hcm, hbw⟩ := hrel
      have HINQ := Lib.hid hinq
      clear hinq
      have hn0 := hinv.n0
      have HINV := Lib.hid hinv
      have HCM := Lib.hid hcm
      have HBW := Lib.hid hbw
      have HCLT := Lib.hid hcm.clt
      have hwz : w.heap.size ≤ wr.heap.size := hbw.size
      clear hinv hcm hbw
      by_cases hlt : k < l.length
      · obtain ⟨b, off, cap', he, hblk, hrg⟩ := (HL.out.keep HBW.out (Nat.le_refl _)).range k hlt
        have hok := (HL.out.keep HBW.out (Nat.le_refl _)).ok k hlt
        obtain ⟨rfl, -, rfl⟩ : la = some ⟨b, off, none⟩ ∧ l.length = l.length ∧ lk = cap' := by injection he with e1 e2 e3; exact ⟨e1, e2, e3⟩
        clear he
        have hsa := HSM.out k hlt
        obtain ⟨r, hr⟩ : ∃ r, l[k] = r := ⟨_, rfl⟩
        rw [hr] at hrg hok hsa
        obtain ⟨ba, bk, ca, ck, sa, sk, oa, ok, ea, ek, hform⟩ := hok.forms
        have hpl := hok.plain
        have HOK := Lib.hid (show (⟨r.a, .slice ba r.a.b.events.length bk, .slice ca r.a.v.chain.length ck, .slice sa r.a.v.since.length sk, .slice oa r.a.v.boot.length ok, .slice ea r.a.events.length ek⟩ : AcR).Ok w.heap.size wr by rw [← hform]; exact hok)
        obtain ⟨cs, hcs⟩ : ∃ cs, r.cells = cs := ⟨_, rfl⟩
        have hlen : cs.length = 19 := by rw [← hcs]; rfl
        have HCS := Lib.hid (show cs = [.int .i64 r.a.op, .int .i64 r.a.n, .int .i64 r.a.m, .string r.a.b.stream, .int .i64 r.a.b.expect, .int .i64 r.a.b.session, .int .i64 r.a.b.seq, .slice ba r.a.b.events.length bk, .string r.a.stream, .int .i64 r.a.from_, .int .i64 r.a.v.epoch, .slice ca r.a.v.chain.length ck, .slice sa r.a.v.since.length sk, .slice oa r.a.v.boot.length ok, .int .i64 r.a.out.code, .int .i64 r.a.out.pos, .int .i64 r.a.out.first, .int .i64 r.a.out.version, .slice ea r.a.events.length ek] from hcs.symm.trans ((congrArg AcR.cells hform).trans rfl))
        rw [hcs] at hrg hpl
        have HLEN := Lib.hid hlen
        have HRG := Lib.hid hrg
        have HPL := Lib.hid hpl
        have HSA := Lib.hid hsa
        obtain ⟨pm, hpm⟩ : ∃ pm : Int, ((pickT r.a.m 3 : Nat) : Int) = pm := ⟨_, rfl⟩
        have hpm0 : 0 ≤ pm := by rw [← hpm]; omega
        have hpm3 : pm < 3 := by rw [← hpm]; have := pick_lt r.a.m 3 (by omega); omega
        obtain ⟨ci, hci⟩ : ∃ ci : Int, ((pickT r.a.op 10 : Nat) : Int) = ci := ⟨_, rfl⟩
        have hc10 : ci = 0 ∨ ci = 1 ∨ ci = 2 ∨ ci = 3 ∨ ci = 4 ∨ ci = 5 ∨ ci = 6 ∨ ci = 7 ∨ ci = 8 ∨ ci = 9 := by
          have := pick_lt r.a.op 10 (by omega)
          omega
        have CP3 := Lib.hid (fun (X' : World) => (show Calls Tryd.prog 14 #[.int .i64 r.a.m, .int .i64 3] X' fun r w' => r = .returned (.int .i64 pm) ∧ X' = w' by have h := pick_any r.a.m hok.m 3 (by omega) (by omega) X'; rw [hpm] at h; exact h))
        have CPO := Lib.hid (fun (X' : World) => (show Calls Tryd.prog 14 #[.int .i64 r.a.op, .int .i64 10] X' fun r w' => r = .returned (.int .i64 ci) ∧ X' = w' by have h := pick_any r.a.op hok.op 10 (by omega) (by omega) X'; rw [hci] at h; exact h))
        have i1 : (0 : Int) ≤ (k : Int) := by omega
        have i2 : (k : Int) < (l.length : Int) := by omega
        have hk180 : (k : Int) ≤ 60 := by omega
        have hA1 := (Below.refl wr.heap.size wr).alloc (Nat.le_refl _) (.cells cs.toArray 33)
        have G1 := Lib.hid (heap_alloc_new wr (.cells cs.toArray 33))
        have hA1b := hA1
        have HM1 := Lib.hid (HCM.out.keep hA1)
        have HB1 := Lib.hid (HBW.out.trans (hA1.mono HBW.out.size))
        have hst : (storeCells ⟨wr.heap.size, 0, none⟩ cs).run Tryd.prog (wr.alloc (.cells #[.int .i64 0, .int .i64 0, .int .i64 0, .string ⟨#[]⟩, .int .i64 0, .int .i64 0, .int .i64 0, .slice none 0 0, .string ⟨#[]⟩, .int .i64 0, .int .i64 0, .slice none 0 0, .slice none 0 0, .slice none 0 0, .int .i64 0, .int .i64 0, .int .i64 0, .int .i64 0, .slice none 0 0] 33)) = .ok () (wr.alloc (.cells cs.toArray 33)) := run_storeCells_new wr 33 #[.int .i64 0, .int .i64 0, .int .i64 0, .string ⟨#[]⟩, .int .i64 0, .int .i64 0, .int .i64 0, .slice none 0 0, .string ⟨#[]⟩, .int .i64 0, .int .i64 0, .slice none 0 0, .slice none 0 0, .slice none 0 0, .int .i64 0, .int .i64 0, .int .i64 0, .int .i64 0, .slice none 0 0] cs.toArray (by rw [List.size_toArray, HLEN.out]; exact actsize) (by rw [show cs.toArray.size = 19 from HLEN.out]; rfl) HPL.out
        have hls : cs.length = 19 := HLEN.out
        clear hrg hok hsa hform hpl hcs hlen hr hpm hci hA1 hblk
        go_upto_region 11 with (refine wpList_load_mid rfl 33 _ rfl b (off + k * 19) (by rfl) cs _ HRG.out Tryd.underlying33 rfl (by rw [HLEN.out]; exact actsize) ?_)
        clear hst hls
        have HWA := Lib.hid hA1b
        clear hA1b
        generalize wr.alloc (.cells cs.toArray 33) = wa at *
        have hza : wr.heap.size < wa.heap.size := (Array.getElem?_eq_some_iff.1 G1.out).1
        generalize hqq : wr.heap.size = q at *
        have HQM := Lib.hid (show ¬ R.mut c q from fun hu => by have := (HCM.out.mutlo q hu).2; omega)
        clear hqq
        have y2 : wa.cell? ⟨q, 2, none⟩ = some (.int .i64 r.a.m) := by rw [Lib.cell_of_heap G1.out, HCS.out]; rfl
        go_wp2_with fail
        refine (CP3.out _).mono ?_
        rintro e wa' ⟨rfl, rfl⟩
        have y0 : wa.cell? ⟨q, 0, none⟩ = some (.int .i64 r.a.op) := by rw [Lib.cell_of_heap G1.out, HCS.out]; rfl
        clear y2
        go_wp2_with fail
        refine (CPO.out _).mono ?_
        rintro e wa' ⟨rfl, rfl⟩
        clear y0
        go_upto_block 2 with fail
        go_cut [7, 10] from 41 to 189 (fun s7 s10 wx => s7 = .int .i64 (nowS (now + pm) ci) ∧ Does (fun _ => False) w.heap.size c R wa (rightS R.s r.a (now + pm) ci).1 (rightS R.s r.a (now + pm) ci).2 s10 wx)
        case first =>
          rcases hc10 with rfl | rfl | rfl | rfl | rfl | rfl | rfl | rfl | rfl | rfl
          · have y3 : wa.cell? ⟨q, 3, none⟩ = some (.string r.a.b.stream) := by rw [Lib.cell_of_heap G1.out, HCS.out]; rfl
            have y4 : wa.cell? ⟨q, 4, none⟩ = some (.int .i64 r.a.b.expect) := by rw [Lib.cell_of_heap G1.out, HCS.out]; rfl
            have y7 : wa.cell? ⟨q, 7, none⟩ = some (.slice ba r.a.b.events.length bk) := by rw [Lib.cell_of_heap G1.out, HCS.out]; rfl
            obtain ⟨s2, outs2, err2, hap⟩ := triple_of5 (appendS R.s r.a.b.stream r.a.b.expect r.a.b.events (now + pm))
            have HAP := Lib.hid (show ((appendS R.s r.a.b.stream r.a.b.expect r.a.b.events (now + pm)).1, (appendS R.s r.a.b.stream r.a.b.expect r.a.b.events (now + pm)).2.1) = (s2, outs2) from by rw [hap])
            have hev := (HOK.out.bev.keep (B' := q) HWA.out hwz).up (show w.heap.size ≤ wa.heap.size from HB1.out.size)
            have CA := Lib.hid (append_any (fun _ => False) w.heap.size c R wa HM1.out (by omega) (tabs_below HT.out HB1.out) r.a.b.stream r.a.b.expect _ r.a.b.events hev (by have := HSA.out.b; omega) (now + pm) s2 outs2 err2 hap)
            clear hev hap
            go_wp2_with fail
            refine CA.out.mono ?_
            rintro e w4 ⟨v, rfl, hdo⟩
            have HDO := Lib.hid hdo
            clear hdo
            go_wp2_with fail
            go_meet
            case rel => exact ⟨rfl, does_eq HDO.out (show _ = _ from by first | (rw [← HAP.out]; rfl) | (rw [rightS, HAP.out]; rfl))⟩
          · have y3 : wa.cell? ⟨q, 3, none⟩ = some (.string r.a.b.stream) := by rw [Lib.cell_of_heap G1.out, HCS.out]; rfl
            have y4 : wa.cell? ⟨q, 4, none⟩ = some (.int .i64 r.a.b.expect) := by rw [Lib.cell_of_heap G1.out, HCS.out]; rfl
            have y7 : wa.cell? ⟨q, 7, none⟩ = some (.slice ba r.a.b.events.length bk) := by rw [Lib.cell_of_heap G1.out, HCS.out]; rfl
            obtain ⟨s2, outs2, err2, hap⟩ := triple_of5 (appendS R.s r.a.b.stream r.a.b.expect r.a.b.events (now + pm))
            have HAP := Lib.hid (show ((appendS R.s r.a.b.stream r.a.b.expect r.a.b.events (now + pm)).1, (appendS R.s r.a.b.stream r.a.b.expect r.a.b.events (now + pm)).2.1) = (s2, outs2) from by rw [hap])
            have hev := (HOK.out.bev.keep (B' := q) HWA.out hwz).up (show w.heap.size ≤ wa.heap.size from HB1.out.size)
            have CA := Lib.hid (append_any (fun _ => False) w.heap.size c R wa HM1.out (by omega) (tabs_below HT.out HB1.out) r.a.b.stream r.a.b.expect _ r.a.b.events hev (by have := HSA.out.b; omega) (now + pm) s2 outs2 err2 hap)
            clear hev hap
            go_wp2_with fail
            refine CA.out.mono ?_
            rintro e w4 ⟨v, rfl, hdo⟩
            have HDO := Lib.hid hdo
            clear hdo
            go_wp2_with fail
            go_meet
            case rel => exact ⟨rfl, does_eq HDO.out (show _ = _ from by first | (rw [← HAP.out]; rfl) | (rw [rightS, HAP.out]; rfl))⟩
          · have y3 : wa.cell? ⟨q, 3, none⟩ = some (.string r.a.b.stream) := by rw [Lib.cell_of_heap G1.out, HCS.out]; rfl
            have y4 : wa.cell? ⟨q, 4, none⟩ = some (.int .i64 r.a.b.expect) := by rw [Lib.cell_of_heap G1.out, HCS.out]; rfl
            have y7 : wa.cell? ⟨q, 7, none⟩ = some (.slice ba r.a.b.events.length bk) := by rw [Lib.cell_of_heap G1.out, HCS.out]; rfl
            obtain ⟨s2, outs2, err2, hap⟩ := triple_of5 (appendS R.s r.a.b.stream r.a.b.expect r.a.b.events (now + pm))
            have HAP := Lib.hid (show ((appendS R.s r.a.b.stream r.a.b.expect r.a.b.events (now + pm)).1, (appendS R.s r.a.b.stream r.a.b.expect r.a.b.events (now + pm)).2.1) = (s2, outs2) from by rw [hap])
            have hev := (HOK.out.bev.keep (B' := q) HWA.out hwz).up (show w.heap.size ≤ wa.heap.size from HB1.out.size)
            have CA := Lib.hid (append_any (fun _ => False) w.heap.size c R wa HM1.out (by omega) (tabs_below HT.out HB1.out) r.a.b.stream r.a.b.expect _ r.a.b.events hev (by have := HSA.out.b; omega) (now + pm) s2 outs2 err2 hap)
            clear hev hap
            go_wp2_with fail
            refine CA.out.mono ?_
            rintro e w4 ⟨v, rfl, hdo⟩
            have HDO := Lib.hid hdo
            clear hdo
            go_wp2_with fail
            go_meet
            case rel => exact ⟨rfl, does_eq HDO.out (show _ = _ from by first | (rw [← HAP.out]; rfl) | (rw [rightS, HAP.out]; rfl))⟩
          · have y1 : wa.cell? ⟨q, 1, none⟩ = some (.int .i64 r.a.n) := by rw [Lib.cell_of_heap G1.out, HCS.out]; rfl
            have y8 : wa.cell? ⟨q, 8, none⟩ = some (.string r.a.stream) := by rw [Lib.cell_of_heap G1.out, HCS.out]; rfl
            have y9 : wa.cell? ⟨q, 9, none⟩ = some (.int .i64 r.a.from_) := by rw [Lib.cell_of_heap G1.out, HCS.out]; rfl
            obtain ⟨s2, outs2, err2, hap⟩ := triple_of5 (readS R.s r.a.stream r.a.from_ r.a.n (now + pm))
            have HAP := Lib.hid (show ((readS R.s r.a.stream r.a.from_ r.a.n (now + pm)).1, (readS R.s r.a.stream r.a.from_ r.a.n (now + pm)).2.1) = (s2, outs2) from by rw [hap])
            have CA := Lib.hid (read_any (fun _ => False) w.heap.size c R wa HM1.out (by omega) (tabs_below HT.out HB1.out) r.a.stream r.a.from_ r.a.n (now + pm) HOK.out.n s2 outs2 err2 hap)
            clear hap
            go_wp2_with fail
            refine CA.out.mono ?_
            rintro e w4 ⟨v, rfl, hdo⟩
            have HDO := Lib.hid hdo
            clear hdo
            go_wp2_with fail
            go_meet
            case rel => exact ⟨rfl, does_eq HDO.out (show _ = _ from by first | (rw [← HAP.out]; rfl) | (rw [rightS, HAP.out]; rfl))⟩
          · have y1 : wa.cell? ⟨q, 1, none⟩ = some (.int .i64 r.a.n) := by rw [Lib.cell_of_heap G1.out, HCS.out]; rfl
            have y8 : wa.cell? ⟨q, 8, none⟩ = some (.string r.a.stream) := by rw [Lib.cell_of_heap G1.out, HCS.out]; rfl
            have y9 : wa.cell? ⟨q, 9, none⟩ = some (.int .i64 r.a.from_) := by rw [Lib.cell_of_heap G1.out, HCS.out]; rfl
            obtain ⟨s2, outs2, err2, hap⟩ := triple_of5 (readS R.s r.a.stream r.a.from_ r.a.n (now + pm))
            have HAP := Lib.hid (show ((readS R.s r.a.stream r.a.from_ r.a.n (now + pm)).1, (readS R.s r.a.stream r.a.from_ r.a.n (now + pm)).2.1) = (s2, outs2) from by rw [hap])
            have CA := Lib.hid (read_any (fun _ => False) w.heap.size c R wa HM1.out (by omega) (tabs_below HT.out HB1.out) r.a.stream r.a.from_ r.a.n (now + pm) HOK.out.n s2 outs2 err2 hap)
            clear hap
            go_wp2_with fail
            refine CA.out.mono ?_
            rintro e w4 ⟨v, rfl, hdo⟩
            have HDO := Lib.hid hdo
            clear hdo
            go_wp2_with fail
            go_meet
            case rel => exact ⟨rfl, does_eq HDO.out (show _ = _ from by first | (rw [← HAP.out]; rfl) | (rw [rightS, HAP.out]; rfl))⟩
          · have y10 : wa.cell? ⟨q, 10, none⟩ = some (.int .i64 r.a.v.epoch) := by rw [Lib.cell_of_heap G1.out, HCS.out]; rfl
            have y11 : wa.cell? ⟨q, 11, none⟩ = some (.slice ca r.a.v.chain.length ck) := by rw [Lib.cell_of_heap G1.out, HCS.out]; rfl
            have y12 : wa.cell? ⟨q, 12, none⟩ = some (.slice sa r.a.v.since.length sk) := by rw [Lib.cell_of_heap G1.out, HCS.out]; rfl
            have y13 : wa.cell? ⟨q, 13, none⟩ = some (.slice oa r.a.v.boot.length ok) := by rw [Lib.cell_of_heap G1.out, HCS.out]; rfl
            obtain ⟨s2, outs2, hap⟩ := pair_of5 (seeS R.s r.a.v (now + pm))
            have HAP := Lib.hid hap
            have hkv : Vw.IsView w.heap.size wr (.agg #[.int .i64 r.a.v.epoch, .slice ca r.a.v.chain.length ck, .slice sa r.a.v.since.length sk, .slice oa r.a.v.boot.length ok]) r.a.v := ⟨HOK.out.ep, _, _, _, rfl, HOK.out.cv, HOK.out.sv, HOK.out.bv⟩
            have hiv := (hkv.keep (B' := q) HWA.out hwz).up (show w.heap.size ≤ wa.heap.size from HB1.out.size)
            have CA := Lib.hid (take_see (fun _ => False) w.heap.size c R wa HM1.out (by omega) _ r.a.v hiv HSA.out.v (now + pm) (fun e => HINV.out.some e) s2 outs2 hap)
            clear hkv hiv hap
            go_wp2_with fail
            refine CA.out.mono ?_
            rintro e w4 ⟨v, rfl, hdo⟩
            have HDO := Lib.hid hdo
            clear hdo
            go_wp2_with fail
            go_meet
            case rel => exact ⟨rfl, does_eq HDO.out (show _ = _ from by first | (rw [← HAP.out]; rfl) | (rw [rightS, HAP.out]; rfl))⟩
          · have hidn : (R.rs.length : Int) = (R.s.ops.length : Int) := by rw [HCM.out.len]
            have CO1 := Lib.hid (ops_any (fun _ => False) w.heap.size c R wa HM1.out (by omega))
            go_wp2_with fail
            refine CO1.out.mono ?_
            rintro e w3 ⟨vw, rfl, how, hb3⟩
            obtain ⟨wb, wk, rfl⟩ := form_of5 how
            have HM3 := Lib.hid (HM1.out.keep hb3)
            have HB3 := Lib.hid hb3
            clear hb3 how
            obtain ⟨s2, outs2, hap⟩ := pair_of5 (answerS R.s 1 (R.rs.length : Int) 9 (now + pm) (fun o => { o with out := ⟨0, 0, 0, 0⟩ }))
            have HAP := Lib.hid (show rightS R.s r.a (now + pm) 6 = (s2, outs2) from by rw [← hap, hidn]; rfl)
            have CA := Lib.hid (take_reply (fun _ => False) w.heap.size c R w3 HM3.out (by omega) 1 (by decide) (by decide) (R.rs.length : Int) 9 ⟨0, 0, 0, 0⟩ (now + pm) (fun e => HINV.out.some e) s2 outs2 hap)
            clear hap hidn
            go_wp2_with fail
            refine CA.out.mono ?_
            rintro e w4 ⟨v, rfl, hdo⟩
            have HDO := Lib.hid (does_after HB3.out hdo)
            clear hdo
            go_wp2_with fail
            go_meet
            case rel => exact ⟨rfl, does_eq HDO.out HAP.out⟩
          · have hidn : (R.rs.length : Int) = (R.s.ops.length : Int) := by rw [HCM.out.len]
            have CO1 := Lib.hid (ops_any (fun _ => False) w.heap.size c R wa HM1.out (by omega))
            go_wp2_with fail
            refine CO1.out.mono ?_
            rintro e w3 ⟨vw, rfl, how, hb3⟩
            obtain ⟨wb, wk, rfl⟩ := form_of5 how
            have HM3 := Lib.hid (HM1.out.keep hb3)
            have HB3 := Lib.hid hb3
            clear hb3 how
            obtain ⟨s2, outs2, hap⟩ := pair_of5 (answerS R.s 2 (R.rs.length : Int) 0 (now + pm) (fun o => { o with version := 0, events := [] }))
            have HAP := Lib.hid (show rightS R.s r.a (now + pm) 7 = (s2, outs2) from by rw [← hap, hidn]; rfl)
            have CA := Lib.hid (take_result (fun _ => False) w.heap.size c R w3 HM3.out (by omega) 1 (by decide) (by decide) (R.rs.length : Int) 0 0 (.slice none 0 0) [] (eva_nil _ _) (by simp) (now + pm) (fun e => HINV.out.some e) s2 outs2 hap)
            clear hap hidn
            go_wp2_with fail
            refine CA.out.mono ?_
            rintro e w4 ⟨v, rfl, hdo⟩
            have HDO := Lib.hid (does_after HB3.out hdo)
            clear hdo
            go_wp2_with fail
            go_meet
            case rel => exact ⟨rfl, does_eq HDO.out HAP.out⟩
          · obtain ⟨s2, outs2, hap⟩ := pair_of5 (tickS R.s (now + pm + 5))
            have HAP := Lib.hid hap
            have ew5 : IntKind.i64.wrap (now + pm + 5) = now + pm + 5 := by rw [IntKind.wrap_i64]; omega
            have CA := Lib.hid (tick_any (fun _ => False) w.heap.size c R wa HM1.out (by omega) (now + pm + 5) (fun e => HINV.out.some e) (by have h1 := HINV.out.a0; have h2 := HINV.out.a1; unfold Vw.I64; omega) s2 outs2 hap)
            clear hap
            go_wp2_with fail
            refine CA.out.mono ?_
            rintro e w4 ⟨v, rfl, hdo⟩
            have HDO := Lib.hid hdo
            clear hdo
            go_wp2_with fail
            go_meet
            case rel => exact ⟨rfl, does_eq HDO.out (show _ = _ from by first | (rw [← HAP.out]; rfl) | (rw [rightS, HAP.out]; rfl))⟩
          · obtain ⟨s2, outs2, hap⟩ := pair_of5 (tickS R.s (now + pm + 5))
            have HAP := Lib.hid hap
            have ew5 : IntKind.i64.wrap (now + pm + 5) = now + pm + 5 := by rw [IntKind.wrap_i64]; omega
            have CA := Lib.hid (tick_any (fun _ => False) w.heap.size c R wa HM1.out (by omega) (now + pm + 5) (fun e => HINV.out.some e) (by have h1 := HINV.out.a0; have h2 := HINV.out.a1; unfold Vw.I64; omega) s2 outs2 hap)
            clear hap
            go_wp2_with fail
            refine CA.out.mono ?_
            rintro e w4 ⟨v, rfl, hdo⟩
            have HDO := Lib.hid hdo
            clear hdo
            go_wp2_with fail
            go_meet
            case rel => exact ⟨rfl, does_eq HDO.out (show _ = _ from by first | (rw [← HAP.out]; rfl) | (rw [rightS, HAP.out]; rfl))⟩
        case rest =>
          obtain ⟨rfl, R', outs, hs', hm', st', hou, hpl, hok⟩ := hcut
          have hst := right_step (HINV.out.later (show now ≤ now + pm by omega)) HINQ.out (by rw [← HCM.out.len]; omega) r.a ci hc10
          rw [← hs', ← hpl] at hst
          have hlen : R'.rs.length ≤ R.rs.length + 1 := by rw [hm'.len, HCM.out.len]; exact hst.len
          have HINV' := Lib.hid hst.inv
          have HINQ' := Lib.hid hst.q
          have HTWO := Lib.hid (fun (o : OutR) (ho : o ∈ outs) => out_two (hst.ok o.plain (List.mem_map_of_mem ho)))
          have HMSG := Lib.hid (fun (o : OutR) (ho : o ∈ outs) => out_msg (hok o ho))
          have HBW' := Lib.hid (HB1.out.trans (st'.below HM1.out))
          have hnn : nowS (now + pm) ci ≤ now + pm + 5 := by unfold nowS; split <;> omega
          obtain ⟨now', hnow'⟩ : ∃ n, nowS (now + pm) ci = n := ⟨_, rfl⟩
          rw [hnow'] at hnn HINV' ⊢
          have HM' := Lib.hid hm'
          obtain ⟨oa2, rfl, hou2⟩ := outs_get hou
          have HOU := Lib.hid hou2
          have CV := Lib.hid (view_any (fun _ => False) w.heap.size c R' wc hm')
          have hol : outs.length ≤ 2 := by
            have h1 := hst.two
            rw [List.length_map] at h1
            exact h1
          clear hs' hm' st' hou hou2 hpl hok hst hnow'
          go_wp2_with fail
          refine CV.out.mono ?_
          rintro e w5 ⟨av, vb, vbn, vbk, vd, vdn, vdk, rfl, hiv, hb5⟩
          obtain ⟨va, vk, rfl⟩ := hiv.form
          have HIV := Lib.hid hiv
          have HB5 := Lib.hid (HBW'.out.trans (hb5.mono HBW'.out.size))
          have HM5 := Lib.hid (HM'.out.keep hb5)
          have HC5 := Lib.hid hb5
          have hA5 := (Below.refl w5.heap.size w5).alloc (Nat.le_refl _) (.cells #[.int .i64 R'.s.v.epoch, .slice va R'.s.v.chain.length vk, .slice vb vbn vbk, .slice vd vdn vdk] 82)
          have HA5 := Lib.hid hA5
          have G5 := Lib.hid (heap_alloc_new w5 (.cells #[.int .i64 R'.s.v.epoch, .slice va R'.s.v.chain.length vk, .slice vb vbn vbk, .slice vd vdn vdk] 82))
          have hcl : R'.s.v.chain.length ≤ 9223372036854775807 := by obtain ⟨_, _, he, h1, h2, _⟩ := hiv; unfold maxLen at h2; omega
          clear hiv hb5 hA5
          go_wp2_with fail
          generalize w5.alloc (.cells #[.int .i64 R'.s.v.epoch, .slice va R'.s.v.chain.length vk, .slice vb vbn vbk, .slice vd vdn vdk] 82) = w6 at *
          have hz6 : w5.heap.size < w6.heap.size := (Array.getElem?_eq_some_iff.1 G5.out).1
          have HM6 := Lib.hid (HM5.out.keep HA5.out)
          have HB6 := Lib.hid (HB5.out.trans (HA5.out.mono HB5.out.size))
          have HC6 := Lib.hid (HC5.out.trans (HA5.out.mono HC5.out.size))
          have HIV6 := Lib.hid (HIV.out.keep HA5.out (Nat.le_refl _))
          clear HM5 HB5 HC5 HIV CV HA5
          generalize hq2 : w5.heap.size = q2 at *
          clear hq2
          go_loopw [12] (fun t12 wy => ∃ k2 : Nat, k2 ≤ outs.length ∧ t12 = .int .i64 k2 ∧ Below w6.heap.size w6 wy) (fun t12 _ => outs.length - (intOf t12).toNat)
          case atStart => exact ⟨0, Nat.zero_le _, rfl, Below.refl _ _⟩
          case round =>
            rename World => wy
            obtain ⟨k2, hk2, rfl, hby⟩ := hrel
            have HBY := Lib.hid hby
            clear hby
            by_cases hlt2 : k2 < outs.length
            · obtain ⟨bo, rfl, hbo, hgo⟩ := HOU.out (by omega)
              have hcy := HC6.out.trans (HBY.out.mono HC6.out.size)
              have hgy := (hcy.block bo (Array.getElem?_eq_some_iff.1 hgo).1).trans hgo
              obtain ⟨o, ho⟩ : ∃ o, outs[k2] = o := ⟨_, rfl⟩
              have hmem : o ∈ outs := by rw [← ho]; exact List.getElem_mem hlt2
              obtain ⟨e1, e2⟩ := outCells_at outs k2 hlt2
              rw [ho] at e1 e2
              have hmsg := (HMSG.out o hmem).keep hcy (Nat.le_refl _)
              have htwo := HTWO.out o hmem
              obtain ⟨mm, hmm⟩ : ∃ m, o.m.plain.msg = m := ⟨_, rfl⟩
              rw [hmm] at hmsg htwo
              obtain ⟨T, p, F, hv, hkm, hkf, hkc⟩ := Ms.hasKind hmsg
              rw [hv] at e2 hmsg
              have HMG := Lib.hid (hmsg.up hcy.size)
              have HKC := Lib.hid hkc
              have hq6 : wy.heap[q2]? = some (.cells #[.int .i64 R'.s.v.epoch, .slice va R'.s.v.chain.length vk, .slice vb vbn vbk, .slice vd vdn vdk] 82) := (HBY.out.block q2 hz6).trans G5.out
              have MKO := Lib.hid (fun (X' : World) (hb : Below wy.heap.size wy X') => (show X'.cell? ⟨bo, k2 * 2, none⟩ = some (.int .i64 o.dst) ∧ X'.cell? ⟨bo, k2 * 2 + 1, none⟩ = some (.iface T p) ∧ X'.cell? ⟨q2, 1, none⟩ = some (.slice va R'.s.v.chain.length vk) from
                ⟨by rw [Lib.cell_of_heap ((hb.block bo (Array.getElem?_eq_some_iff.1 hgy).1).trans hgy), List.getElem?_toArray]; exact e1, by rw [Lib.cell_of_heap ((hb.block bo (Array.getElem?_eq_some_iff.1 hgy).1).trans hgy), List.getElem?_toArray]; exact e2, by rw [Lib.cell_of_heap ((hb.block q2 (Array.getElem?_eq_some_iff.1 hq6).1).trans hq6)]; rfl⟩))
              obtain ⟨x1, x2, -⟩ := MKO.out wy (Below.refl _ _)
              have HIY := Lib.hid (HIV6.out.keep HBY.out (Nat.le_of_lt hz6))
              have HZY := Lib.hid (Nat.lt_of_lt_of_le hz6 HBY.out.size)
              have HMEM := Lib.hid hmem
              have i3 : (0 : Int) ≤ (k2 : Int) := by omega
              have i4 : (k2 : Int) < (outs.length : Int) := by omega
              clear hmsg hkc hv hmm hmem ho e1 e2 hq6 hgy hgo hcy hbo
              rcases htwo with ⟨hd, hk5, hr, hlm⟩ | ⟨hd, hch, hk5, hr, hlm⟩
              · have HR := Lib.hid (fun (X' : World) (hb : Below wy.heap.size wy X') => Ms.rightM_any wy.heap.size (.iface T p) mm true hr X' (HMG.out.keep hb (Nat.le_refl _)) hb.size (tabs_below HT.out ((HB6.out.trans (HBY.out.mono HB6.out.size)).trans (hb.mono (HB6.out.trans (HBY.out.mono HB6.out.size)).size))) hlm)
                have HK5 := Lib.hid (fun (X' : World) => (show Calls Tryd.prog F #[p] X' fun e w' => e = .returned (.int .i64 5) ∧ Below X'.heap.size X' w' from by have h := HKC.out X'; rw [hk5] at h; exact h))
                rw [hd] at x1
                clear hd hk5 hr hlm
                go_wp2_with fail
                refine (HK5.out _).mono ?_
                rintro e w7 ⟨rfl, hb7⟩
                have HW7 := Lib.hid hb7
                clear hb7 x1 x2
                go_wp2_with fail
                go_loopw [13, 14] (fun t13 t14 wz => ∃ j : Nat, j ≤ R'.s.v.chain.length ∧ t14 = .int .i64 j ∧ t13 = .bool true ∧ Below w7.heap.size w7 wz) (fun _ t14 _ => R'.s.v.chain.length - (intOf t14).toNat)
                case atStart => exact ⟨0, Nat.zero_le _, rfl, rfl, Below.refl _ _⟩
                case round =>
                  rename World => wz
                  obtain ⟨j, hj, rfl, rfl, hbz⟩ := hrel
                  have HBZ := Lib.hid hbz
                  clear hbz
                  by_cases hjl : j < R'.s.v.chain.length
                  · obtain ⟨x3, x4, y4⟩ := MKO.out wz (HW7.out.trans (HBZ.out.mono HW7.out.size))
                    have i5 : (0 : Int) ≤ (j : Int) := by omega
                    have i6 : (j : Int) < (R'.s.v.chain.length : Int) := by omega
                    go_wp2_with fail
                    go_quiet (fail)
                    go_wp2_with fail
                    go_roundw
                    case rel => exact ⟨j + 1, by omega, by go_num, rfl, below_drewN HBZ.out _⟩
                    case measure => simp [intOf]; omega
                  · have g3 : ¬ ((j : Int) < (R'.s.v.chain.length : Int)) := by omega
                    obtain ⟨x3, x4, y4⟩ := MKO.out wz (HW7.out.trans (HBZ.out.mono HW7.out.size))
                    go_wp2_with fail
                    refine (HR.out _ (HW7.out.trans (HBZ.out.mono HW7.out.size))).mono ?_
                    rintro e w8 ⟨rfl, hb8⟩
                    go_wp2_with fail
                    go_roundw
                    case rel => exact ⟨k2 + 1, by omega, by go_num, HBY.out.trans ((HW7.out.trans (HBZ.out.mono HW7.out.size)).trans (hb8.mono (HW7.out.trans (HBZ.out.mono HW7.out.size)).size) |>.mono HBY.out.size)⟩
                    case measure => simp [intOf]; omega
              · have HR := Lib.hid (fun (X' : World) (hb : Below wy.heap.size wy X') => Ms.rightM_any wy.heap.size (.iface T p) mm true hr X' (HMG.out.keep hb (Nat.le_refl _)) hb.size (tabs_below HT.out ((HB6.out.trans (HBY.out.mono HB6.out.size)).trans (hb.mono (HB6.out.trans (HBY.out.mono HB6.out.size)).size))) hlm)
                obtain ⟨kd, hkd⟩ : ∃ n : Int, (mm.kind : Int) = n := ⟨_, rfl⟩
                have g5 : (kd != 5) = true := by rw [← hkd, bne_iff_ne]; omega
                have HK5 := Lib.hid (fun (X' : World) => (show Calls Tryd.prog F #[p] X' fun e w' => e = .returned (.int .i64 kd) ∧ Below X'.heap.size X' w' from by have h := HKC.out X'; rw [hkd] at h; exact h))
                have HCH := Lib.hid hch
                have g0 : (o.dst == 0) = false := by rw [beq_eq_false_iff_ne]; exact hd
                clear hd hk5 hr hlm hkd hch
                go_wp2_with fail
                have HW7 := Lib.hid (Below.refl wy.heap.size wy)
                clear x1 x2
                go_loopw [13, 14] (fun t13 t14 wz => ∃ j : Nat, j ≤ R'.s.v.chain.length ∧ t14 = .int .i64 j ∧ t13 = .bool (decide (o.dst ∈ R'.s.v.chain.take j)) ∧ Below wy.heap.size wy wz) (fun _ t14 _ => R'.s.v.chain.length - (intOf t14).toNat)
                case atStart => exact ⟨0, Nat.zero_le _, rfl, by simp, Below.refl _ _⟩
                case round =>
                  rename World => wz
                  obtain ⟨j, hj, rfl, rfl, hbz⟩ := hrel
                  have HBZ := Lib.hid hbz
                  clear hbz
                  by_cases hjl : j < R'.s.v.chain.length
                  · have htk : ∀ x : Int, x ∈ R'.s.v.chain.take (j + 1) ↔ x ∈ R'.s.v.chain.take j ∨ x = R'.s.v.chain[j] := fun x => by rw [List.take_succ_eq_append_getElem hjl, List.mem_append, List.mem_singleton]
                    have HTK := Lib.hid htk
                    have i5 : (0 : Int) ≤ (j : Int) := by omega
                    have i6 : (j : Int) < (R'.s.v.chain.length : Int) := by omega
                    clear htk
                    cases hin : decide (o.dst ∈ R'.s.v.chain.take j) with
                    | true =>
                      obtain ⟨x3, x4, y4⟩ := MKO.out wz HBZ.out
                      have HIN := Lib.hid hin
                      clear hin
                      go_wp2_with fail
                      go_quiet (fail)
                      go_wp2_with fail
                      go_roundw
                      case rel => exact ⟨j + 1, by omega, by go_num, by rw [decide_eq_true ((HTK.out o.dst).2 (.inl (of_decide_eq_true HIN.out)))], below_drewN HBZ.out _⟩
                      case measure => simp [intOf]; omega
                    | false =>
                      have HIN := Lib.hid hin
                      clear hin
                      obtain ⟨cb, co, ccap, he, hcb, _, hcc⟩ := (HIY.out.keep HBZ.out (Nat.le_of_lt HZY.out)).get j hjl
                      obtain ⟨rfl, -, rfl⟩ : va = some ⟨cb, co, none⟩ ∧ R'.s.v.chain.length = R'.s.v.chain.length ∧ vk = ccap := by injection he with e1 e2 e3; exact ⟨e1, e2, e3⟩
                      clear he
                      obtain ⟨x3, x4, y4⟩ := MKO.out wz HBZ.out
                      obtain ⟨x, hx⟩ : ∃ x, R'.s.v.chain[j] = x := ⟨_, rfl⟩
                      rw [hx] at hcc
                      have HX := Lib.hid hx
                      clear hx
                      by_cases hdx : o.dst = x
                      · have HDX := Lib.hid hdx
                        rw [← hdx] at hcc
                        clear hdx
                        have MKS := Lib.hid (fun (X' : World) (hb : Below wz.heap.size wz X') => (show X'.cell? ⟨bo, k2 * 2, none⟩ = some (.int .i64 o.dst) ∧ X'.cell? ⟨bo, k2 * 2 + 1, none⟩ = some (.iface T p) ∧ X'.cell? ⟨q2, 1, none⟩ = some (.slice (some ⟨cb, co, none⟩) R'.s.v.chain.length vk) ∧ X'.cell? ⟨cb, co + j, none⟩ = some (.int .i64 o.dst) ∧ Below wz.heap.size wz X' from ⟨(MKO.out X' (HBZ.out.trans (hb.mono HBZ.out.size))).1, (MKO.out X' (HBZ.out.trans (hb.mono HBZ.out.size))).2.1, (MKO.out X' (HBZ.out.trans (hb.mono HBZ.out.size))).2.2, (hb.cell (p := ⟨cb, co + j, none⟩) (Nat.lt_of_lt_of_le hcb (Nat.le_trans (Nat.le_of_lt HZY.out) HBZ.out.size))).trans hcc, hb⟩))
                        have gdd : (o.dst == o.dst) = true := beq_self_eq_true _
                        clear hcc hcb
                        go_wp2_with fail
                        refine region_begin (S := fun X' => X'.cell? ⟨bo, k2 * 2, none⟩ = some (.int .i64 o.dst) ∧ X'.cell? ⟨bo, k2 * 2 + 1, none⟩ = some (.iface T p) ∧ X'.cell? ⟨q2, 1, none⟩ = some (.slice (some ⟨cb, co, none⟩) R'.s.v.chain.length vk) ∧ X'.cell? ⟨cb, co + j, none⟩ = some (.int .i64 o.dst) ∧ Below wz.heap.size wz X') 24 rfl (by kernel_rfl) (MKS.out _ (Below.refl wz.heap.size wz).drew) (fun hH0 => ?_)
                        refine wpAnyH_take (i := 0) (oi := ?or0) (v := ?vr0) ?hir0 (by kernel_rfl) (by kernel_rfl) (by kernel_rfl) ?hQr0 ?hyr0 hH0 ?_
                        case hir0 => simp only [List.getElem?_toArray, List.getElem?_cons_zero]; rfl
                        case hQr0 => exact fun _ _ _ h => h
                        case hyr0 => refine Or.inl ⟨by rfl, ?_⟩; intro W hSw; (try dsimp only at hSw); go_simp; try with_reducible rfl
                        simp only [Act.put, List.setIfInBounds_toArray, List.set_cons_zero, List.set_cons_succ]
                        refine wpAnyH_take (i := 1) (oi := ?or1) (v := ?vr1) ?hir1 (by kernel_rfl) (by kernel_rfl) (by kernel_rfl) ?hQr1 ?hyr1 hH0 ?_
                        case hir1 => simp only [List.getElem?_toArray, List.getElem?_cons_zero, List.getElem?_cons_succ]; rfl
                        case hQr1 => exact fun _ _ _ h => h
                        case hyr1 => refine Or.inl ⟨by rfl, ?_⟩; intro W hSw; (try dsimp only at hSw); go_simp; try with_reducible rfl
                        simp only [Act.put, List.setIfInBounds_toArray, List.set_cons_zero, List.set_cons_succ]
                        refine wpAnyH_take (i := 2) (oi := ?or2) (v := ?vr2) ?hir2 (by kernel_rfl) (by kernel_rfl) (by kernel_rfl) ?hQr2 ?hyr2 hH0 ?_
                        case hir2 => simp only [List.getElem?_toArray, List.getElem?_cons_zero, List.getElem?_cons_succ]; rfl
                        case hQr2 => exact fun _ _ _ h => h
                        case hyr2 => refine Or.inl ⟨by rfl, ?_⟩; intro W hSw; (try dsimp only at hSw); go_simp; try with_reducible rfl
                        simp only [Act.put, List.setIfInBounds_toArray, List.set_cons_zero, List.set_cons_succ]
                        refine wpAnyH_take (i := 3) (oi := ?or3) (v := ?vr3) ?hir3 (by kernel_rfl) (by kernel_rfl) (by kernel_rfl) ?hQr3 ?hyr3 hH0 ?_
                        case hir3 => simp only [List.getElem?_toArray, List.getElem?_cons_zero, List.getElem?_cons_succ]; rfl
                        case hQr3 => exact fun _ _ _ h => h
                        case hyr3 => refine Or.inl ⟨by rfl, ?_⟩; intro W hSw; (try dsimp only at hSw); go_simp; try with_reducible rfl
                        simp only [Act.put, List.setIfInBounds_toArray, List.set_cons_zero, List.set_cons_succ]
                        refine wpAnyH_take (i := 4) (oi := ?or4) (v := ?vr4) ?hir4 (by kernel_rfl) (by kernel_rfl) (by kernel_rfl) ?hQr4 ?hyr4 hH0 ?_
                        case hir4 => simp only [List.getElem?_toArray, List.getElem?_cons_zero, List.getElem?_cons_succ]; rfl
                        case hQr4 => exact fun _ _ _ h => h
                        case hyr4 => refine Or.inl ⟨by rfl, ?_⟩; intro W hSw; (try dsimp only at hSw); go_simp; try with_reducible rfl
                        simp only [Act.put, List.setIfInBounds_toArray, List.set_cons_zero, List.set_cons_succ]
                        refine wpAnyH_take (i := 5) (oi := ?or5) (v := ?vr5) ?hir5 (by kernel_rfl) (by kernel_rfl) (by kernel_rfl) ?hQr5 ?hyr5 hH0 ?_
                        case hir5 => simp only [List.getElem?_toArray, List.getElem?_cons_zero, List.getElem?_cons_succ]; rfl
                        case hQr5 => exact fun _ _ _ h => h
                        case hyr5 => refine Or.inl ⟨by rfl, ?_⟩; intro W hSw; (try dsimp only at hSw); go_simp; try with_reducible rfl
                        simp only [Act.put, List.setIfInBounds_toArray, List.set_cons_zero, List.set_cons_succ]
                        refine wpAnyH_take (i := 6) (oi := ?or6) (v := ?vr6) ?hir6 (by kernel_rfl) (by kernel_rfl) (by kernel_rfl) ?hQr6 ?hyr6 hH0 ?_
                        case hir6 => simp only [List.getElem?_toArray, List.getElem?_cons_zero, List.getElem?_cons_succ]; rfl
                        case hQr6 => exact fun _ _ _ h => h
                        case hyr6 => refine Or.inl ⟨by rfl, ?_⟩; intro W hSw; (try dsimp only at hSw); go_simp; try with_reducible rfl
                        simp only [Act.put, List.setIfInBounds_toArray, List.set_cons_zero, List.set_cons_succ]
                        refine wpAnyH_take (i := 7) (oi := ?or7) (v := ?vr7) ?hir7 (by kernel_rfl) (by kernel_rfl) (by kernel_rfl) ?hQr7 ?hyr7 hH0 ?_
                        case hir7 => simp only [List.getElem?_toArray, List.getElem?_cons_zero, List.getElem?_cons_succ]; rfl
                        case hQr7 => exact fun _ _ _ h => h
                        case hyr7 => refine Or.inl ⟨by rfl, ?_⟩; intro W hSw; (try dsimp only at hSw); go_simp; try with_reducible rfl
                        simp only [Act.put, List.setIfInBounds_toArray, List.set_cons_zero, List.set_cons_succ]
                        refine wpAnyH_take (i := 8) (oi := ?or8) (v := ?vr8) ?hir8 (by kernel_rfl) (by kernel_rfl) (by kernel_rfl) ?hQr8 ?hyr8 hH0 ?_
                        case hir8 => simp only [List.getElem?_toArray, List.getElem?_cons_zero, List.getElem?_cons_succ]; rfl
                        case hQr8 => exact fun _ _ _ h => h
                        case hyr8 => refine Or.inl ⟨by rfl, ?_⟩; intro W hSw; (try dsimp only at hSw); go_simp; try with_reducible rfl
                        simp only [Act.put, List.setIfInBounds_toArray, List.set_cons_zero, List.set_cons_succ]
                        refine wpAnyH_take (i := 9) (oi := ?or9) (v := ?vr9) ?hir9 (by kernel_rfl) (by kernel_rfl) (by kernel_rfl) ?hQr9 ?hyr9 hH0 ?_
                        case hir9 => simp only [List.getElem?_toArray, List.getElem?_cons_zero, List.getElem?_cons_succ]; rfl
                        case hQr9 => exact fun _ _ _ h => h
                        case hyr9 => refine Or.inl ⟨by rfl, ?_⟩; intro W hSw; (try dsimp only at hSw); go_simp; try with_reducible rfl
                        simp only [Act.put, List.setIfInBounds_toArray, List.set_cons_zero, List.set_cons_succ]
                        refine wpAnyH_take (i := 10) (oi := ?or10) (v := ?vr10) ?hir10 (by kernel_rfl) (by kernel_rfl) (by kernel_rfl) ?hQr10 ?hyr10 hH0 ?_
                        case hir10 => simp only [List.getElem?_toArray, List.getElem?_cons_zero, List.getElem?_cons_succ]; rfl
                        case hQr10 => exact fun _ _ _ h => h
                        case hyr10 => refine Or.inl ⟨by rfl, ?_⟩; intro W hSw; (try dsimp only at hSw); go_simp; try with_reducible rfl
                        simp only [Act.put, List.setIfInBounds_toArray, List.set_cons_zero, List.set_cons_succ]
                        refine wpAnyH_take (i := 11) (oi := ?or11) (v := ?vr11) ?hir11 (by kernel_rfl) (by kernel_rfl) (by kernel_rfl) ?hQr11 ?hyr11 hH0 ?_
                        case hir11 => simp only [List.getElem?_toArray, List.getElem?_cons_zero, List.getElem?_cons_succ]; rfl
                        case hQr11 => exact fun _ _ _ h => h
                        case hyr11 => refine Or.inl ⟨by rfl, ?_⟩; intro W hSw; (try dsimp only at hSw); go_simp; try with_reducible rfl
                        simp only [Act.put, List.setIfInBounds_toArray, List.set_cons_zero, List.set_cons_succ]
                        refine wpAnyH_take (i := 12) (oi := ?or12) (v := ?vr12) ?hir12 (by kernel_rfl) (by kernel_rfl) (by kernel_rfl) ?hQr12 ?hyr12 hH0 ?_
                        case hir12 => simp only [List.getElem?_toArray, List.getElem?_cons_zero, List.getElem?_cons_succ]; rfl
                        case hQr12 => exact fun _ _ _ h => h
                        case hyr12 => refine Or.inl ⟨by rfl, ?_⟩; intro W hSw; (try dsimp only at hSw); go_simp; try with_reducible rfl
                        simp only [Act.put, List.setIfInBounds_toArray, List.set_cons_zero, List.set_cons_succ]
                        refine wpAnyH_take (i := 13) (oi := ?or13) (v := ?vr13) ?hir13 (by kernel_rfl) (by kernel_rfl) (by kernel_rfl) ?hQr13 ?hyr13 hH0 ?_
                        case hir13 => simp only [List.getElem?_toArray, List.getElem?_cons_zero, List.getElem?_cons_succ]; rfl
                        case hQr13 => exact fun _ _ _ h => h
                        case hyr13 => refine Or.inl ⟨by rfl, ?_⟩; intro W hSw; (try dsimp only at hSw); go_simp; try with_reducible rfl
                        simp only [Act.put, List.setIfInBounds_toArray, List.set_cons_zero, List.set_cons_succ]
                        refine wpAnyH_take (i := 14) (oi := ?or14) (v := ?vr14) ?hir14 (by kernel_rfl) (by kernel_rfl) (by kernel_rfl) ?hQr14 ?hyr14 hH0 ?_
                        case hir14 => simp only [List.getElem?_toArray, List.getElem?_cons_zero, List.getElem?_cons_succ]; rfl
                        case hQr14 => exact fun _ _ _ h => h
                        case hyr14 => refine Or.inl ⟨by rfl, ?_⟩; intro W hSw; (try dsimp only at hSw); go_simp; try with_reducible rfl
                        simp only [Act.put, List.setIfInBounds_toArray, List.set_cons_zero, List.set_cons_succ]
                        refine wpAnyH_take (i := 15) (oi := ?or15) (v := ?vr15) ?hir15 (by kernel_rfl) (by kernel_rfl) (by kernel_rfl) ?hQr15 ?hyr15 hH0 ?_
                        case hir15 => simp only [List.getElem?_toArray, List.getElem?_cons_zero, List.getElem?_cons_succ]; rfl
                        case hQr15 => exact fun _ _ _ h => h
                        case hyr15 => refine Or.inl ⟨by rfl, ?_⟩; intro W hSw; (try dsimp only at hSw); go_simp; try with_reducible rfl
                        simp only [Act.put, List.setIfInBounds_toArray, List.set_cons_zero, List.set_cons_succ]
                        refine wpAnyH_take (i := 16) (oi := ?or16) (v := ?vr16) ?hir16 (by kernel_rfl) (by kernel_rfl) (by kernel_rfl) ?hQr16 ?hyr16 hH0 ?_
                        case hir16 => simp only [List.getElem?_toArray, List.getElem?_cons_zero, List.getElem?_cons_succ]; rfl
                        case hQr16 => exact fun _ _ _ h => h
                        case hyr16 => refine Or.inl ⟨by rfl, ?_⟩; intro W hSw; (try dsimp only at hSw); go_simp; try with_reducible rfl
                        simp only [Act.put, List.setIfInBounds_toArray, List.set_cons_zero, List.set_cons_succ]
                        refine wpAnyH_take (i := 17) (oi := ?or17) (v := ?vr17) ?hir17 (by kernel_rfl) (by kernel_rfl) (by kernel_rfl) ?hQr17 ?hyr17 hH0 ?_
                        case hir17 => simp only [List.getElem?_toArray, List.getElem?_cons_zero, List.getElem?_cons_succ]; rfl
                        case hQr17 => exact fun _ _ _ h => h
                        case hyr17 => refine Or.inl ⟨by rfl, ?_⟩; intro W hSw; (try dsimp only at hSw); go_simp; try with_reducible rfl
                        simp only [Act.put, List.setIfInBounds_toArray, List.set_cons_zero, List.set_cons_succ]
                        refine wpAnyH_take (i := 18) (oi := ?or18) (v := ?vr18) ?hir18 (by kernel_rfl) (by kernel_rfl) (by kernel_rfl) ?hQr18 ?hyr18 hH0 ?_
                        case hir18 => simp only [List.getElem?_toArray, List.getElem?_cons_zero, List.getElem?_cons_succ]; rfl
                        case hQr18 => exact fun _ _ _ h => h
                        case hyr18 => refine Or.inl ⟨by rfl, ?_⟩; intro W hSw; (try dsimp only at hSw); go_simp; try with_reducible rfl
                        simp only [Act.put, List.setIfInBounds_toArray, List.set_cons_zero, List.set_cons_succ]
                        clear hH0
                        have hd := (Below.refl wz.heap.size wz).drew
                        have HD := Lib.hid hd
                        clear hd
                        generalize wz.drew = wd at *
                        refine wpAnyH_ready (rs := [19]) (by kernel_rfl) (by simp) ?_
                        refine AllReadyH.cons (o := ?or19) ?hor19 (fun K' hK => ?_) AllReadyH.nil
                        case hor19 => simp only [List.getElem?_toArray, List.getElem?_cons_zero, List.getElem?_cons_succ]; rfl
                        go_simp
                        refine (HK5.out _).mono ?_
                        rintro e w7 ⟨rfl, hb7⟩
                        have HBH := Lib.hid (HD.out.trans (hb7.mono HD.out.size))
                        clear hb7
                        refine hK.out _ _ (MKS.out _ HBH.out) (fun hH1 => ?_)
                        clear hK K'
                        (try simp only [Act.put, List.setIfInBounds_toArray, List.set_cons_zero, List.set_cons_succ])
                        refine wpAnyH_take (i := 20) (oi := ?or20) (v := ?vr20) ?hir20 (by kernel_rfl) (by kernel_rfl) (by kernel_rfl) ?hQr20 ?hyr20 hH1 ?_
                        case hir20 => simp only [List.getElem?_toArray, List.getElem?_cons_zero, List.getElem?_cons_succ]; rfl
                        case hQr20 => exact fun _ _ _ h => h
                        case hyr20 => refine Or.inl ⟨by rfl, ?_⟩; intro W hSw; (try dsimp only at hSw); go_simp; try with_reducible rfl
                        simp only [Act.put, List.setIfInBounds_toArray, List.set_cons_zero, List.set_cons_succ]
                        refine wpAnyH_take (i := 21) (oi := ?or21) (v := ?vr21) ?hir21 (by kernel_rfl) (by kernel_rfl) (by kernel_rfl) ?hQr21 ?hyr21 hH1 ?_
                        case hir21 => simp only [List.getElem?_toArray, List.getElem?_cons_zero, List.getElem?_cons_succ]; rfl
                        case hQr21 => exact fun _ _ _ h => h
                        case hyr21 => refine Or.inl ⟨by rfl, ?_⟩; intro W hSw; (try dsimp only at hSw); go_simp; try with_reducible rfl
                        simp only [Act.put, List.setIfInBounds_toArray, List.set_cons_zero, List.set_cons_succ]
                        refine wpAnyH_take (i := 22) (oi := ?or22) (v := ?vr22) ?hir22 (by kernel_rfl) (by kernel_rfl) (by kernel_rfl) ?hQr22 ?hyr22 hH1 ?_
                        case hir22 => simp only [List.getElem?_toArray, List.getElem?_cons_zero, List.getElem?_cons_succ]; rfl
                        case hQr22 => exact fun _ _ _ h => h
                        case hyr22 => refine Or.inl ⟨by rfl, ?_⟩; intro W hSw; (try dsimp only at hSw); go_simp; try with_reducible rfl
                        simp only [Act.put, List.setIfInBounds_toArray, List.set_cons_zero, List.set_cons_succ]
                        refine wpAnyH_take (i := 23) (oi := ?or23) (v := ?vr23) ?hir23 (by kernel_rfl) (by kernel_rfl) (by kernel_rfl) ?hQr23 ?hyr23 hH1 ?_
                        case hir23 => simp only [List.getElem?_toArray, List.getElem?_cons_zero, List.getElem?_cons_succ]; rfl
                        case hQr23 => exact fun _ _ _ h => h
                        case hyr23 => refine Or.inl ⟨by rfl, ?_⟩; intro W hSw; (try dsimp only at hSw); go_simp; try with_reducible rfl
                        simp only [Act.put, List.setIfInBounds_toArray, List.set_cons_zero, List.set_cons_succ]
                        clear hH1
                        refine wpAnyH_done (by kernel_rfl) ?_ _
                        go_wp2_with fail
                        go_roundw
                        case rel => exact ⟨j + 1, by omega, by go_num, by rw [decide_eq_true ((HTK.out o.dst).2 (.inr (HDX.out.trans HX.out.symm)))], HBZ.out.trans (HBH.out.mono HBZ.out.size)⟩
                        case measure => simp [intOf]; omega
                      · have gdx : (o.dst == x) = false := by rw [beq_eq_false_iff_ne]; exact hdx
                        have HDX := Lib.hid hdx
                        clear hdx hcb
                        go_wp2_with fail
                        go_quiet (fail)
                        go_wp2_with fail
                        go_roundw
                        case rel => exact ⟨j + 1, by omega, by go_num, by rw [decide_eq_false (fun h => by rcases (HTK.out o.dst).1 h with h | h; exact absurd h (of_decide_eq_false HIN.out); exact HDX.out (h.trans HX.out))], below_drewN HBZ.out _⟩
                        case measure => simp [intOf]; omega
                  · have g3 : ¬ ((j : Int) < (R'.s.v.chain.length : Int)) := by omega
                    obtain ⟨x3, x4, y4⟩ := MKO.out wz (HW7.out.trans (HBZ.out.mono HW7.out.size))
                    have hall : decide (o.dst ∈ R'.s.v.chain.take j) = true := by rw [show j = R'.s.v.chain.length by omega, List.take_length]; exact decide_eq_true HCH.out
                    go_wp2_with fail
                    refine (HR.out _ (HW7.out.trans (HBZ.out.mono HW7.out.size))).mono ?_
                    rintro e w8 ⟨rfl, hb8⟩
                    go_wp2_with fail
                    go_roundw
                    case rel => exact ⟨k2 + 1, by omega, by go_num, HBY.out.trans ((HW7.out.trans (HBZ.out.mono HW7.out.size)).trans (hb8.mono (HW7.out.trans (HBZ.out.mono HW7.out.size)).size) |>.mono HBY.out.size)⟩
                    case measure => simp [intOf]; omega
            · have g2 : ¬ ((k2 : Int) < (outs.length : Int)) := by omega
              go_wp2_with fail
              go_roundw
              case rel =>
                exact ⟨k + 1, now', R', by omega, by go_num, rfl, HINV'.out, HINQ'.out, by omega, by omega, HM6.out.keep HBY.out, HB6.out.trans (HBY.out.mono HB6.out.size)⟩
              case measure => simp [intOf]; omega
      · have g : ¬ ((k : Int) < (l.length : Int)) := by omega
        go_wp2_with fail
        go_ret
        exact ⟨rfl, HBW.out⟩
end Go.Proofs.YtapgjjfndbfnpaaDoor
