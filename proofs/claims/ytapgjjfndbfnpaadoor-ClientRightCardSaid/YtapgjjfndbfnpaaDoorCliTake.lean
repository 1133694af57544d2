/-
  The walk of (*client.Client).Take. Printed by gen_clitake.py of this claim's writer.
-/
import Derived.Test.YtapgjjfndbfnpaaDoorCliAns
import Derived.Test.YtapgjjfndbfnpaaDoorCliSee
namespace Go.Proofs.YtapgjjfndbfnpaaDoor
open Go.RowKit
set_option linter.unusedSimpArgs false
set_option linter.unusedVariables false

theorem does_step {X : Nat → Prop} {lo c : Nat} {R : ClR} {w w1 w' : World} {s' : ClW} {l : List OutW} {v : Value} (hb : Below w.heap.size w w1) (h : Does X lo c R w1 s' l v w') : Does X lo c R w s' l v w' := by
  obtain ⟨R', outs, h1, h2, h3, h4, h5, h6⟩ := h
  exact ⟨R', outs, h1, h2, (step_below hb rfl).trans h3, outs_less hb.size h4, h5, h6⟩
theorem does_more {X : Nat → Prop} {lo c : Nat} {R : ClR} {w w1 w' : World} {s' : ClW} {l : List OutW} {v : Value} (h : Does X lo c R w s' l v w1) (hb : Below w1.heap.size w1 w') : Does X lo c R w s' l v w' := by
  obtain ⟨R', outs, h1, h2, h3, h4, h5, h6⟩ := h
  refine ⟨R', outs, h1, h2.keep hb, h3.trans (step_below hb rfl), ?_, h5, fun o ho => OutR.ok_keep (h6 o ho) hb⟩
  rcases h4 with h4 | ⟨b, e1, e2, e3⟩
  · exact .inl h4
  · exact .inr ⟨b, e1, e2, (hb.block b (Array.getElem?_eq_some_iff.1 e3).1).trans e3⟩

set_option maxRecDepth 100000 in
set_option maxHeartbeats 1600000 in
theorem take_see (X : Nat → Prop) (lo c : Nat) (R : ClR) (w : World) (h : ClM X lo w c R) (hm : R.rs.length ≤ 100000) (v : Value) (V : Vw.VW) (hv : Vw.IsView w.heap.size w v V) (hsm : Vw.SmallV V) (now : Int) (hn : R.s.pending = true → R.s.ops ≠ [])
    (s' : ClW) (outs : List OutW) (hs : seeS R.s V now = (s', outs)) :
    Calls Tryd.prog 13 #[.pointer (some ⟨c, 0, none⟩), .int .i64 0, .iface 27 v, .int .i64 now] w fun e w' => ∃ v, e = .returned v ∧ Does X lo c R w s' outs v w' := by
  have HV := Lib.hid hv
  obtain ⟨hep, cv, sv, bv, rfl, i1, i2, i3⟩ := hv
  obtain ⟨b1, l1, rfl⟩ := i1.form
  obtain ⟨b2, l2, rfl⟩ := i2.form
  obtain ⟨b3, l3, rfl⟩ := i3.form
  have HA := Lib.hid ((Below.refl w.heap.size w).alloc (Nat.le_refl _) (.cells #[.int .i64 V.epoch, .slice b1 V.chain.length l1, .slice b2 V.since.length l2, .slice b3 V.boot.length l3] 27))
  have CS := Lib.hid (see_any X lo c R _ (h.keep HA.out) hm _ V ((HV.out.keep HA.out (Nat.le_refl _)).up HA.out.size) hsm now hn s' outs hs)
  have hA : ∀ (W : World) (v : Value), (Instr.typeAssert (.iface 27 v) 48 27 true).run Tryd.prog W = .ok (.tuple #[v, .bool true]) W := fun W v => by kernel_rfl
  clear h i1 i2 i3 hs hn
  go_enter Tryd.func13, Tryd.ntmps13
  go_wp2_with fail
  refine CS.out.mono ?_
  rintro e w1 ⟨v, rfl, hd⟩
  have HD := Lib.hid hd
  clear hd
  go_wp2_with fail
  go_ret
  exact ⟨v, rfl, does_step HA.out HD.out⟩

set_option maxRecDepth 100000 in
set_option maxHeartbeats 1600000 in
theorem take_view (X : Nat → Prop) (lo c : Nat) (R : ClR) (w : World) (h : ClM X lo w c R) (v : Value) (V : Vw.VW) (hv : Vw.IsView w.heap.size w v V) (from_ : Int) (hf1 : 1 ≤ from_) (hf2 : from_ ≤ 100) (now : Int) :
    Calls Tryd.prog 13 #[.pointer (some ⟨c, 0, none⟩), .int .i64 from_, .iface 27 v, .int .i64 now] w fun e w' => ∃ v, e = .returned v ∧ Does X lo c R w R.s [] v w' := by
  have HH := Lib.hid h
  obtain ⟨hep, cv, sv, bv, rfl, i1, i2, i3⟩ := hv
  obtain ⟨b1, l1, rfl⟩ := i1.form
  obtain ⟨b2, l2, rfl⟩ := i2.form
  obtain ⟨b3, l3, rfl⟩ := i3.form
  clear i1 i2 i3
  have a1 : ∀ (W : World) (v : Value), (Instr.typeAssert (.iface 27 v) 48 27 true).run Tryd.prog W = .ok (.tuple #[v, .bool true]) W := fun W v => by kernel_rfl
  have a2 : ∀ (W : World) (v : Value), (Instr.typeAssert (.iface 27 v) 48 60 true).run Tryd.prog W = .ok (.tuple #[(.agg #[.int .i64 0, .int .i64 0, .int .i64 0, .int .i64 0, .int .i64 0, .int .i64 0]), .bool false]) W := fun W v => by kernel_rfl
  have a3 : ∀ (W : World) (v : Value), (Instr.typeAssert (.iface 27 v) 48 62 true).run Tryd.prog W = .ok (.tuple #[(.agg #[.int .i64 0, .int .i64 0, .int .i64 0, .slice none 0 0]), .bool false]) W := fun W v => by kernel_rfl
  have g1 : (from_ == 0) = false := by rw [beq_eq_false_iff_ne]; omega
  have g2 : ¬ from_ < 1 := by omega
  have g3 : ¬ 100 < from_ := by omega
  have g4 : ¬ from_ = 0 := by omega
  clear h
  go_enter Tryd.func13, Tryd.ntmps13
  go_wp2_with fail
  go_ret
  exact ⟨_, rfl, does_none HH.out ((((Below.refl w.heap.size w).alloc (Nat.le_refl _) _).alloc (by simp only [World.size_alloc]; omega) _).alloc (by simp only [World.size_alloc]; omega) _)⟩

set_option maxRecDepth 100000 in
set_option maxHeartbeats 1600000 in
theorem take_join (X : Nat → Prop) (lo c : Nat) (R : ClR) (w : World) (h : ClM X lo w c R) (v : Value) (from_ : Int) (hf1 : 1 ≤ from_) (hf2 : from_ ≤ 100) (now : Int) :
    Calls Tryd.prog 13 #[.pointer (some ⟨c, 0, none⟩), .int .i64 from_, .iface 78 v, .int .i64 now] w fun e w' => ∃ v, e = .returned v ∧ Does X lo c R w R.s [] v w' := by
  have HH := Lib.hid h
  have a1 : ∀ (W : World) (v : Value), (Instr.typeAssert (.iface 78 v) 48 27 true).run Tryd.prog W = .ok (.tuple #[(.agg #[.int .i64 0, .slice none 0 0, .slice none 0 0, .slice none 0 0]), .bool false]) W := fun W v => by kernel_rfl
  have a2 : ∀ (W : World) (v : Value), (Instr.typeAssert (.iface 78 v) 48 60 true).run Tryd.prog W = .ok (.tuple #[(.agg #[.int .i64 0, .int .i64 0, .int .i64 0, .int .i64 0, .int .i64 0, .int .i64 0]), .bool false]) W := fun W v => by kernel_rfl
  have a3 : ∀ (W : World) (v : Value), (Instr.typeAssert (.iface 78 v) 48 62 true).run Tryd.prog W = .ok (.tuple #[(.agg #[.int .i64 0, .int .i64 0, .int .i64 0, .slice none 0 0]), .bool false]) W := fun W v => by kernel_rfl
  have g1 : (from_ == 0) = false := by rw [beq_eq_false_iff_ne]; omega
  have g2 : ¬ from_ < 1 := by omega
  have g3 : ¬ 100 < from_ := by omega
  have g4 : ¬ from_ = 0 := by omega
  clear h
  go_enter Tryd.func13, Tryd.ntmps13
  go_wp2_with fail
  go_ret
  exact ⟨_, rfl, does_none HH.out ((((Below.refl w.heap.size w).alloc (Nat.le_refl _) _).alloc (by simp only [World.size_alloc]; omega) _).alloc (by simp only [World.size_alloc]; omega) _)⟩

set_option maxRecDepth 100000 in
set_option maxHeartbeats 1600000 in
theorem take_nil (X : Nat → Prop) (lo c : Nat) (R : ClR) (w : World) (h : ClM X lo w c R)  (from_ : Int) (hf1 : 1 ≤ from_) (hf2 : from_ ≤ 100) (now : Int) :
    Calls Tryd.prog 13 #[.pointer (some ⟨c, 0, none⟩), .int .i64 from_, .nilIface, .int .i64 now] w fun e w' => ∃ v, e = .returned v ∧ Does X lo c R w R.s [] v w' := by
  have HH := Lib.hid h
  have a1 : ∀ (W : World), (Instr.typeAssert .nilIface 48 27 true).run Tryd.prog W = .ok (.tuple #[(.agg #[.int .i64 0, .slice none 0 0, .slice none 0 0, .slice none 0 0]), .bool false]) W := fun W => by kernel_rfl
  have a2 : ∀ (W : World), (Instr.typeAssert .nilIface 48 60 true).run Tryd.prog W = .ok (.tuple #[(.agg #[.int .i64 0, .int .i64 0, .int .i64 0, .int .i64 0, .int .i64 0, .int .i64 0]), .bool false]) W := fun W => by kernel_rfl
  have a3 : ∀ (W : World), (Instr.typeAssert .nilIface 48 62 true).run Tryd.prog W = .ok (.tuple #[(.agg #[.int .i64 0, .int .i64 0, .int .i64 0, .slice none 0 0]), .bool false]) W := fun W => by kernel_rfl
  have g1 : (from_ == 0) = false := by rw [beq_eq_false_iff_ne]; omega
  have g2 : ¬ from_ < 1 := by omega
  have g3 : ¬ 100 < from_ := by omega
  have g4 : ¬ from_ = 0 := by omega
  clear h
  go_enter Tryd.func13, Tryd.ntmps13
  go_wp2_with fail
  go_ret
  exact ⟨_, rfl, does_none HH.out ((((Below.refl w.heap.size w).alloc (Nat.le_refl _) _).alloc (by simp only [World.size_alloc]; omega) _).alloc (by simp only [World.size_alloc]; omega) _)⟩

set_option maxRecDepth 100000 in
set_option maxHeartbeats 1600000 in
theorem take_far (X : Nat → Prop) (lo c : Nat) (R : ClR) (w : World) (h : ClM X lo w c R) (v : Value) (from_ : Int) (hf1 : 100 < from_) (now : Int) :
    Calls Tryd.prog 13 #[.pointer (some ⟨c, 0, none⟩), .int .i64 from_, .iface 60 v, .int .i64 now] w fun e w' => ∃ v, e = .returned v ∧ Does X lo c R w R.s [] v w' := by
  have HH := Lib.hid h
  have a1 : ∀ (W : World) (v : Value), (Instr.typeAssert (.iface 60 v) 48 27 true).run Tryd.prog W = .ok (.tuple #[(.agg #[.int .i64 0, .slice none 0 0, .slice none 0 0, .slice none 0 0]), .bool false]) W := fun W v => by kernel_rfl
  have g1 : (from_ == 0) = false := by rw [beq_eq_false_iff_ne]; omega
  have g2 : ¬ from_ < 1 := by omega
  have g3 : 100 < from_ := by omega
  have g4 : ¬ from_ = 0 := by omega
  clear h
  go_enter Tryd.func13, Tryd.ntmps13
  go_wp2_with fail
  go_ret
  exact ⟨_, rfl, does_none HH.out ((Below.refl w.heap.size w).alloc (Nat.le_refl _) _)⟩

theorem ClM.outs4 {X : Nat → Prop} {lo c g : Nat} {w : World} {R : ClR} (h : ClM X lo w c R) {l : List OpR} {r : OpR} (hr : R.rs = l ++ [r]) (hg : R.ov.ownBlock = some g) (o : OutC) :
    ClM X lo ((((w.setCell ⟨g, l.length * 17 + 9, none⟩ (.int .i64 o.code)).setCell ⟨g, l.length * 17 + 10, none⟩ (.int .i64 o.pos)).setCell ⟨g, l.length * 17 + 11, none⟩ (.int .i64 o.first)).setCell ⟨g, l.length * 17 + 12, none⟩ (.int .i64 o.version)) c (R.setLast l { r with o := { r.o with out := o } }) ∧
    Step c R (R.setLast l { r with o := { r.o with out := o } }) w ((((w.setCell ⟨g, l.length * 17 + 9, none⟩ (.int .i64 o.code)).setCell ⟨g, l.length * 17 + 10, none⟩ (.int .i64 o.pos)).setCell ⟨g, l.length * 17 + 11, none⟩ (.int .i64 o.first)).setCell ⟨g, l.length * 17 + 12, none⟩ (.int .i64 o.version)) := by
  have hm : r ∈ R.rs := by rw [hr]; simp
  obtain ⟨a1, s1⟩ := h.setOp hr g hg 9 (.int .i64 o.code) (by omega) { r with o := { r.o with out := { r.o.out with code := o.code } } } rfl (h.bev r hm) (h.evv r hm)
  have b1 := eva_k (h.bev r hm) s1
  have e1 := eva_k (h.evv r hm) s1
  obtain ⟨a2, s2⟩ := a1.setOp rfl g hg 10 (.int .i64 o.pos) (by omega) { r with o := { r.o with out := { r.o.out with code := o.code, pos := o.pos } } } rfl b1 e1
  have b2 := eva_k b1 s2
  have e2 := eva_k e1 s2
  obtain ⟨a3, s3⟩ := a2.setOp rfl g hg 11 (.int .i64 o.first) (by omega) { r with o := { r.o with out := { r.o.out with code := o.code, pos := o.pos, first := o.first } } } rfl b2 e2
  have b3 := eva_k b2 s3
  have e3 := eva_k e2 s3
  obtain ⟨a4, s4⟩ := a3.setOp rfl g hg 12 (.int .i64 o.version) (by omega) { r with o := { r.o with out := o } } rfl b3 e3
  exact ⟨a4, ((s1.trans s2).trans s3).trans s4⟩
theorem setLast_s {X : Nat → Prop} {lo c : Nat} {w : World} {R : ClR} (h : ClM X lo w c R) {l : List OpR} {r r' : OpR} (hr : R.rs = l ++ [r]) (f : OpW → OpW) (hf : r'.o = f r.o) (hp : R.s.pending = true) :
    (R.idle.setLast l r').s = Proofs.YtapgjjfndbfnpaaDoor.setLast { R.s with pending := false } f := by
  have e1 : R.s.ops = l.map (·.o) ++ [r.o] := by rw [← h.ops, hr]; simp
  have e2 : lastS { R.s with pending := false } = r.o := h.lastS hr
  unfold Proofs.YtapgjjfndbfnpaaDoor.setLast
  rw [e2, ← hf]
  show ClW.mk _ _ _ _ _ _ _ = ClW.mk _ _ _ _ _ _ _
  simp only [e1, List.dropLast_concat]
  rfl

set_option maxRecDepth 100000 in
set_option maxHeartbeats 1600000 in
theorem take_reply (X : Nat → Prop) (lo c : Nat) (R : ClR) (w : World) (h : ClM X lo w c R) (hm : R.rs.length ≤ 100000) (from_ : Int) (hf1 : 1 ≤ from_) (hf2 : from_ ≤ 100) (id err : Int) (out : OutC) (now : Int) (hn : R.s.pending = true → R.s.ops ≠ [])
    (s' : ClW) (outs : List OutW) (hs : answerS R.s 1 id err now (fun o => { o with out := out }) = (s', outs)) :
    Calls Tryd.prog 13 #[.pointer (some ⟨c, 0, none⟩), .int .i64 from_, .iface 60 (.agg #[.int .i64 id, .int .i64 err, .int .i64 out.code, .int .i64 out.pos, .int .i64 out.first, .int .i64 out.version]), .int .i64 now] w fun e w' => ∃ v, e = .returned v ∧ Does X lo c R w s' outs v w' := by
  have g1 : (from_ == 0) = false := by rw [beq_eq_false_iff_ne]; omega
  have g2 : ¬ from_ < 1 := by omega
  have g3 : ¬ 100 < from_ := by omega
  have g4 : ¬ from_ = 0 := by omega
  have a1 : ∀ (W : World) (v : Value), (Instr.typeAssert (.iface 60 v) 48 27 true).run Tryd.prog W = .ok (.tuple #[(.agg #[.int .i64 0, .slice none 0 0, .slice none 0 0, .slice none 0 0]), .bool false]) W := fun W v => by kernel_rfl
  have a2 : ∀ (W : World) (v : Value), (Instr.typeAssert (.iface 60 v) 48 60 true).run Tryd.prog W = .ok (.tuple #[v, .bool true]) W := fun W v => by kernel_rfl
  have hba := (((Below.refl w.heap.size w).alloc (Nat.le_refl _) (.cells #[.int .i64 0, .slice none 0 0, .slice none 0 0, .slice none 0 0] 27)).alloc (by simp only [World.size_alloc]; omega) (.cells #[.int .i64 id, .int .i64 err, .int .i64 out.code, .int .i64 out.pos, .int .i64 out.first, .int .i64 out.version] 60))
  have HB0 := Lib.hid hba
  have G0 := Lib.hid (heap_alloc_new (w.alloc (.cells #[.int .i64 0, .slice none 0 0, .slice none 0 0, .slice none 0 0] 27)) (.cells #[.int .i64 id, .int .i64 err, .int .i64 out.code, .int .i64 out.pos, .int .i64 out.first, .int .i64 out.version] 60))
  have HH := Lib.hid h
  have HM0 := Lib.hid (h.keep hba)
  by_cases hq : R.s.pending = false ∨ (lastS R.s).kind ≠ 1 ∨ (lastS R.s).id ≠ id
  · obtain ⟨rfl, rfl⟩ : R.s = s' ∧ [] = outs := by
      rw [answerS, if_pos hq] at hs
      exact ⟨congrArg (·.1) hs, congrArg (·.2) hs⟩
    have CA := Lib.hid (answered_none X lo c R _ (h.keep hba) hm 1 id err now hn hq)
    clear h hs hn hq hba
    go_enter Tryd.func13, Tryd.ntmps13
    go_wp2_with fail
    refine CA.out.mono ?_
    rintro e w1 ⟨rfl, hb1⟩
    have HB1 := Lib.hid (HB0.out.trans (hb1.mono HB0.out.size))
    clear hb1
    go_wp2_with fail
    go_ret
    exact ⟨_, rfl, does_none HH.out HB1.out⟩
  · have hp : R.s.pending = true := by cases e : R.s.pending; exact absurd (.inl e) hq; rfl
    obtain ⟨l, r, hlr⟩ := h.split (hn hp)
    have hls := h.lastS hlr
    have hk : r.o.kind = 1 := by rw [← hls]; exact Classical.byContradiction fun e => hq (.inr (.inl e))
    have hi : r.o.id = id := by rw [← hls]; exact Classical.byContradiction fun e => hq (.inr (.inr e))
    by_cases he : err = 0
    · subst he
      obtain ⟨rfl, rfl⟩ : Proofs.YtapgjjfndbfnpaaDoor.setLast { R.s with pending := false } (fun o => { { o with end_ := now } with out := out }) = s' ∧ [] = outs := by
        rw [answerS, if_neg hq, if_neg (by simp)] at hs
        exact ⟨congrArg (·.1) hs, congrArg (·.2) hs⟩
      obtain ⟨g, cap, hov, -⟩ := h.last hlr
      have hg : R.ov.ownBlock = some g := by rw [hov]; rfl
      have CA := Lib.hid (answered_ok X lo c R _ (h.keep hba) hm 1 id now hp l r hlr hk hi g hg)
      have HLR := Lib.hid hlr
      have HG := Lib.hid hg
      have HP := Lib.hid hp
      clear h hs hn hq hba hov hg hlr hls hk hi hp
      go_enter Tryd.func13, Tryd.ntmps13
      go_wp2_with fail
      refine CA.out.mono ?_
      rintro e w1 ⟨rfl, hm1, hs1⟩
      have hkq : ¬ R.mut c (w.heap.size + 1) := fun hu => by have := (HH.out.mutlo _ hu).2; omega
      have hqz : w.heap.size + 1 < ((w.alloc (.cells #[.int .i64 0, .slice none 0 0, .slice none 0 0, .slice none 0 0] 27)).alloc (.cells #[.int .i64 id, .int .i64 0, .int .i64 out.code, .int .i64 out.pos, .int .i64 out.first, .int .i64 out.version] 60)).heap.size := by simp only [World.size_alloc]; omega
      have hgq : w1.heap[w.heap.size + 1]? = some (.cells #[.int .i64 id, .int .i64 0, .int .i64 out.code, .int .i64 out.pos, .int .i64 out.first, .int .i64 out.version] 60) := by
        have h1 := hs1.kept.block (w.heap.size + 1) hqz hkq
        have h2 := G0.out
        rw [World.size_alloc] at h2
        exact h1.trans h2
      have y2 : w1.cell? ⟨w.heap.size + 1, 2, none⟩ = some (.int .i64 out.code) := by rw [Lib.cell_of_heap hgq]; rfl
      have y3 : w1.cell? ⟨w.heap.size + 1, 3, none⟩ = some (.int .i64 out.pos) := by rw [Lib.cell_of_heap hgq]; rfl
      have y4 : w1.cell? ⟨w.heap.size + 1, 4, none⟩ = some (.int .i64 out.first) := by rw [Lib.cell_of_heap hgq]; rfl
      have y5 : w1.cell? ⟨w.heap.size + 1, 5, none⟩ = some (.int .i64 out.version) := by rw [Lib.cell_of_heap hgq]; rfl
      have ho4 := hm1.outs4 rfl HG.out out
      obtain ⟨g2, cap2, hov2, -, -, -, hcell2, hfr2⟩ := hm1.last rfl
      obtain rfl : g2 = g := by
        have := HG.out
        rw [show R.ov = _ from hov2] at this
        exact Option.some.inj this
      have k9 : w1.cell? ⟨g2, l.length * 17 + 9, none⟩ = some (.int .i64 r.o.out.code) := hcell2 9 (by omega)
      have k10 : w1.cell? ⟨g2, l.length * 17 + 10, none⟩ = some (.int .i64 r.o.out.pos) := hcell2 10 (by omega)
      have k11 : w1.cell? ⟨g2, l.length * 17 + 11, none⟩ = some (.int .i64 r.o.out.first) := hcell2 11 (by omega)
      have k12 : w1.cell? ⟨g2, l.length * 17 + 12, none⟩ = some (.int .i64 r.o.out.version) := hcell2 12 (by omega)
      have f9 := hfr2 (l.length * 17 + 9)
      have f10 := hfr2 (l.length * 17 + 10)
      have f11 := hfr2 (l.length * 17 + 11)
      have f12 := hfr2 (l.length * 17 + 12)
      have HM2 := Lib.hid ho4.1
      have HS2 := Lib.hid (((step_below (c := c) HB0.out (rfl : R.ov = R.ov)).trans hs1).trans ho4.2)
      clear hm1 hs1 hkq hqz hgq ho4 hov2 hcell2 hfr2
      go_wp2_with fail
      go_ret
      refine ⟨_, rfl, _, [], ?_, HM2.out, HS2.out, .inl ⟨rfl, rfl⟩, rfl, fun o ho => absurd ho (by simp)⟩
      exact setLast_s HH.out HLR.out _ rfl HP.out
    · obtain ⟨rfl, rfl⟩ : { R.s with which := IntKind.i64.wrap (R.s.which + 1) } = s' ∧ [whereW R.s] = outs := by
        rw [answerS, if_neg hq, if_pos he] at hs
        exact ⟨congrArg (·.1) hs, congrArg (·.2) hs⟩
      have CA := Lib.hid (answered_err X lo c R _ (h.keep hba) hm 1 id err now hp l r hlr hk hi he)
      clear h hs hn hq hba hlr hls hk hi hp he
      go_enter Tryd.func13, Tryd.ntmps13
      go_wp2_with fail
      refine CA.out.mono ?_
      rintro e w1 ⟨v, rfl, hd⟩
      have HD := Lib.hid hd
      clear hd
      go_wp2_with fail
      go_ret
      exact ⟨v, rfl, does_step HB0.out HD.out⟩

set_option maxRecDepth 100000 in
set_option maxHeartbeats 1600000 in
theorem take_result (X : Nat → Prop) (lo c : Nat) (R : ClR) (w : World) (h : ClM X lo w c R) (hm : R.rs.length ≤ 100000) (from_ : Int) (hf1 : 1 ≤ from_) (hf2 : from_ ≤ 100) (id err version : Int) (evv : Value) (events : List EV) (hev : EvA (fun k => R.mut c k ∨ X k) w evv events) (hel : events.length ≤ 1000) (now : Int) (hn : R.s.pending = true → R.s.ops ≠ [])
    (s' : ClW) (outs : List OutW) (hs : answerS R.s 2 id err now (fun o => { o with version := version, events := events }) = (s', outs)) :
    Calls Tryd.prog 13 #[.pointer (some ⟨c, 0, none⟩), .int .i64 from_, .iface 62 (.agg #[.int .i64 id, .int .i64 err, .int .i64 version, evv]), .int .i64 now] w fun e w' => ∃ v, e = .returned v ∧ Does X lo c R w s' outs v w' := by
  have HE := Lib.hid hev
  obtain ⟨ea, ek, rfl⟩ := hev.1.form
  have g1 : (from_ == 0) = false := by rw [beq_eq_false_iff_ne]; omega
  have g2 : ¬ from_ < 1 := by omega
  have g3 : ¬ 100 < from_ := by omega
  have g4 : ¬ from_ = 0 := by omega
  have a1 : ∀ (W : World) (v : Value), (Instr.typeAssert (.iface 62 v) 48 27 true).run Tryd.prog W = .ok (.tuple #[(.agg #[.int .i64 0, .slice none 0 0, .slice none 0 0, .slice none 0 0]), .bool false]) W := fun W v => by kernel_rfl
  have a2 : ∀ (W : World) (v : Value), (Instr.typeAssert (.iface 62 v) 48 60 true).run Tryd.prog W = .ok (.tuple #[(.agg #[.int .i64 0, .int .i64 0, .int .i64 0, .int .i64 0, .int .i64 0, .int .i64 0]), .bool false]) W := fun W v => by kernel_rfl
  have a3 : ∀ (W : World) (v : Value), (Instr.typeAssert (.iface 62 v) 48 62 true).run Tryd.prog W = .ok (.tuple #[v, .bool true]) W := fun W v => by kernel_rfl
  have hba := ((((Below.refl w.heap.size w).alloc (Nat.le_refl _) (.cells #[.int .i64 0, .slice none 0 0, .slice none 0 0, .slice none 0 0] 27)).alloc (by simp only [World.size_alloc]; omega) (.cells #[.int .i64 0, .int .i64 0, .int .i64 0, .int .i64 0, .int .i64 0, .int .i64 0] 60)).alloc (by simp only [World.size_alloc]; omega) (.cells #[.int .i64 id, .int .i64 err, .int .i64 version, .slice ea events.length ek] 62))
  have HB0 := Lib.hid hba
  have G0 := Lib.hid (heap_alloc_new ((w.alloc (.cells #[.int .i64 0, .slice none 0 0, .slice none 0 0, .slice none 0 0] 27)).alloc (.cells #[.int .i64 0, .int .i64 0, .int .i64 0, .int .i64 0, .int .i64 0, .int .i64 0] 60)) (.cells #[.int .i64 id, .int .i64 err, .int .i64 version, .slice ea events.length ek] 62))
  have HH := Lib.hid h
  by_cases hq : R.s.pending = false ∨ (lastS R.s).kind ≠ 2 ∨ (lastS R.s).id ≠ id
  · obtain ⟨rfl, rfl⟩ : R.s = s' ∧ [] = outs := by
      rw [answerS, if_pos hq] at hs
      exact ⟨congrArg (·.1) hs, congrArg (·.2) hs⟩
    have CA := Lib.hid (answered_none X lo c R _ (h.keep hba) hm 2 id err now hn hq)
    clear h hs hn hq hba hev
    go_enter Tryd.func13, Tryd.ntmps13
    go_wp2_with fail
    refine CA.out.mono ?_
    rintro e w1 ⟨rfl, hb1⟩
    have HB1 := Lib.hid (HB0.out.trans (hb1.mono HB0.out.size))
    clear hb1
    go_wp2_with fail
    go_ret
    exact ⟨_, rfl, does_none HH.out HB1.out⟩
  · have hp : R.s.pending = true := by cases e : R.s.pending; exact absurd (.inl e) hq; rfl
    obtain ⟨l, r, hlr⟩ := h.split (hn hp)
    have hls := h.lastS hlr
    have hk : r.o.kind = 2 := by rw [← hls]; exact Classical.byContradiction fun e => hq (.inr (.inl e))
    have hi : r.o.id = id := by rw [← hls]; exact Classical.byContradiction fun e => hq (.inr (.inr e))
    by_cases he : err = 0
    · subst he
      obtain ⟨rfl, rfl⟩ : Proofs.YtapgjjfndbfnpaaDoor.setLast { R.s with pending := false } (fun o => { { o with end_ := now } with version := version, events := events }) = s' ∧ [] = outs := by
        rw [answerS, if_neg hq, if_neg (by simp)] at hs
        exact ⟨congrArg (·.1) hs, congrArg (·.2) hs⟩
      obtain ⟨g, cap, hov, -⟩ := h.last hlr
      have hg : R.ov.ownBlock = some g := by rw [hov]; rfl
      have CA := Lib.hid (answered_ok X lo c R _ (h.keep hba) hm 2 id now hp l r hlr hk hi g hg)
      have HLR := Lib.hid hlr
      have HG := Lib.hid hg
      have HP := Lib.hid hp
      clear h hs hn hq hba hov hg hlr hls hk hi hp hev
      go_enter Tryd.func13, Tryd.ntmps13
      go_wp2_with fail
      refine CA.out.mono ?_
      rintro e w1 ⟨rfl, hm1, hs1⟩
      have hkq : ¬ R.mut c (w.heap.size + 2) := fun hu => by have := (HH.out.mutlo _ hu).2; omega
      have hqz : w.heap.size + 2 < (((w.alloc (.cells #[.int .i64 0, .slice none 0 0, .slice none 0 0, .slice none 0 0] 27)).alloc (.cells #[.int .i64 0, .int .i64 0, .int .i64 0, .int .i64 0, .int .i64 0, .int .i64 0] 60)).alloc (.cells #[.int .i64 id, .int .i64 0, .int .i64 version, .slice ea events.length ek] 62)).heap.size := by simp only [World.size_alloc]; omega
      have hgq : w1.heap[w.heap.size + 2]? = some (.cells #[.int .i64 id, .int .i64 0, .int .i64 version, .slice ea events.length ek] 62) := by
        have h1 := hs1.kept.block (w.heap.size + 2) hqz hkq
        have h2 := G0.out
        rw [World.size_alloc, World.size_alloc] at h2
        exact h1.trans h2
      have HGQ := Lib.hid hgq
      have HM1 := Lib.hid hm1
      have HS1 := Lib.hid ((step_below (c := c) HB0.out (rfl : R.ov = R.ov)).trans hs1)
      have MKS := Lib.hid (fun (X' : World) (hg : X'.heap[w.heap.size + 2]? = some (.cells #[.int .i64 id, .int .i64 0, .int .i64 version, .slice ea events.length ek] 62)) => (show (fun X' => X'.cell? ⟨w.heap.size + 2, 2, none⟩ = some (.int .i64 version) ∧ X'.cell? ⟨w.heap.size + 2, 3, none⟩ = some (.slice ea events.length ek)) X' from ⟨by rw [Lib.cell_of_heap hg]; rfl, by rw [Lib.cell_of_heap hg]; rfl⟩))
      clear hm1 hs1 hkq hqz hgq
      go_wp2_with fail
      refine region_begin (S := fun X' => X'.cell? ⟨w.heap.size + 2, 2, none⟩ = some (.int .i64 version) ∧ X'.cell? ⟨w.heap.size + 2, 3, none⟩ = some (.slice ea events.length ek)) 13 rfl (by kernel_rfl) (MKS.out _ (show w1.drew.heap[w.heap.size + 2]? = _ from HGQ.out)) (fun hH0 => ?_)
      refine wpAnyH_take (i := 0) (oi := ?or0) (v := ?vr0) ?hir0 (by kernel_rfl) (by kernel_rfl) (by kernel_rfl) ?hQr0 ?hyr0 hH0 ?_
      case hir0 => simp only [List.getElem?_toArray, List.getElem?_cons_zero]; rfl
      case hQr0 => exact fun _ _ _ h => h
      case hyr0 => refine Or.inl ⟨by rfl, ?_⟩; intro W hSw; (try dsimp only at hSw); go_simp; try with_reducible rfl
      simp only [Act.put, List.setIfInBounds_toArray, List.set_cons_zero, List.set_cons_succ]
      refine wpAnyH_take (i := 1) (oi := ?or1) (v := ?vr1) ?hir1 (by kernel_rfl) (by kernel_rfl) (by kernel_rfl) ?hQr1 ?hyr1 hH0 ?_
      case hir1 => simp only [List.getElem?_toArray, List.getElem?_cons_zero, List.getElem?_cons_succ]; rfl
      case hQr1 => exact fun _ _ _ h => h
      case hyr1 => refine Or.inl ⟨by rfl, ?_⟩; intro W hSw; (try dsimp only at hSw); go_simp; try with_reducible rfl
      simp only [Act.put, List.setIfInBounds_toArray, List.set_cons_zero, List.set_cons_succ]
      refine wpAnyH_take (i := 2) (oi := ?or2) (v := ?vr2) ?hir2 (by kernel_rfl) (by kernel_rfl) (by kernel_rfl) ?hQr2 ?hyr2 hH0 ?_
      case hir2 => simp only [List.getElem?_toArray, List.getElem?_cons_zero, List.getElem?_cons_succ]; rfl
      case hQr2 => exact fun _ _ _ h => h
      case hyr2 => refine Or.inl ⟨by rfl, ?_⟩; intro W hSw; (try dsimp only at hSw); go_simp; try with_reducible rfl
      simp only [Act.put, List.setIfInBounds_toArray, List.set_cons_zero, List.set_cons_succ]
      refine wpAnyH_take (i := 3) (oi := ?or3) (v := ?vr3) ?hir3 (by kernel_rfl) (by kernel_rfl) (by kernel_rfl) ?hQr3 ?hyr3 hH0 ?_
      case hir3 => simp only [List.getElem?_toArray, List.getElem?_cons_zero, List.getElem?_cons_succ]; rfl
      case hQr3 => exact fun _ _ _ h => h
      case hyr3 => refine Or.inl ⟨by rfl, ?_⟩; intro W hSw; (try dsimp only at hSw); go_simp; try with_reducible rfl
      simp only [Act.put, List.setIfInBounds_toArray, List.set_cons_zero, List.set_cons_succ]
      refine wpAnyH_take (i := 4) (oi := ?or4) (v := ?vr4) ?hir4 (by kernel_rfl) (by kernel_rfl) (by kernel_rfl) ?hQr4 ?hyr4 hH0 ?_
      case hir4 => simp only [List.getElem?_toArray, List.getElem?_cons_zero, List.getElem?_cons_succ]; rfl
      case hQr4 => exact fun _ _ _ h => h
      case hyr4 => refine Or.inl ⟨by rfl, ?_⟩; intro W hSw; (try dsimp only at hSw); go_simp; try with_reducible rfl
      simp only [Act.put, List.setIfInBounds_toArray, List.set_cons_zero, List.set_cons_succ]
      refine wpAnyH_take (i := 5) (oi := ?or5) (v := ?vr5) ?hir5 (by kernel_rfl) (by kernel_rfl) (by kernel_rfl) ?hQr5 ?hyr5 hH0 ?_
      case hir5 => simp only [List.getElem?_toArray, List.getElem?_cons_zero, List.getElem?_cons_succ]; rfl
      case hQr5 => exact fun _ _ _ h => h
      case hyr5 => refine Or.inl ⟨by rfl, ?_⟩; intro W hSw; (try dsimp only at hSw); go_simp; try with_reducible rfl
      simp only [Act.put, List.setIfInBounds_toArray, List.set_cons_zero, List.set_cons_succ]
      clear hH0
      have hd1 := (Below.refl w1.heap.size w1).drew
      have HMd := Lib.hid (HM1.out.keep hd1)
      have HSd := Lib.hid (HS1.out.trans (step_below hd1 rfl))
      have HGd := Lib.hid (show w1.drew.heap[w.heap.size + 2]? = _ from HGQ.out)
      clear hd1
      generalize w1.drew = wd at *
      have CCd := Lib.hid (cloneE_any wd.heap.size _ events wd (eva_k HE.out HSd.out).1 hel)
      refine wpAnyH_ready (rs := [6]) (by kernel_rfl) (by simp) ?_
      refine AllReadyH.cons (o := ?or6) ?hor6 (fun K' hK => ?_) AllReadyH.nil
      case hor6 => simp only [List.getElem?_toArray, List.getElem?_cons_zero, List.getElem?_cons_succ]; rfl
      go_simp
      refine CCd.out.mono ?_
      rintro e w2 ⟨ev, rfl, how, hb2⟩
      obtain ⟨ba, bk, rfl⟩ : ∃ ba bk, ev = .slice ba events.length bk := by
        rcases how.2 with ⟨rfl, h0⟩ | ⟨g, cap, cur, rfl, _⟩
        · exact ⟨none, 0, by rw [h0]⟩
        · exact ⟨_, cap, rfl⟩
      have hm2 := HMd.out.keep hb2
      have HS2 := Lib.hid (HSd.out.trans (step_below hb2 rfl))
      have HG2 := Lib.hid ((hb2.block _ (Array.getElem?_eq_some_iff.1 HGd.out).1).trans HGd.out)
      have hev2 : EvA (fun k => (R.idle.setLast l (r.ended now)).mut c k ∨ X k) w2 (.slice ba events.length bk) events :=
        ⟨events_own how (by unfold maxLen; omega), fun _ k hk hu => by
          have h1 := (own_lt how k hk).1
          rcases hu with hu | hu
          · have := (HMd.out.mutlo k hu).2; omega
          · have := HMd.out.xlt k hu; omega⟩
      obtain ⟨g2, cap2, hov2, -, -, -, hcell2, hfr2⟩ := hm2.last rfl
      obtain rfl : g2 = g := by
        have := HG.out
        rw [show R.ov = _ from hov2] at this
        exact Option.some.inj this
      have k15 : w2.cell? ⟨g2, l.length * 17 + 15, none⟩ = some (.int .i64 r.o.version) := hcell2 15 (by omega)
      have k16 : w2.cell? ⟨g2, l.length * 17 + 16, none⟩ = some r.evv := hcell2 16 (by omega)
      have f15 := hfr2 (l.length * 17 + 15)
      have f16 := hfr2 (l.length * 17 + 16)
      have hmem : ∀ (y : OpR), y ∈ l ++ [y] := fun y => List.mem_append_right _ (List.mem_singleton.2 rfl)
      have hne : w.heap.size + 2 ≠ g2 := fun e => by have := (HH.out.mutlo g2 (.inr HG.out)).2; omega
      have hs3 := hm2.setOp rfl g2 HG.out 15 (.int .i64 version) (by omega) { (r.ended now) with o := { (r.ended now).o with version := version } } rfl (hm2.bev (r.ended now) (hmem _)) (hm2.evv (r.ended now) (hmem _))
      have hg3 : (w2.setCell ⟨g2, l.length * 17 + 15, none⟩ (.int .i64 version)).heap[w.heap.size + 2]? = _ := (Below.heap_setCell _ _ _ _ hne).trans HG2.out
      have hs4 := hs3.1.setOp rfl g2 HG.out 16 (.slice ba events.length bk) (by omega) ⟨{ (r.ended now).o with version := version, events := events }, r.bev, .slice ba events.length bk⟩ rfl (eva_k (hm2.bev (r.ended now) (hmem _)) hs3.2) (eva_k hev2 hs3.2)
      have hg4 : ((w2.setCell ⟨g2, l.length * 17 + 15, none⟩ (.int .i64 version)).setCell ⟨g2, l.length * 17 + 16, none⟩ (.slice ba events.length bk)).heap[w.heap.size + 2]? = _ := (Below.heap_setCell _ _ _ _ hne).trans hg3
      have HM4 := Lib.hid hs4.1
      have HS4 := Lib.hid ((HS2.out.trans hs3.2).trans hs4.2)
      have HG3 := Lib.hid hg3
      have HG4 := Lib.hid hg4
      clear how hb2 hm2 hev2 hov2 hcell2 hfr2 hmem hne hs3 hs4 hg3 hg4
      refine hK.out _ _ (MKS.out _ HG2.out) (fun hH1 => ?_)
      clear hK K'
      (try simp only [Act.put, List.setIfInBounds_toArray, List.set_cons_zero, List.set_cons_succ])
      refine wpAnyH_take (i := 7) (oi := ?or7) (v := ?vr7) ?hir7 (by kernel_rfl) (by kernel_rfl) (by kernel_rfl) ?hQr7 ?hyr7 hH1 ?_
      case hir7 => simp only [List.getElem?_toArray, List.getElem?_cons_zero, List.getElem?_cons_succ]; rfl
      case hQr7 => exact fun _ _ _ h => h
      case hyr7 => refine Or.inl ⟨by rfl, ?_⟩; intro W hSw; (try dsimp only at hSw); go_simp; try with_reducible rfl
      simp only [Act.put, List.setIfInBounds_toArray, List.set_cons_zero, List.set_cons_succ]
      refine wpAnyH_take (i := 8) (oi := ?or8) (v := ?vr8) ?hir8 (by kernel_rfl) (by kernel_rfl) (by kernel_rfl) ?hQr8 ?hyr8 hH1 ?_
      case hir8 => simp only [List.getElem?_toArray, List.getElem?_cons_zero, List.getElem?_cons_succ]; rfl
      case hQr8 => exact fun _ _ _ h => h
      case hyr8 => refine Or.inl ⟨by rfl, ?_⟩; intro W hSw; (try dsimp only at hSw); go_simp; try with_reducible rfl
      simp only [Act.put, List.setIfInBounds_toArray, List.set_cons_zero, List.set_cons_succ]
      clear hH1
      refine wpAnyH_ready (rs := [9]) (by kernel_rfl) (by simp) ?_
      refine AllReadyH.cons (o := ?or9) ?hor9 (fun K' hK => ?_) AllReadyH.nil
      case hor9 => simp only [List.getElem?_toArray, List.getElem?_cons_zero, List.getElem?_cons_succ]; rfl
      go_simp
      refine hK.out _ _ (MKS.out _ HG3.out) (fun hH2 => ?_)
      clear hK K'
      (try simp only [Act.put, List.setIfInBounds_toArray, List.set_cons_zero, List.set_cons_succ])
      refine wpAnyH_take (i := 10) (oi := ?or10) (v := ?vr10) ?hir10 (by kernel_rfl) (by kernel_rfl) (by kernel_rfl) ?hQr10 ?hyr10 hH2 ?_
      case hir10 => simp only [List.getElem?_toArray, List.getElem?_cons_zero, List.getElem?_cons_succ]; rfl
      case hQr10 => exact fun _ _ _ h => h
      case hyr10 => refine Or.inl ⟨by rfl, ?_⟩; intro W hSw; (try dsimp only at hSw); go_simp; try with_reducible rfl
      simp only [Act.put, List.setIfInBounds_toArray, List.set_cons_zero, List.set_cons_succ]
      refine wpAnyH_take (i := 11) (oi := ?or11) (v := ?vr11) ?hir11 (by kernel_rfl) (by kernel_rfl) (by kernel_rfl) ?hQr11 ?hyr11 hH2 ?_
      case hir11 => simp only [List.getElem?_toArray, List.getElem?_cons_zero, List.getElem?_cons_succ]; rfl
      case hQr11 => exact fun _ _ _ h => h
      case hyr11 => refine Or.inl ⟨by rfl, ?_⟩; intro W hSw; (try dsimp only at hSw); go_simp; try with_reducible rfl
      simp only [Act.put, List.setIfInBounds_toArray, List.set_cons_zero, List.set_cons_succ]
      clear hH2
      refine wpAnyH_ready (rs := [12]) (by kernel_rfl) (by simp) ?_
      refine AllReadyH.cons (o := ?or12) ?hor12 (fun K' hK => ?_) AllReadyH.nil
      case hor12 => simp only [List.getElem?_toArray, List.getElem?_cons_zero, List.getElem?_cons_succ]; rfl
      go_simp
      refine hK.out _ _ (MKS.out _ HG4.out) (fun hH3 => ?_)
      clear hK K'
      (try simp only [Act.put, List.setIfInBounds_toArray, List.set_cons_zero, List.set_cons_succ])
      clear hH3
      refine wpAnyH_done (by kernel_rfl) ?_ _
      go_wp2_with fail
      go_ret
      refine ⟨_, rfl, _, [], ?_, HM4.out, HS4.out, .inl ⟨rfl, rfl⟩, rfl, fun o ho => absurd ho (by simp)⟩
      exact setLast_s HH.out HLR.out _ rfl HP.out
    · obtain ⟨rfl, rfl⟩ : { R.s with which := IntKind.i64.wrap (R.s.which + 1) } = s' ∧ [whereW R.s] = outs := by
        rw [answerS, if_neg hq, if_pos he] at hs
        exact ⟨congrArg (·.1) hs, congrArg (·.2) hs⟩
      have CA := Lib.hid (answered_err X lo c R _ (h.keep hba) hm 2 id err now hp l r hlr hk hi he)
      clear h hs hn hq hba hlr hls hk hi hp he hev
      go_enter Tryd.func13, Tryd.ntmps13
      go_wp2_with fail
      refine CA.out.mono ?_
      rintro e w1 ⟨v, rfl, hd⟩
      have HD := Lib.hid hd
      clear hd
      go_wp2_with fail
      go_ret
      exact ⟨v, rfl, does_step HB0.out HD.out⟩
end Go.Proofs.YtapgjjfndbfnpaaDoor
