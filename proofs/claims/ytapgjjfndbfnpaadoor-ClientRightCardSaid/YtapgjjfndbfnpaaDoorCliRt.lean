/-
  The plain law under ClientRight: all that a client tells is right, and goes to the master, or to a node of its view.
-/
import Derived.Test.YtapgjjfndbfnpaaDoorCliOnce
import Derived.Test.YtapgjjfndbfnpaaDoorRtTwo
namespace Go.Proofs.YtapgjjfndbfnpaaDoor
open Go.RowKit
set_option linter.unusedVariables false

def InvQ (s : ClW) : Prop := ∀ o ∈ s.ops, (o.kind = 1 ∧ fitsB o.b = 0) ∨ (o.kind ≠ 1 ∧ nameB o.stream = true ∧ 0 ≤ o.from_ ∧ o.from_ ≤ 137438953472)
def idOk (n : Int) : Prop := 0 ≤ n ∧ n ≤ 274877906944
def OutOk (s : ClW) (o : OutW) : Prop :=
  (o.dst = 0 ∧ ∃ id, o.m = .whr id ∧ idOk id) ∨
  (1 ≤ o.dst ∧ o.dst ∈ s.v.chain ∧ ((∃ id b, o.m = .app id b ∧ idOk id ∧ fitsB b = 0) ∨ ∃ id st f, o.m = .red id st f ∧ idOk id ∧ nameB st = true ∧ 0 ≤ f ∧ f ≤ 137438953472))
structure StepQ (s s' : ClW) (l : List OutW) (now : Int) : Prop where
  inv : InvO s' now
  q : InvQ s'
  len : s'.ops.length ≤ s.ops.length + 1
  two : l.length ≤ 2
  ok : ∀ o ∈ l, OutOk s' o
theorem last_mem {s : ClW} (hn : s.ops ≠ []) : lastS s ∈ s.ops ∧ s.ops[s.ops.length - 1]? = some (lastS s) := by
  have h1 : s.ops.getLast? = some (s.ops.getLast hn) := List.getLast?_eq_some_getLast hn
  have h2 : lastS s = s.ops.getLast hn := by rw [lastS, h1]; rfl
  rw [h2]
  exact ⟨List.getLast_mem hn, by rw [← List.getLast?_eq_getElem?]; exact h1⟩
theorem last_id {s : ClW} {now : Int} (h : InvO s now) (hn : s.ops ≠ []) (hl : s.ops.length ≤ 1000) : idOk (lastS s).id := by
  have h1 := (h.ops _ _ (last_mem hn).2).id
  unfold idOk
  omega
theorem where_ok {s : ClW} {now : Int} (h : InvO s now) (hn : s.ops ≠ []) (hl : s.ops.length ≤ 1000) : OutOk s (whereW s) := .inl ⟨rfl, _, rfl, last_id h hn hl⟩
theorem chain_ok {s : ClW} (hr : Vw.rightB s.v = true) (i : Nat) (hi : i < s.v.chain.length) : 1 ≤ s.v.chain.getD i 0 ∧ s.v.chain.getD i 0 ∈ s.v.chain := by
  have h1 := ((Vw.rightB_iff _).1 hr).ok i hi
  exact ⟨h1.1, by rw [List.getD_eq_getElem?_getD, List.getElem?_eq_getElem hi]; exact List.getElem_mem hi⟩
theorem ask_ok {s : ClW} {now : Int} (h : InvO s now) (q : InvQ s) (hn : s.ops ≠ []) (hl : s.ops.length ≤ 1000) : OutOk s (askW s) := by
  have hi := last_id h hn hl
  unfold askW
  by_cases hr : Vw.rightB s.v = true
  · have hp := ((Vw.rightB_iff _).1 hr).n1
    rw [if_neg (by rw [hr]; decide)]
    rcases q _ (last_mem hn).1 with ⟨k1, k2⟩ | ⟨k1, k2, k3, k4⟩
    · rw [if_pos k1]
      obtain ⟨c1, c2⟩ := chain_ok hr 0 (by omega)
      exact .inr ⟨c1, c2, .inl ⟨_, _, rfl, hi, k2⟩⟩
    · rw [if_neg k1]
      obtain ⟨c1, c2⟩ := chain_ok hr (pickT s.which s.v.chain.length) (Nat.mod_lt _ (by omega))
      exact .inr ⟨c1, c2, .inr ⟨_, _, _, rfl, hi, k2, k3, k4⟩⟩
  · have hr' : Vw.rightB s.v = false := by cases e : Vw.rightB s.v; rfl; exact absurd e hr
    rw [if_pos hr']
    exact .inl ⟨rfl, _, rfl, hi⟩
theorem invq_of {s s' : ClW} (q : InvQ s) (h : s'.ops = s.ops) : InvQ s' := by unfold InvQ; rw [h]; exact q
theorem step_none {s : ClW} {now : Int} (h : InvO s now) (q : InvQ s) : StepQ s s [] now := ⟨h, q, Nat.le_succ _, by simp, fun o ho => absurd ho (by simp)⟩
theorem step_begin {s s0 : ClW} {now : Int} (h : InvO s now) (q : InvQ s) (hs : s.ops = s0.ops) (hl : s.ops.length ≤ 900) (o : OpW) (hk : o.kind = 1 → o.b.seq = (s.ops.length : Int) + 1 ∧ o.b.session = 9)
    (hq : (o.kind = 1 ∧ fitsB o.b = 0) ∨ (o.kind ≠ 1 ∧ nameB o.stream = true ∧ 0 ≤ o.from_ ∧ o.from_ ≤ 137438953472)) : StepQ s0 (beginS s o now) [askW (beginS s o now)] now := by
  have hi := (inv_begin h o hk).1
  have hlen : (beginS s o now).ops.length = s.ops.length + 1 := by simp [beginS]
  have hqq : InvQ (beginS s o now) := by
    intro p hp
    rcases List.mem_append.1 (show p ∈ s.ops ++ [_] from hp) with hp | hp
    · exact q p hp
    · obtain rfl := List.mem_singleton.1 hp
      exact hq
  refine ⟨hi, hqq, by rw [hlen, hs]; exact Nat.le_refl _, by simp, fun p hp => ?_⟩
  obtain rfl := List.mem_singleton.1 hp
  exact ask_ok hi hqq (by intro e; rw [e] at hlen; simp at hlen) (by rw [hlen]; omega)
theorem append_q {s : ClW} {now : Int} (h : InvO s now) (q : InvQ s) (hl : s.ops.length ≤ 900) (st : ByteArray) (ex : Int) (ev : List EV) : StepQ s (appendS s st ex ev now).1 (appendS s st ex ev now).2.1 now := by
  unfold appendS
  split
  · exact step_none h q
  · split
    · exact step_none h q
    · rename_i h2
      exact step_begin h q rfl hl _ (fun _ => ⟨rfl, h.ses⟩) (.inl ⟨rfl, Classical.byContradiction fun e => h2 e⟩)
theorem read_q {s : ClW} {now : Int} (h : InvO s now) (q : InvQ s) (hl : s.ops.length ≤ 900) (st : ByteArray) (fr n : Int) : StepQ s (readS s st fr n now).1 (readS s st fr n now).2.1 now := by
  unfold readS
  split
  · exact step_none h q
  · split
    · exact step_none h q
    · rename_i h2
      have h1 : InvO { s with which := n } now := h.of rfl (fun e => e) rfl rfl h.a0 h.a1
      refine step_begin (s0 := s) h1 (invq_of q rfl) rfl hl { zeroOp with kind := 2, stream := st, from_ := fr } (fun e => absurd (show (2 : Int) = 1 from e) (by decide)) (.inr ⟨show (2 : Int) ≠ 1 by decide, ?_⟩)
      have h3 : readNo st fr = false := by cases e : readNo st fr; rfl; exact absurd e h2
      simp only [readNo, Bool.or_eq_false_iff, Bool.not_eq_false', decide_eq_false_iff_not] at h3
      exact ⟨h3.1.1, by show 0 ≤ fr; omega, by show fr ≤ 137438953472; omega⟩
theorem see_q {s : ClW} {now : Int} (h : InvO s now) (q : InvQ s) (hl : s.ops.length ≤ 900) (m : Vw.VW) : StepQ s (seeS s m now).1 (seeS s m now).2 now := by
  unfold seeS
  split
  · exact step_none h q
  · split
    · exact ⟨h.of rfl (fun e => e) rfl rfl h.a0 h.a1, invq_of q rfl, Nat.le_succ _, by simp, fun o ho => absurd ho (by simp)⟩
    · rename_i h2
      have hp : s.pending = true := by cases e : s.pending; exact absurd e h2; rfl
      have h1 : InvO { s with v := m, asked := now } now := h.of rfl (fun e => e) rfl rfl h.n0 (Int.le_refl _)
      refine ⟨h1, invq_of q rfl, Nat.le_succ _, by simp, fun o ho => ?_⟩
      obtain rfl := List.mem_singleton.1 ho
      exact ask_ok h1 (invq_of q rfl) (h.some hp) (by show s.ops.length ≤ 1000; omega)
theorem answer_q {s : ClW} {now : Int} (h : InvO s now) (q : InvQ s) (hl : s.ops.length ≤ 900) (kind id err : Int) (f : OpW → OpW) (hf : ∀ o, (f o).id = o.id ∧ (f o).start = o.start ∧ (f o).end_ = o.end_ ∧ (f o).kind = o.kind ∧ (f o).b = o.b) (hg : ∀ o, (f o).stream = o.stream ∧ (f o).from_ = o.from_) :
    StepQ s (answerS s kind id err now f).1 (answerS s kind id err now f).2 now := by
  have hz := (inv_answer h kind id f hf).1
  unfold answerS at hz ⊢
  by_cases hq : s.pending = false ∨ (lastS s).kind ≠ kind ∨ (lastS s).id ≠ id
  · rw [if_pos hq]
    exact step_none h q
  · rw [if_neg hq] at hz ⊢
    have hp : s.pending = true := by cases e : s.pending; exact absurd (.inl e) hq; rfl
    have hn := h.some hp
    by_cases he : err ≠ 0
    · rw [if_pos he]
      refine ⟨h.of rfl (fun e => e) rfl rfl h.a0 h.a1, invq_of q rfl, Nat.le_succ _, by simp, fun o ho => ?_⟩
      obtain rfl := List.mem_singleton.1 ho
      exact .inl ⟨rfl, _, rfl, last_id h hn (by omega)⟩
    · rw [if_neg he]
      rw [if_neg (by decide)] at hz
      refine ⟨hz, fun o ho => ?_, ?_, by simp, fun o ho => absurd ho (by simp)⟩
      · rcases List.mem_append.1 (show o ∈ s.ops.dropLast ++ [f { lastS { s with pending := false } with end_ := now }] from ho) with ho | ho
        · exact q o (List.dropLast_subset _ ho)
        · obtain rfl := List.mem_singleton.1 ho
          have hb := q _ (last_mem hn).1
          obtain ⟨f1, f2, f3, f4, f5⟩ := hf { lastS { s with pending := false } with end_ := now }
          obtain ⟨g1, g2⟩ := hg { lastS { s with pending := false } with end_ := now }
          rw [f4, f5, g1, g2]
          exact hb
      · show (s.ops.dropLast ++ [_]).length ≤ _
        rw [List.length_append, List.length_dropLast, List.length_singleton]
        omega
theorem tick_q {s : ClW} {now : Int} (h : InvO s now) (q : InvQ s) (hl : s.ops.length ≤ 900) : StepQ s (tickS s now).1 (tickS s now).2 now := by
  unfold tickS
  by_cases hq : s.pending = false ∨ now - s.asked < s.wait
  · rw [if_pos hq]
    exact step_none h q
  · rw [if_neg hq]
    have hp : s.pending = true := by cases e : s.pending; exact absurd (.inl e) hq; rfl
    have hn := h.some hp
    have h1 : InvO { s with asked := now } now := h.of rfl (fun e => e) rfl rfl h.n0 (Int.le_refl _)
    have ha : OutOk { s with asked := now } (askW s) := by rw [← askW_asked s now]; exact ask_ok h1 (invq_of q rfl) hn (by show s.ops.length ≤ 1000; omega)
    split
    · refine ⟨h1, invq_of q rfl, Nat.le_succ _, by simp, fun o ho => ?_⟩
      obtain rfl := List.mem_singleton.1 ho
      exact ha
    · refine ⟨h1, invq_of q rfl, Nat.le_succ _, by simp, fun o ho => ?_⟩
      simp only [List.mem_cons, List.not_mem_nil, or_false] at ho
      rcases ho with rfl | rfl
      · exact .inl ⟨rfl, _, rfl, last_id h hn (by omega)⟩
      · exact ha

/-- One act: the client behind it, what it tells. -/
noncomputable def rightS (s : ClW) (a : AcW) (now ci : Int) : ClW × List OutW :=
  if ci = 0 ∨ ci = 1 ∨ ci = 2 then ((appendS s a.b.stream a.b.expect a.b.events now).1, (appendS s a.b.stream a.b.expect a.b.events now).2.1)
  else if ci = 3 ∨ ci = 4 then ((readS s a.stream a.from_ a.n now).1, (readS s a.stream a.from_ a.n now).2.1)
  else if ci = 5 then seeS s a.v now
  else if ci = 6 then answerS s 1 (s.ops.length : Int) 9 now (fun o => { o with out := ⟨0, 0, 0, 0⟩ })
  else if ci = 7 then answerS s 2 (s.ops.length : Int) 0 now (fun o => { o with version := 0, events := [] })
  else tickS s (now + 5)
def nowS (now ci : Int) : Int := if ci = 8 ∨ ci = 9 then now + 5 else now
theorem right_step {s : ClW} {now : Int} (h : InvO s now) (q : InvQ s) (hl : s.ops.length ≤ 900) (a : AcW) (ci : Int) (hc : ci = 0 ∨ ci = 1 ∨ ci = 2 ∨ ci = 3 ∨ ci = 4 ∨ ci = 5 ∨ ci = 6 ∨ ci = 7 ∨ ci = 8 ∨ ci = 9) :
    StepQ s (rightS s a now ci).1 (rightS s a now ci).2 (nowS now ci) := by
  have ht : StepQ s (tickS s (now + 5)).1 (tickS s (now + 5)).2 (now + 5) := tick_q (h.later (by omega)) q hl
  rcases hc with rfl | rfl | rfl | rfl | rfl | rfl | rfl | rfl | rfl | rfl
  · exact append_q h q hl _ _ _
  · exact append_q h q hl _ _ _
  · exact append_q h q hl _ _ _
  · exact read_q h q hl _ _ _
  · exact read_q h q hl _ _ _
  · exact see_q h q hl _
  · exact answer_q h q hl 1 (s.ops.length : Int) 9 (fun o => { o with out := ⟨0, 0, 0, 0⟩ }) (fun o => ⟨rfl, rfl, rfl, rfl, rfl⟩) (fun o => ⟨rfl, rfl⟩)
  · exact answer_q h q hl 2 (s.ops.length : Int) 0 (fun o => { o with version := 0, events := [] }) (fun o => ⟨rfl, rfl, rfl, rfl, rfl⟩) (fun o => ⟨rfl, rfl⟩)
  · exact ht
  · exact ht

/-! ### what is told, in memory -/
def MsgW.msg : MsgW → Ms.Msg
  | .whr id => .whr id
  | .app id b => .app id b
  | .red id s f => .red id s f
theorem out_msg {S : Nat → Prop} {w : World} {o : OutR} (h : o.ok S w) : Ms.IsMsg w.heap.size w o.m.val o.m.plain.msg := by
  obtain ⟨d, m⟩ := o
  cases m with
  | whr id => rfl
  | app id b bev => exact ⟨bev, rfl, (show EvA S w bev b.events from h).1⟩
  | red id s f => rfl
theorem numM_ok {n : Int} (h : idOk n) : Ms.numM n = true := by
  obtain ⟨h1, h2⟩ := h
  simp [Ms.numM, h1, h2]
theorem right_whr {id : Int} (h : idOk id) : Ms.rightM (.whr id) = true := by simp [Ms.rightM, Ms.Msg.nums, Ms.Msg.restOk, numM_ok h]
theorem right_app {id : Int} {b : BW} (h : idOk id) (hb : fitsB b = 0) : Ms.rightM (.app id b) = true := by simp [Ms.rightM, Ms.Msg.nums, Ms.Msg.restOk, numM_ok h, hb]
theorem right_red {id f : Int} {s : ByteArray} (h : idOk id) (hs : nameB s = true) (hf : idOk f) : Ms.rightM (.red id s f) = true := by simp [Ms.rightM, Ms.Msg.nums, Ms.Msg.restOk, numM_ok h, hs, numM_ok hf]
/-- What the law asks of one that is told. -/
theorem out_two {s : ClW} {o : OutR} (h : OutOk s o.plain) : (o.dst = 0 ∧ o.m.plain.msg.kind = 5 ∧ Ms.rightM o.m.plain.msg = true ∧ Ms.LightM o.m.plain.msg) ∨ (o.dst ≠ 0 ∧ o.dst ∈ s.v.chain ∧ (o.m.plain.msg.kind = 11 ∨ o.m.plain.msg.kind = 12) ∧ Ms.rightM o.m.plain.msg = true ∧ Ms.LightM o.m.plain.msg) := by
  rcases h with ⟨h1, id, h2, h3⟩ | ⟨h0, h1, h2⟩
  · have h2' : o.m.plain = .whr id := h2
    rw [h2']
    exact .inl ⟨h1, rfl, right_whr h3, trivial⟩
  · have hne : o.dst ≠ 0 := by have : 1 ≤ o.dst := h0; omega
    rcases h2 with ⟨id, b, h2, h3, h4⟩ | ⟨id, st, f, h2, h3, h4, h5, h6⟩
    · have h2' : o.m.plain = .app id b := h2
      rw [h2']
      exact .inr ⟨hne, h1, .inl rfl, right_app h3 h4, trivial⟩
    · have h2' : o.m.plain = .red id st f := h2
      rw [h2']
      have := Ms.nameB_size h4
      exact .inr ⟨hne, h1, .inr rfl, right_red h3 h4 ⟨h5, by omega⟩, by show st.size ≤ 1000000; omega⟩
theorem outs_get {B : Nat} {w : World} {v : Value} {l : List OutR} (h : OutsAt B w v l) : ∃ a, v = .slice a l.length l.length ∧ (0 < l.length → ∃ b, a = some ⟨b, 0, none⟩ ∧ B ≤ b ∧ w.heap[b]? = some (.cells (outCells l).toArray 50)) := by
  rcases h with ⟨rfl, rfl⟩ | ⟨b, rfl, h1, h2⟩
  · exact ⟨none, rfl, fun h => absurd h (by simp)⟩
  · exact ⟨_, rfl, fun _ => ⟨b, rfl, h1, h2⟩⟩
theorem outCells_at : ∀ (l : List OutR) (i : Nat) (h : i < l.length), (outCells l)[i * 2]? = some (.int .i64 l[i].dst) ∧ (outCells l)[i * 2 + 1]? = some l[i].m.val
  | o :: l, 0, _ => ⟨rfl, rfl⟩
  | o :: l, i + 1, h => by
    have h1 := outCells_at l i (by simpa using h)
    have e : outCells (o :: l) = .int .i64 o.dst :: o.m.val :: outCells l := rfl
    rw [e, show (i + 1) * 2 = i * 2 + 1 + 1 by omega]
    exact h1
theorem inv_newQ : InvQ (newR 9 5).s := fun o ho => absurd ho (by simp [newR])
end Go.Proofs.YtapgjjfndbfnpaaDoor
