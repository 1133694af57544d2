/-
  The plain law under ClientOnce: what holds of all ops after any acts.
-/
import Derived.Test.YtapgjjfndbfnpaaDoorCliPlain
import Derived.Test.YtapgjjfndbfnpaaDoorCliOpen
namespace Go.Proofs.YtapgjjfndbfnpaaDoor
open Go.RowKit
set_option linter.unusedVariables false

structure OkOp (now : Int) (j : Nat) (o : OpW) : Prop where
  id : o.id = (j : Int) + 1
  en : o.end_ = -1 ∨ o.start ≤ o.end_
  s0 : 0 ≤ o.start
  s1 : o.start ≤ now
  e1 : o.end_ ≤ now
  kd : o.kind = 1 → o.b.seq = o.id ∧ o.b.session = 9
structure InvO (s : ClW) (now : Int) : Prop where
  ops : ∀ j o, s.ops[j]? = some o → OkOp now j o
  pair : ∀ j o p, s.ops[j]? = some o → s.ops[j + 1]? = some p → o.start ≤ p.start ∧ o.end_ ≤ p.start
  pend : s.pending = true → ∃ l r, s.ops = l ++ [r] ∧ r.end_ = -1
  ses : s.session = 9
  wt : s.wait = 5
  a0 : 0 ≤ s.asked
  a1 : s.asked ≤ now
  n0 : 0 ≤ now
/-- What one step leaves of the ops. -/
structure RelO (s s' : ClW) : Prop where
  len : s'.ops.length = s.ops.length ∨ s'.ops.length = s.ops.length + 1
  same : ∀ j o p, j + 1 < s.ops.length → s.ops[j]? = some o → s'.ops[j]? = some p → p.end_ = o.end_
theorem RelO.refl (s : ClW) : RelO s s := ⟨.inl rfl, fun j o p _ h1 h2 => by rw [h1] at h2; injection h2 with h2; rw [h2]⟩
theorem rel_ops {s s' : ClW} (h : s'.ops = s.ops) : RelO s s' := ⟨.inl (by rw [h]), fun j o p _ h1 h2 => by rw [h, h1] at h2; injection h2 with h2; rw [h2]⟩
theorem OkOp.later {now now' : Int} {j : Nat} {o : OpW} (h : OkOp now j o) (hn : now ≤ now') : OkOp now' j o := ⟨h.id, h.en, h.s0, by have := h.s1; omega, by have := h.e1; omega, h.kd⟩
theorem InvO.later {s : ClW} {now now' : Int} (h : InvO s now) (hn : now ≤ now') : InvO s now' :=
  ⟨fun j o ho => (h.ops j o ho).later hn, h.pair, h.pend, h.ses, h.wt, h.a0, by have := h.a1; omega, by have := h.n0; omega⟩
theorem InvO.of {s s' : ClW} {now : Int} (h : InvO s now) (ho : s'.ops = s.ops) (hp : s'.pending = true → s.pending = true) (hs : s'.session = s.session) (hw : s'.wait = s.wait) (h0 : 0 ≤ s'.asked) (h1 : s'.asked ≤ now) : InvO s' now :=
  ⟨by rw [ho]; exact h.ops, by rw [ho]; exact h.pair, fun e => by rw [ho]; exact h.pend (hp e), hs.trans h.ses, hw.trans h.wt, h0, h1, h.n0⟩
theorem inv_begin {s : ClW} {now : Int} (h : InvO s now) (o : OpW) (hk : o.kind = 1 → o.b.seq = (s.ops.length : Int) + 1 ∧ o.b.session = 9) : InvO (beginS s o now) now ∧ RelO s (beginS s o now) := by
  have hlast : ∀ j p, (s.ops ++ [{ o with id := (s.ops.length : Int) + 1, start := now, end_ := -1 }])[j]? = some p → (s.ops[j]? = some p ∧ j < s.ops.length) ∨ (j = s.ops.length ∧ p = { o with id := (s.ops.length : Int) + 1, start := now, end_ := -1 }) := by
    intro j p hp
    by_cases hj : j < s.ops.length
    · rw [List.getElem?_append_left hj] at hp
      exact .inl ⟨hp, hj⟩
    · rw [List.getElem?_append_right (by omega)] at hp
      have h0 : j - s.ops.length = 0 := by
        have := (List.getElem?_eq_some_iff.1 hp).1
        simp at this
        omega
      rw [h0] at hp
      exact .inr ⟨by omega, (Option.some.inj hp).symm⟩
  have n0 := h.n0
  refine ⟨⟨fun j p hp => ?_, fun j p q hp hq => ?_, fun _ => ⟨s.ops, _, rfl, rfl⟩, h.ses, h.wt, n0, Int.le_refl _, n0⟩, ⟨.inr (by simp [beginS]), fun j p q hj h1 h2 => ?_⟩⟩
  · rcases hlast j p hp with ⟨h1, _⟩ | ⟨rfl, rfl⟩
    · exact h.ops j p h1
    · exact ⟨rfl, .inl rfl, n0, Int.le_refl _, by simp only; omega, fun e => hk e⟩
  · rcases hlast j p hp with ⟨h1, hj⟩ | ⟨rfl, rfl⟩
    · rcases hlast (j + 1) q hq with ⟨h2, _⟩ | ⟨e, rfl⟩
      · exact h.pair j p q h1 h2
      · exact ⟨(h.ops j p h1).s1, (h.ops j p h1).e1⟩
    · rcases hlast _ q hq with ⟨_, h3⟩ | ⟨e, _⟩
      · omega
      · omega
  · rcases hlast j q h2 with ⟨h3, _⟩ | ⟨e, _⟩
    · rw [h1] at h3; injection h3 with h3; rw [h3]
    · omega
theorem inv_last {s : ClW} {now : Int} (h : InvO s now) (hp : s.pending = true) (f : OpW → OpW) (hf : ∀ o, (f o).id = o.id ∧ (f o).start = o.start ∧ (f o).end_ = now ∧ (f o).kind = o.kind ∧ (f o).b = o.b) :
    InvO (setLast { s with pending := false } f) now ∧ RelO s (setLast { s with pending := false } f) := by
  obtain ⟨l, r, hl, _⟩ := h.pend hp
  have hls : lastS { s with pending := false } = r := by unfold lastS; simp [hl]
  have hops : (setLast { s with pending := false } f).ops = l ++ [f r] := by
    unfold setLast
    rw [hls]
    simp [hl]
  obtain ⟨f1, f2, f3, f4, f5⟩ := hf r
  have hget : ∀ j p, (l ++ [f r])[j]? = some p → (s.ops[j]? = some p ∧ j < l.length) ∨ (j = l.length ∧ p = f r) := by
    intro j p hp
    by_cases hj : j < l.length
    · rw [List.getElem?_append_left hj] at hp
      exact .inl ⟨by rw [hl, List.getElem?_append_left hj]; exact hp, hj⟩
    · rw [List.getElem?_append_right (by omega)] at hp
      have h0 : j - l.length = 0 := by
        have := (List.getElem?_eq_some_iff.1 hp).1
        simp at this
        omega
      rw [h0] at hp
      exact .inr ⟨by omega, (Option.some.inj hp).symm⟩
  have hr : s.ops[l.length]? = some r := by rw [hl]; simp
  have okr := h.ops _ _ hr
  refine ⟨⟨fun j p hp => ?_, fun j p q hp hq => ?_, fun e => (by cases e), h.ses, h.wt, h.a0, h.a1, h.n0⟩, ⟨.inl (by rw [hops, hl]; simp), fun j p q hj h1 h2 => ?_⟩⟩
  · rw [hops] at hp
    rcases hget j p hp with ⟨h1, _⟩ | ⟨rfl, rfl⟩
    · exact h.ops j p h1
    · exact ⟨f1.trans okr.id, .inr (by rw [f2, f3]; exact okr.s1), by rw [f2]; exact okr.s0, by rw [f2]; exact okr.s1, by rw [f3]; exact Int.le_refl _, fun e => by rw [f5, f1]; exact okr.kd (by rw [← f4]; exact e)⟩
  · rw [hops] at hp hq
    rcases hget j p hp with ⟨h1, hj⟩ | ⟨rfl, rfl⟩
    · rcases hget (j + 1) q hq with ⟨h2, _⟩ | ⟨e, rfl⟩
      · exact h.pair j p q h1 h2
      · rw [f2]
        exact h.pair j p r h1 (by rw [e]; exact hr)
    · rcases hget _ q hq with ⟨_, h3⟩ | ⟨e, _⟩
      · omega
      · omega
  · rw [hops] at h2
    rcases hget j q h2 with ⟨h3, _⟩ | ⟨e, _⟩
    · rw [h1] at h3; injection h3 with h3; rw [h3]
    · rw [hl] at hj; simp at hj; omega

/-- One act. -/
noncomputable def onceS (s : ClW) (a : AcW) (now : Int) (ci : Int) : ClW :=
  if ci = 0 ∨ ci = 1 ∨ ci = 2 then (appendS s a.b.stream a.b.expect a.b.events now).1
  else if ci = 3 ∨ ci = 4 then (readS s a.stream a.from_ a.n now).1
  else if ci = 5 then (seeS s a.v now).1
  else if ci = 6 then (answerS s 1 (pickT a.n (s.ops.length + 2) : Nat) 0 now (fun o => { o with out := a.out })).1
  else if ci = 7 then (answerS s 2 (pickT a.n (s.ops.length + 2) : Nat) 0 now (fun o => { o with version := 0, events := a.events })).1
  else if ci = 8 then (tickS s now).1
  else { s with pending := false }
theorem inv_answer {s : ClW} {now : Int} (h : InvO s now) (kind id : Int) (f : OpW → OpW) (hf : ∀ o, (f o).id = o.id ∧ (f o).start = o.start ∧ (f o).end_ = o.end_ ∧ (f o).kind = o.kind ∧ (f o).b = o.b) :
    InvO (answerS s kind id 0 now f).1 now ∧ RelO s (answerS s kind id 0 now f).1 := by
  unfold answerS
  by_cases hq : s.pending = false ∨ (lastS s).kind ≠ kind ∨ (lastS s).id ≠ id
  · rw [if_pos hq]
    exact ⟨h, RelO.refl s⟩
  · rw [if_neg hq, if_neg (by decide)]
    have hp : s.pending = true := by cases e : s.pending; exact absurd (.inl e) hq; rfl
    exact inv_last h hp (fun o => f { o with end_ := now }) (fun o => by
      obtain ⟨f1, f2, f3, f4, f5⟩ := hf { o with end_ := now }
      exact ⟨f1, f2, f3, f4, f5⟩)
theorem once_step {s : ClW} {now : Int} (h : InvO s now) (a : AcW) (ci : Int) : InvO (onceS s a now ci) now ∧ RelO s (onceS s a now ci) := by
  unfold onceS
  split
  · unfold appendS
    split
    · exact ⟨h, RelO.refl s⟩
    · split
      · exact ⟨h, RelO.refl s⟩
      · exact inv_begin h { zeroOp with kind := 1, b := batchS s a.b.stream a.b.expect a.b.events } (fun _ => ⟨rfl, h.ses⟩)
  · split
    · unfold readS
      split
      · exact ⟨h, RelO.refl s⟩
      · split
        · exact ⟨h, RelO.refl s⟩
        · have h1 : InvO { s with which := a.n } now := h.of rfl (fun e => e) rfl rfl h.a0 h.a1
          obtain ⟨p, q⟩ := inv_begin h1 { zeroOp with kind := 2, stream := a.stream, from_ := a.from_ } (fun e => absurd (show (2 : Int) = 1 from e) (by decide))
          exact ⟨p, ⟨q.len, q.same⟩⟩
    · split
      · unfold seeS
        split
        · exact ⟨h, RelO.refl s⟩
        · split
          · exact ⟨h.of rfl (fun e => e) rfl rfl h.a0 h.a1, rel_ops rfl⟩
          · exact ⟨h.of rfl (fun e => e) rfl rfl h.n0 (Int.le_refl _), rel_ops rfl⟩
      · split
        · exact inv_answer h _ _ _ (fun o => ⟨rfl, rfl, rfl, rfl, rfl⟩)
        · split
          · exact inv_answer h _ _ _ (fun o => ⟨rfl, rfl, rfl, rfl, rfl⟩)
          · split
            · unfold tickS
              split
              · exact ⟨h, RelO.refl s⟩
              · split
                · exact ⟨h.of rfl (fun e => e) rfl rfl h.n0 (Int.le_refl _), rel_ops rfl⟩
                · exact ⟨h.of rfl (fun e => e) rfl rfl h.n0 (Int.le_refl _), rel_ops rfl⟩
            · exact ⟨h.of rfl (fun e => by cases e) rfl rfl h.a0 h.a1, rel_ops rfl⟩
theorem InvO.some {s : ClW} {now : Int} (h : InvO s now) (hp : s.pending = true) : s.ops ≠ [] := by
  obtain ⟨l, r, hl, _⟩ := h.pend hp
  rw [hl]
  simp
theorem inv_new : InvO (newR 9 5).s 0 :=
  ⟨fun j o h => absurd h (by simp [newR]), fun j o p h => absurd h (by simp [newR]), fun e => (by cases e), rfl, rfl, Int.le_refl _, Int.le_refl _, Int.le_refl _⟩
end Go.Proofs.YtapgjjfndbfnpaaDoor
