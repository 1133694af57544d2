/-
  What a client does, plainly; and how what is told lies in memory.
-/
import Derived.Test.YtapgjjfndbfnpaaDoorCliBegin
namespace Go.Proofs.YtapgjjfndbfnpaaDoor
open Go.RowKit
set_option linter.unusedVariables false

inductive MsgW where
  | whr (id : Int)
  | app (id : Int) (b : BW)
  | red (id : Int) (stream : ByteArray) (from_ : Int)
structure OutW where
  dst : Int
  m : MsgW
def MsgR.plain : MsgR → MsgW
  | .whr id => .whr id
  | .app id b _ => .app id b
  | .red id s f => .red id s f
def OutR.plain (o : OutR) : OutW := ⟨o.dst, o.m.plain⟩
def OutR.ok (S : Nat → Prop) (w : World) (o : OutR) : Prop :=
  match o.m with
  | .app _ b bev => EvA S w bev b.events
  | _ => True

def zeroOut : OutC := ⟨0, 0, 0, 0⟩
def zeroOp : OpW := ⟨0, 0, 0, 0, ⟨ByteArray.empty, 0, 0, 0, []⟩, zeroOut, ByteArray.empty, 0, 0, []⟩
def lastS (s : ClW) : OpW := s.ops.getLast?.getD zeroOp
noncomputable def askW (s : ClW) : OutW :=
  if Vw.rightB s.v = false then ⟨0, .whr (lastS s).id⟩
  else if (lastS s).kind = 1 then ⟨s.v.chain.getD 0 0, .app (lastS s).id (lastS s).b⟩
  else ⟨s.v.chain.getD (pickT s.which s.v.chain.length) 0, .red (lastS s).id (lastS s).stream (lastS s).from_⟩
def whereW (s : ClW) : OutW := ⟨0, .whr (lastS s).id⟩
def beginS (s : ClW) (o : OpW) (now : Int) : ClW := { s with ops := s.ops ++ [{ o with id := (s.ops.length : Int) + 1, start := now, end_ := -1 }], pending := true, asked := now }
def batchS (s : ClW) (stream : ByteArray) (expect : Int) (events : List EV) : BW := ⟨stream, expect, s.session, (s.ops.length : Int) + 1, events⟩
noncomputable def appendS (s : ClW) (stream : ByteArray) (expect : Int) (events : List EV) (now : Int) : ClW × List OutW × Nat :=
  if busyB s = true then (s, [], 9)
  else if fitsB (batchS s stream expect events) ≠ 0 then (s, [], fitsB (batchS s stream expect events))
  else (beginS s { zeroOp with kind := 1, b := batchS s stream expect events } now, [askW (beginS s { zeroOp with kind := 1, b := batchS s stream expect events } now)], 0)
def readNo (stream : ByteArray) (from_ : Int) : Bool := !nameB stream || decide (from_ < 0) || decide (137438953472 < from_)
noncomputable def readS (s : ClW) (stream : ByteArray) (from_ which now : Int) : ClW × List OutW × Nat :=
  if busyB s = true then (s, [], 9)
  else if readNo stream from_ = true then (s, [], 1)
  else (beginS { s with which := which } { zeroOp with kind := 2, stream := stream, from_ := from_ } now, [askW (beginS { s with which := which } { zeroOp with kind := 2, stream := stream, from_ := from_ } now)], 0)
open Classical in
noncomputable def seeS (s : ClW) (m : Vw.VW) (now : Int) : ClW × List OutW :=
  if Vw.rightB m = false ∨ m.epoch ≤ s.v.epoch then (s, [])
  else if s.pending = false then ({ s with v := m }, [])
  else ({ s with v := m, asked := now }, [askW { s with v := m }])
def setLast (s : ClW) (f : OpW → OpW) : ClW := { s with ops := s.ops.dropLast ++ [f (lastS s)] }
/-- An answer to an op of a kind: is it one, is it an error, what it does. -/
def answerS (s : ClW) (kind id err now : Int) (f : OpW → OpW) : ClW × List OutW :=
  if s.pending = false ∨ (lastS s).kind ≠ kind ∨ (lastS s).id ≠ id then (s, [])
  else if err ≠ 0 then ({ s with which := IntKind.i64.wrap (s.which + 1) }, [whereW s])
  else (setLast { s with pending := false } (fun o => f { o with end_ := now }), [])
noncomputable def tickS (s : ClW) (now : Int) : ClW × List OutW :=
  if s.pending = false ∨ now - s.asked < s.wait then (s, [])
  else if Vw.rightB s.v = false then ({ s with asked := now }, [askW s])
  else ({ s with asked := now }, [whereW s, askW s])

/-- What a call does: the client behind it, what it tells. -/
def Does (X : Nat → Prop) (lo c : Nat) (R : ClR) (w : World) (s' : ClW) (l : List OutW) (v : Value) (w' : World) : Prop :=
  ∃ R' outs, R'.s = s' ∧ ClM X lo w' c R' ∧ Step c R R' w w' ∧ OutsAt w.heap.size w' v outs ∧ outs.map OutR.plain = l ∧ ∀ o ∈ outs, o.ok (fun k => R'.mut c k ∨ X k) w'

section
variable {X : Nat → Prop} {lo c : Nat} {w w' : World} {R : ClR}
theorem does_none (h : ClM X lo w c R) (hb : Below w.heap.size w w') : Does X lo c R w R.s [] (.slice none 0 0) w' :=
  ⟨R, [], rfl, h.keep hb, step_below hb rfl, .inl ⟨rfl, rfl⟩, rfl, fun o ho => absurd ho (by simp)⟩
theorem ClM.lastS (h : ClM X lo w c R) {l : List OpR} {r : OpR} (hr : R.rs = l ++ [r]) : lastS R.s = r.o := by
  rw [Proofs.YtapgjjfndbfnpaaDoor.lastS, ← h.ops, hr]
  simp
theorem askO_plain (h : ClM X lo w c R) {l : List OpR} {r : OpR} (hr : R.rs = l ++ [r]) : (askO R r).plain = askW R.s := by
  rw [askO, askW, h.lastS hr]
  split
  · rfl
  · split <;> rfl
theorem askO_ok (h : ClM X lo w c R) {l : List OpR} {r : OpR} (hr : R.rs = l ++ [r]) : (askO R r).ok (fun k => R.mut c k ∨ X k) w := by
  rw [askO]
  split
  · trivial
  · split
    · exact h.bev r (by rw [hr]; simp)
    · trivial
theorem OutR.ok_keep {S : Nat → Prop} {o : OutR} (h : o.ok S w) (hb : Below w.heap.size w w') : o.ok S w' := by
  unfold OutR.ok at h ⊢
  split
  · rename_i e
    rw [e] at h
    exact h.keep (T := fun _ => False) (kept_below hb) (fun _ _ h => h.elim) (fun _ _ h => h)
  · trivial
theorem askW_asked (s : ClW) (now : Int) : askW { s with asked := now } = askW s := rfl
theorem ClM.split (h : ClM X lo w c R) (hn : R.s.ops ≠ []) : ∃ l r, R.rs = l ++ [r] := by
  have : R.rs ≠ [] := by intro e; apply hn; rw [← h.ops, e]; rfl
  exact ⟨R.rs.dropLast, R.rs.getLast this, (List.dropLast_concat_getLast this).symm⟩
theorem outs_less {B B' : Nat} {v : Value} {l : List OutR} (hB : B ≤ B') (h : OutsAt B' w v l) : OutsAt B w v l := by
  rcases h with h | ⟨b, h1, h2, h3⟩
  · exact .inl h
  · exact .inr ⟨b, h1, Nat.le_trans hB h2, h3⟩
theorem does_begin {Rw : ClR} {w1 w3 : World} {r1 : OpR} {ov v : Value} {now : Int} (hst : Step c R Rw w w1) (hm : ClM X lo w3 c (((Rw.begun r1 ov).wait true).ask now)) (hs : Step c Rw (((Rw.begun r1 ov).wait true).ask now) w1 w3)
    (ho : OutsAt w1.heap.size w3 v [askO ((Rw.begun r1 ov).wait true) r1]) (o : OpW) (hr1 : r1.o = { o with id := (Rw.s.ops.length : Int) + 1, start := now, end_ := -1 }) :
    Does X lo c R w (beginS Rw.s o now) [askW (beginS Rw.s o now)] v w3 := by
  have hrs : (((Rw.begun r1 ov).wait true).ask now).rs = Rw.rs ++ [r1] := rfl
  have e : (((Rw.begun r1 ov).wait true).ask now).s = beginS Rw.s o now := by
    simp only [ClR.ask, ClR.wait, ClR.begun, beginS, hr1]
  refine ⟨_, _, e, hm, hst.trans hs, outs_less hst.kept.size ho, ?_, fun x hx => ?_⟩
  · rw [List.map_singleton]
    congr 1
    have h4 := askO_plain hm hrs
    rw [e] at h4
    exact h4
  · obtain rfl := List.mem_singleton.1 hx
    exact askO_ok hm hrs
end
end Go.Proofs.YtapgjjfndbfnpaaDoor
