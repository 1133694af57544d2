/-
  The plain law under ClientAsks: what an op that nobody answers does to a client, step by step; and the walk of bucketlinelaw22.sameEvents where both are the same.
-/
import Derived.Test.YtapgjjfndbfnpaaDoorCliPlain
import Derived.Test.YtapgjjfndbfnpaaDoorCliShown
import Derived.Laws.StructEq
import Derived.Deep.QuietTactic
namespace Go.Proofs.YtapgjjfndbfnpaaDoor
open Go.RowKit
set_option linter.unusedVariables false
set_option linter.unusedSimpArgs false

def asksB (b : BW) : BW := ⟨b.stream, b.expect, 3, 1, b.events⟩
def asks0 (wait : Int) : ClW := (newR 3 wait).s
def asks1 (wait : Int) (b : BW) : ClW := beginS (asks0 wait) { zeroOp with kind := 1, b := asksB b } 0
def asks2 (wait : Int) (b : BW) (V : Vw.VW) : ClW := { asks1 wait b with v := V }
def askedAt (s : ClW) (a : Int) : ClW := { s with asked := a }
theorem asks_append_no {wait : Int} {b : BW} (h : fitsB (asksB b) ≠ 0) : appendS (asks0 wait) b.stream b.expect b.events 0 = (asks0 wait, [], fitsB (asksB b)) := by
  have e : batchS (asks0 wait) b.stream b.expect b.events = asksB b := rfl
  have eb : busyB (asks0 wait) = false := rfl
  rw [appendS, eb, if_neg (by decide), e, if_pos h]
theorem asks_append_ok {wait : Int} {b : BW} (h : fitsB (asksB b) = 0) : appendS (asks0 wait) b.stream b.expect b.events 0 = (asks1 wait b, [⟨0, .whr 1⟩], 0) := by
  have e : batchS (asks0 wait) b.stream b.expect b.events = asksB b := rfl
  have eb : busyB (asks0 wait) = false := rfl
  have e2 : askW (asks1 wait b) = ⟨0, .whr 1⟩ := by
    rw [askW, if_pos (show Vw.rightB (asks1 wait b).v = false from zeroV_not)]
    rfl
  rw [appendS, eb, if_neg (by decide), e, if_neg (by rw [h]; decide)]
  rw [show beginS (asks0 wait) { zeroOp with kind := 1, b := asksB b } 0 = asks1 wait b from rfl, e2]
theorem asks_see_no {wait : Int} {b : BW} {V : Vw.VW} (h : Vw.rightB V = false) : seeS (asks1 wait b) V 0 = (asks1 wait b, []) := by
  rw [seeS, if_pos (.inl h)]
theorem asks_ask {wait : Int} {b : BW} {V : Vw.VW} (h : Vw.rightB V = true) : askW (asks2 wait b V) = ⟨V.chain.getD 0 0, .app 1 (asksB b)⟩ := by
  rw [askW, if_neg (by rw [show Vw.rightB (asks2 wait b V).v = true from h]; decide), if_pos (by rfl)]
  rfl
theorem asks_see_ok {wait : Int} {b : BW} {V : Vw.VW} (h : Vw.rightB V = true) : seeS (asks1 wait b) V 0 = (asks2 wait b V, [⟨V.chain.getD 0 0, .app 1 (asksB b)⟩]) := by
  have he : 1 ≤ V.epoch := (Vw.rightB_iff V).1 h |>.e1
  rw [seeS, if_neg (by
    rintro (e | e)
    · rw [h] at e; cases e
    · have : (asks1 wait b).v.epoch = 0 := rfl
      omega), if_neg (by intro e; exact absurd (show true = false from e) (by decide)), show ({ asks1 wait b with v := V } : ClW) = asks2 wait b V from rfl, asks_ask h]
  rfl
theorem tick_early {s : ClW} {now : Int} (h : now - s.asked < s.wait) : tickS s now = (s, []) := by rw [tickS, if_pos (.inr h)]
theorem asks_tick_no {wait a now : Int} {b : BW} (h : ¬ now - a < wait) : tickS (askedAt (asks1 wait b) a) now = (askedAt (asks1 wait b) now, [⟨0, .whr 1⟩]) := by
  have e2 : askW (askedAt (asks1 wait b) a) = ⟨0, .whr 1⟩ := by
    rw [askW, if_pos (show Vw.rightB (askedAt (asks1 wait b) a).v = false from zeroV_not)]
    rfl
  rw [tickS, if_neg (by rintro (e | e); cases e; exact h e), if_pos (show Vw.rightB (askedAt (asks1 wait b) a).v = false from zeroV_not), e2]
  rfl
theorem asks_tick_ok {wait a now : Int} {b : BW} {V : Vw.VW} (hr : Vw.rightB V = true) (h : ¬ now - a < wait) : tickS (askedAt (asks2 wait b V) a) now = (askedAt (asks2 wait b V) now, [⟨0, .whr 1⟩, ⟨V.chain.getD 0 0, .app 1 (asksB b)⟩]) := by
  have e2 : askW (askedAt (asks2 wait b V) a) = ⟨V.chain.getD 0 0, .app 1 (asksB b)⟩ := asks_ask hr
  rw [tickS, if_neg (by rintro (e | e); cases e; exact h e), if_neg (by rw [show Vw.rightB (askedAt (asks2 wait b V) a).v = true from hr]; decide), e2]
  rfl
theorem asks_cancel (s : ClW) (now : Int) (h : s.pending = false) : tickS s now = (s, []) := by rw [tickS, if_pos (.inl h)]

set_option maxRecDepth 100000 in
set_option maxHeartbeats 1600000 in
theorem sameE_any (B : Nat) (v u : Value) (l : List EV) (w : World) (h1 : IsEvents B w v l) (h2 : IsEvents B w u l) :
    Calls Tryd.prog 16 #[v, u] w fun r w' => r = .returned (.bool true) ∧ ∃ m, w' = w.drewN m := by
  have H1 := Lib.hid h1
  have H2 := Lib.hid h2
  obtain ⟨a1, c1, rfl⟩ := h1.form
  obtain ⟨a2, c2, rfl⟩ := h2.form
  have hmax : l.length ≤ 9223372036854775807 := by obtain ⟨_, _, he, h1, h2, _⟩ := h1; unfold maxLen at h2; omega
  clear h1 h2
  go_enter Tryd.func16, Tryd.ntmps16
  go_wp2_with fail
  go_loopw [4, 5] (fun _ t5 wr => ∃ k n : Nat, k ≤ l.length ∧ t5 = .int .i64 k ∧ wr = w.drewN n) (fun _ t5 _ => l.length - (intOf t5).toNat)
  case atStart => exact ⟨0, 0, Nat.zero_le _, rfl, rfl⟩
  case round =>
    obtain ⟨k, n, hk, rfl, rfl⟩ := hrel
    by_cases hlt : k < l.length
    · obtain ⟨b1, o1, q1, he, _, _, hc1, hd1⟩ := H1.out.get k hlt
      obtain ⟨rfl, -, rfl⟩ : a1 = some ⟨b1, o1, none⟩ ∧ l.length = l.length ∧ c1 = q1 := by injection he with e1 e2 e3; exact ⟨e1, e2, e3⟩
      clear he
      obtain ⟨b2, o2, q2, he, _, _, hc2, hd2⟩ := H2.out.get k hlt
      obtain ⟨rfl, -, rfl⟩ : a2 = some ⟨b2, o2, none⟩ ∧ l.length = l.length ∧ c2 = q2 := by injection he with e1 e2 e3; exact ⟨e1, e2, e3⟩
      clear he
      obtain ⟨y, hy⟩ : ∃ y, l[k] = y := ⟨_, rfl⟩
      rw [hy] at hc1 hc2 hd1 hd2
      have i1 : (0 : Int) ≤ (k : Int) := by omega
      have i2 : (k : Int) < (l.length : Int) := by omega
      clear hy
      go_wp2_with fail
      go_quiet (fail)
      go_wp2_with fail
      go_roundw
      case rel => exact ⟨k + 1, n + nq, by omega, by go_num, rfl⟩
      case measure => simp [intOf]; omega
    · have g : ¬ ((k : Int) < (l.length : Int)) := by omega
      go_wp2_with fail
      go_ret
      exact ⟨rfl, n, rfl⟩
end Go.Proofs.YtapgjjfndbfnpaaDoor
