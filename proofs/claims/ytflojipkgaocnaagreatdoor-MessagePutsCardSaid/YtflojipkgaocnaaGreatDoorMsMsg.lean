/-
  Messages, plainly: what they are, which are right, their bytes, how they are read.
-/
import Derived.Test.YtflojipkgaocnaaGreatDoorMsPlain
namespace Go.Proofs.YtflojipkgaocnaaGreatDoor
open Go.RowKit
set_option linter.unusedVariables false

inductive Msg where
  | beat (a b c : Int)
  | join (a b : Int)
  | lease (a b : Int)
  | view (a : Int) (c s b : List Int)
  | whr (a : Int)
  | hav (a b c : Int) (l : List (Int × Int))
  | logs (a b c d e f : Int) (l : List EN)
  | ack (a b c : Int)
  | ask (a b c d : Int)
  | told (a b c d : Int)
  | app (a : Int) (b : BW)
  | red (a : Int) (s : ByteArray) (f : Int)
  | rep (a b c d e f : Int)
  | res (a b c : Int) (l : List EV)
def Msg.kind : Msg → Nat
  | .beat .. => 1 | .join .. => 2 | .lease .. => 3 | .view .. => 4 | .whr .. => 5 | .hav .. => 6 | .logs .. => 7
  | .ack .. => 8 | .ask .. => 9 | .told .. => 10 | .app .. => 11 | .red .. => 12 | .rep .. => 13 | .res .. => 14
/-- The numbers that it has alone, or ahead of all else. -/
def Msg.nums : Msg → List Int
  | .beat a b c => [a, b, c]
  | .join a b => [a, b]
  | .lease a b => [a, b]
  | .view a _ _ _ => [a]
  | .whr a => [a]
  | .hav a b c _ => [a, b, c]
  | .logs a b c d e f _ => [a, b, c, d, e, f]
  | .ack a b c => [a, b, c]
  | .ask a b c d => [a, b, c, d]
  | .told a b c d => [a, b, c, d]
  | .app a _ => [a]
  | .red a _ _ => [a]
  | .rep a b c d e f => [a, b, c, d, e, f]
  | .res a b c _ => [a, b, c]
def numM (n : Int) : Bool := decide (0 ≤ n) && decide (n ≤ 274877906944)
def putM2 (x : Int × Int) : List UInt8 := putI x.1 ++ putI x.2
def okM2 (x : Int × Int) : Bool := numM x.1 && numM x.2
/-- The bytes of what it has besides. -/
def Msg.rest : Msg → List UInt8
  | .view _ c s b => putL putI c ++ (putL putI s ++ putL putI b)
  | .hav _ _ _ l => putL putM2 l
  | .logs _ _ _ _ _ _ l => (putRow l).data.toList
  | .app _ b => (putB b).data.toList
  | .red _ s f => putT s.data.toList ++ putI f
  | .res _ _ _ l => putL (fun v => (putE v).data.toList) l
  | _ => []
def Msg.restOk : Msg → Bool
  | .view _ c s b => (decide (c.length ≤ 6) && c.all numM) && ((decide (s.length ≤ 6) && s.all numM) && (decide (b.length ≤ 6) && b.all numM))
  | .hav _ _ _ l => decide (l.length ≤ 30) && l.all okM2
  | .logs _ _ _ _ _ _ l => decide (l.length ≤ 8) && l.all rightR
  | .app _ b => decide (fitsB b = 0)
  | .red _ s f => nameB s && numM f
  | .res _ _ _ l => decide (l.length ≤ 16) && l.all rightE
  | _ => true
def rightM (m : Msg) : Bool := m.nums.all numM && m.restOk
def bodyM (m : Msg) : List UInt8 := catL putI m.nums ++ m.rest
def putM (m : Msg) : ByteArray := if rightM m = true then bstr (UInt8.ofNat m.kind :: bodyM m) else ⟨#[]⟩
def epochM (m : Msg) : Int :=
  if rightM m = true then (match m with
    | .beat _ b _ => b
    | .lease a _ | .view a _ _ _ | .hav a _ _ _ | .logs a _ _ _ _ _ _ | .ack a _ _ | .ask a _ _ _ | .told a _ _ _ => a
    | _ => 0) else 0

/-! ### reading -/
def rdChain : List UInt8 → Nat → List Int × List UInt8 × Nat := rdList (rdTimes rdI) 6
def rdMarks : List UInt8 → Nat → List (Int × Int) × List UInt8 × Nat := rdList (rdTimes (rdSeq rdI rdI)) 30
def rdRow : List UInt8 → Nat → List EN × List UInt8 × Nat := rdIf [] (fun l => takeRow l 8)
def rdBatch : List UInt8 → Nat → BW × List UInt8 × Nat := rdIf zeroB takeB
def rdEvs : List UInt8 → Nat → List EV × List UInt8 × Nat := rdList (rdBreak (rdIf zeroE takeE)) 16
def rdMsg : Nat → List UInt8 → Nat → Msg × List UInt8 × Nat
  | 1 => rdMap (fun x => .beat x.1 x.2.1 x.2.2) (rdSeq rdI (rdSeq rdI rdI))
  | 2 => rdMap (fun x => .join x.1 x.2) (rdSeq rdI rdI)
  | 3 => rdMap (fun x => .lease x.1 x.2) (rdSeq rdI rdI)
  | 4 => rdMap (fun x => .view x.1 x.2.1 x.2.2.1 x.2.2.2) (rdSeq rdI (rdSeq rdChain (rdSeq rdChain rdChain)))
  | 5 => rdMap (fun x => .whr x) rdI
  | 6 => rdMap (fun x => .hav x.1 x.2.1 x.2.2.1 x.2.2.2) (rdSeq rdI (rdSeq rdI (rdSeq rdI rdMarks)))
  | 7 => rdMap (fun x => .logs x.1 x.2.1 x.2.2.1 x.2.2.2.1 x.2.2.2.2.1 x.2.2.2.2.2.1 x.2.2.2.2.2.2) (rdSeq rdI (rdSeq rdI (rdSeq rdI (rdSeq rdI (rdSeq rdI (rdSeq rdI rdRow))))))
  | 8 => rdMap (fun x => .ack x.1 x.2.1 x.2.2) (rdSeq rdI (rdSeq rdI rdI))
  | 9 => rdMap (fun x => .ask x.1 x.2.1 x.2.2.1 x.2.2.2) (rdSeq rdI (rdSeq rdI (rdSeq rdI rdI)))
  | 10 => rdMap (fun x => .told x.1 x.2.1 x.2.2.1 x.2.2.2) (rdSeq rdI (rdSeq rdI (rdSeq rdI rdI)))
  | 11 => rdMap (fun x => .app x.1 x.2) (rdSeq rdI rdBatch)
  | 12 => rdMap (fun x => .red x.1 x.2.1 x.2.2) (rdSeq rdI (rdSeq rdT rdI))
  | 13 => rdMap (fun x => .rep x.1 x.2.1 x.2.2.1 x.2.2.2.1 x.2.2.2.2.1 x.2.2.2.2.2) (rdSeq rdI (rdSeq rdI (rdSeq rdI (rdSeq rdI (rdSeq rdI rdI)))))
  | _ => rdMap (fun x => .res x.1 x.2.1 x.2.2.1 x.2.2.2) (rdSeq rdI (rdSeq rdI (rdSeq rdI rdEvs)))
def takeM : List UInt8 → Option Msg × Nat
  | [] => (none, 3)
  | c :: l =>
    if c.toNat < 1 ∨ 14 < c.toNat then (none, 2)
    else if (rdMsg c.toNat l 0).2.2 ≠ 0 then (none, (rdMsg c.toNat l 0).2.2)
    else if (rdMsg c.toNat l 0).2.1 ≠ [] ∨ rightM (rdMsg c.toNat l 0).1 = false then (none, 2)
    else (some (rdMsg c.toNat l 0).1, 0)

/-! ### one undoes the other -/
/-- What can be read. -/
def okM : Msg → Prop
  | .beat a b c => okN a ∧ okN b ∧ okN c
  | .join a b => okN a ∧ okN b
  | .lease a b => okN a ∧ okN b
  | .view a c s b => okN a ∧ (c.length ≤ 6 ∧ ∀ x ∈ c, okN x) ∧ (s.length ≤ 6 ∧ ∀ x ∈ s, okN x) ∧ (b.length ≤ 6 ∧ ∀ x ∈ b, okN x)
  | .whr a => okN a
  | .hav a b c l => okN a ∧ okN b ∧ okN c ∧ (l.length ≤ 30 ∧ ∀ x ∈ l, okN x.1 ∧ okN x.2)
  | .logs a b c d e f l => okN a ∧ okN b ∧ okN c ∧ okN d ∧ okN e ∧ okN f ∧ (l.length ≤ 8 ∧ ∀ x ∈ l, rightR x = true)
  | .ack a b c => okN a ∧ okN b ∧ okN c
  | .ask a b c d => okN a ∧ okN b ∧ okN c ∧ okN d
  | .told a b c d => okN a ∧ okN b ∧ okN c ∧ okN d
  | .app a b => okN a ∧ fitsB b = 0
  | .red a s f => okN a ∧ okT s ∧ okN f
  | .rep a b c d e f => okN a ∧ okN b ∧ okN c ∧ okN d ∧ okN e ∧ okN f
  | .res a b c l => okN a ∧ okN b ∧ okN c ∧ (l.length ≤ 16 ∧ ∀ x ∈ l, rightE x = true)
/-- Its bytes, part by part. -/
def bytesM : Msg → List UInt8
  | .beat a b c => putI a ++ (putI b ++ putI c)
  | .join a b => putI a ++ putI b
  | .lease a b => putI a ++ putI b
  | .view a c s b => putI a ++ (putL putI c ++ (putL putI s ++ putL putI b))
  | .whr a => putI a
  | .hav a b c l => putI a ++ (putI b ++ (putI c ++ putL putM2 l))
  | .logs a b c d e f l => putI a ++ (putI b ++ (putI c ++ (putI d ++ (putI e ++ (putI f ++ putL bytesR l)))))
  | .ack a b c => putI a ++ (putI b ++ putI c)
  | .ask a b c d => putI a ++ (putI b ++ (putI c ++ putI d))
  | .told a b c d => putI a ++ (putI b ++ (putI c ++ putI d))
  | .app a b => putI a ++ (putB b).data.toList
  | .red a s f => putI a ++ (putT s.data.toList ++ putI f)
  | .rep a b c d e f => putI a ++ (putI b ++ (putI c ++ (putI d ++ (putI e ++ putI f))))
  | .res a b c l => putI a ++ (putI b ++ (putI c ++ putL (fun v => (putE v).data.toList) l))
theorem putRow_list {l : List EN} (h : ∀ x ∈ l, rightR x = true) : (putRow l).data.toList = putL bytesR l := by
  have : l.any (fun e => !rightR e) = false := by
    rw [List.any_eq_false]
    intro x hx
    simp [h x hx]
  unfold putRow
  rw [this]
  rfl
theorem bodyM_bytes {m : Msg} (h : okM m) : bodyM m = bytesM m := by
  cases m <;> simp only [bodyM, bytesM, Msg.nums, Msg.rest, catL, List.flatMap_cons, List.flatMap_nil, List.append_assoc, List.append_nil]
  rw [putRow_list h.2.2.2.2.2.2.2]
theorem numM_ok {n : Int} (h : numM n = true) : okN n := by
  simp only [numM, Bool.and_eq_true, decide_eq_true_eq] at h
  exact ⟨h.1, by omega⟩
theorem right_okM {m : Msg} (h : rightM m = true) : okM m := by
  unfold rightM at h
  rw [Bool.and_eq_true] at h
  obtain ⟨h1, h2⟩ := h
  cases m <;> simp only [Msg.nums, Msg.restOk, List.all_cons, List.all_nil, Bool.and_true, Bool.and_eq_true, List.all_eq_true, decide_eq_true_eq] at h1 h2
  case beat => exact ⟨numM_ok h1.1, numM_ok h1.2.1, numM_ok h1.2.2⟩
  case join => exact ⟨numM_ok h1.1, numM_ok h1.2⟩
  case lease => exact ⟨numM_ok h1.1, numM_ok h1.2⟩
  case view => exact ⟨numM_ok h1, ⟨h2.1.1, fun x hx => numM_ok (h2.1.2 x hx)⟩, ⟨h2.2.1.1, fun x hx => numM_ok (h2.2.1.2 x hx)⟩, ⟨h2.2.2.1, fun x hx => numM_ok (h2.2.2.2 x hx)⟩⟩
  case whr => exact numM_ok h1
  case hav => exact ⟨numM_ok h1.1, numM_ok h1.2.1, numM_ok h1.2.2, h2.1, fun x hx => by
      have := h2.2 x hx
      unfold okM2 at this
      rw [Bool.and_eq_true] at this
      exact ⟨numM_ok this.1, numM_ok this.2⟩⟩
  case logs => exact ⟨numM_ok h1.1, numM_ok h1.2.1, numM_ok h1.2.2.1, numM_ok h1.2.2.2.1, numM_ok h1.2.2.2.2.1, numM_ok h1.2.2.2.2.2, h2⟩
  case ack => exact ⟨numM_ok h1.1, numM_ok h1.2.1, numM_ok h1.2.2⟩
  case ask => exact ⟨numM_ok h1.1, numM_ok h1.2.1, numM_ok h1.2.2.1, numM_ok h1.2.2.2⟩
  case told => exact ⟨numM_ok h1.1, numM_ok h1.2.1, numM_ok h1.2.2.1, numM_ok h1.2.2.2⟩
  case app => exact ⟨numM_ok h1, h2⟩
  case red => exact ⟨numM_ok h1, Nat.le_trans (nameB_size h2.1) (by omega), numM_ok h2.2⟩
  case rep => exact ⟨numM_ok h1.1, numM_ok h1.2.1, numM_ok h1.2.2.1, numM_ok h1.2.2.2.1, numM_ok h1.2.2.2.2.1, numM_ok h1.2.2.2.2.2⟩
  case res => exact ⟨numM_ok h1.1, numM_ok h1.2.1, numM_ok h1.2.2, h2⟩
theorem chain_cod : Cod rdChain (putL putI) (fun l => l.length ≤ 6 ∧ ∀ x ∈ l, okN x) := num_cod.times (by unfold maxNum; omega)
theorem marks_cod : Cod rdMarks (putL putM2) (fun l => l.length ≤ 30 ∧ ∀ x ∈ l, okN x.1 ∧ okN x.2) := (num_cod.seq num_cod).times (by unfold maxNum; omega)
theorem evs_cod : Cod rdEvs (putL (fun v => (putE v).data.toList)) (fun l => l.length ≤ 16 ∧ ∀ x ∈ l, rightE x = true) := event_cod.breaks (by unfold maxNum; omega)
/-- A message of a kind. -/
def okK (k : Nat) (m : Msg) : Prop := m.kind = k ∧ okM m
theorem msg_cod (k : Nat) (h1 : 1 ≤ k) (h2 : k ≤ 14) : Cod (rdMsg k) bytesM (okK k) := by
  have hk : k = 1 ∨ k = 2 ∨ k = 3 ∨ k = 4 ∨ k = 5 ∨ k = 6 ∨ k = 7 ∨ k = 8 ∨ k = 9 ∨ k = 10 ∨ k = 11 ∨ k = 12 ∨ k = 13 ∨ k = 14 := by omega
  rcases hk with rfl | rfl | rfl | rfl | rfl | rfl | rfl | rfl | rfl | rfl | rfl | rfl | rfl | rfl
  · have h := Cod.map (num_cod.seq (num_cod.seq num_cod)) (put2 := bytesM) (ok2 := okK 1) (fun x => Msg.beat x.1 x.2.1 x.2.2) (fun _ => rfl) (fun x => ⟨fun h => h.2, fun h => ⟨rfl, h⟩⟩) (fun y hy => by
      obtain ⟨h1, -⟩ := hy
      cases y <;> first | exact ⟨(_, _, _), rfl⟩ | (exact absurd h1 (by simp [Msg.kind])))
    exact h
  · have h := Cod.map (num_cod.seq num_cod) (put2 := bytesM) (ok2 := okK 2) (fun x => Msg.join x.1 x.2) (fun _ => rfl) (fun x => ⟨fun h => h.2, fun h => ⟨rfl, h⟩⟩) (fun y hy => by
      obtain ⟨h1, -⟩ := hy
      cases y <;> first | exact ⟨(_, _), rfl⟩ | (exact absurd h1 (by simp [Msg.kind])))
    exact h
  · have h := Cod.map (num_cod.seq num_cod) (put2 := bytesM) (ok2 := okK 3) (fun x => Msg.lease x.1 x.2) (fun _ => rfl) (fun x => ⟨fun h => h.2, fun h => ⟨rfl, h⟩⟩) (fun y hy => by
      obtain ⟨h1, -⟩ := hy
      cases y <;> first | exact ⟨(_, _), rfl⟩ | (exact absurd h1 (by simp [Msg.kind])))
    exact h
  · have h := Cod.map (num_cod.seq (chain_cod.seq (chain_cod.seq chain_cod))) (put2 := bytesM) (ok2 := okK 4) (fun x => Msg.view x.1 x.2.1 x.2.2.1 x.2.2.2) (fun _ => rfl) (fun x => ⟨fun h => h.2, fun h => ⟨rfl, h⟩⟩) (fun y hy => by
      obtain ⟨h1, -⟩ := hy
      cases y <;> first | exact ⟨(_, _, _, _), rfl⟩ | (exact absurd h1 (by simp [Msg.kind])))
    exact h
  · have h := Cod.map (num_cod) (put2 := bytesM) (ok2 := okK 5) (fun x => Msg.whr x) (fun _ => rfl) (fun x => ⟨fun h => h.2, fun h => ⟨rfl, h⟩⟩) (fun y hy => by
      obtain ⟨h1, -⟩ := hy
      cases y <;> first | exact ⟨_, rfl⟩ | (exact absurd h1 (by simp [Msg.kind])))
    exact h
  · have h := Cod.map (num_cod.seq (num_cod.seq (num_cod.seq marks_cod))) (put2 := bytesM) (ok2 := okK 6) (fun x => Msg.hav x.1 x.2.1 x.2.2.1 x.2.2.2) (fun _ => rfl) (fun x => ⟨fun h => h.2, fun h => ⟨rfl, h⟩⟩) (fun y hy => by
      obtain ⟨h1, -⟩ := hy
      cases y <;> first | exact ⟨(_, _, _, _), rfl⟩ | (exact absurd h1 (by simp [Msg.kind])))
    exact h
  · have h := Cod.map (num_cod.seq (num_cod.seq (num_cod.seq (num_cod.seq (num_cod.seq (num_cod.seq row_cod)))))) (put2 := bytesM) (ok2 := okK 7) (fun x => Msg.logs x.1 x.2.1 x.2.2.1 x.2.2.2.1 x.2.2.2.2.1 x.2.2.2.2.2.1 x.2.2.2.2.2.2) (fun _ => rfl) (fun x => ⟨fun h => h.2, fun h => ⟨rfl, h⟩⟩) (fun y hy => by
      obtain ⟨h1, -⟩ := hy
      cases y <;> first | exact ⟨(_, _, _, _, _, _, _), rfl⟩ | (exact absurd h1 (by simp [Msg.kind])))
    exact h
  · have h := Cod.map (num_cod.seq (num_cod.seq num_cod)) (put2 := bytesM) (ok2 := okK 8) (fun x => Msg.ack x.1 x.2.1 x.2.2) (fun _ => rfl) (fun x => ⟨fun h => h.2, fun h => ⟨rfl, h⟩⟩) (fun y hy => by
      obtain ⟨h1, -⟩ := hy
      cases y <;> first | exact ⟨(_, _, _), rfl⟩ | (exact absurd h1 (by simp [Msg.kind])))
    exact h
  · have h := Cod.map (num_cod.seq (num_cod.seq (num_cod.seq num_cod))) (put2 := bytesM) (ok2 := okK 9) (fun x => Msg.ask x.1 x.2.1 x.2.2.1 x.2.2.2) (fun _ => rfl) (fun x => ⟨fun h => h.2, fun h => ⟨rfl, h⟩⟩) (fun y hy => by
      obtain ⟨h1, -⟩ := hy
      cases y <;> first | exact ⟨(_, _, _, _), rfl⟩ | (exact absurd h1 (by simp [Msg.kind])))
    exact h
  · have h := Cod.map (num_cod.seq (num_cod.seq (num_cod.seq num_cod))) (put2 := bytesM) (ok2 := okK 10) (fun x => Msg.told x.1 x.2.1 x.2.2.1 x.2.2.2) (fun _ => rfl) (fun x => ⟨fun h => h.2, fun h => ⟨rfl, h⟩⟩) (fun y hy => by
      obtain ⟨h1, -⟩ := hy
      cases y <;> first | exact ⟨(_, _, _, _), rfl⟩ | (exact absurd h1 (by simp [Msg.kind])))
    exact h
  · have h := Cod.map (num_cod.seq batch_cod) (put2 := bytesM) (ok2 := okK 11) (fun x => Msg.app x.1 x.2) (fun _ => rfl) (fun x => ⟨fun h => h.2, fun h => ⟨rfl, h⟩⟩) (fun y hy => by
      obtain ⟨h1, -⟩ := hy
      cases y <;> first | exact ⟨(_, _), rfl⟩ | (exact absurd h1 (by simp [Msg.kind])))
    exact h
  · have h := Cod.map (num_cod.seq (text_cod.seq num_cod)) (put2 := bytesM) (ok2 := okK 12) (fun x => Msg.red x.1 x.2.1 x.2.2) (fun _ => rfl) (fun x => ⟨fun h => h.2, fun h => ⟨rfl, h⟩⟩) (fun y hy => by
      obtain ⟨h1, -⟩ := hy
      cases y <;> first | exact ⟨(_, _, _), rfl⟩ | (exact absurd h1 (by simp [Msg.kind])))
    exact h
  · have h := Cod.map (num_cod.seq (num_cod.seq (num_cod.seq (num_cod.seq (num_cod.seq num_cod))))) (put2 := bytesM) (ok2 := okK 13) (fun x => Msg.rep x.1 x.2.1 x.2.2.1 x.2.2.2.1 x.2.2.2.2.1 x.2.2.2.2.2) (fun _ => rfl) (fun x => ⟨fun h => h.2, fun h => ⟨rfl, h⟩⟩) (fun y hy => by
      obtain ⟨h1, -⟩ := hy
      cases y <;> first | exact ⟨(_, _, _, _, _, _), rfl⟩ | (exact absurd h1 (by simp [Msg.kind])))
    exact h
  · have h := Cod.map (num_cod.seq (num_cod.seq (num_cod.seq evs_cod))) (put2 := bytesM) (ok2 := okK 14) (fun x => Msg.res x.1 x.2.1 x.2.2.1 x.2.2.2) (fun _ => rfl) (fun x => ⟨fun h => h.2, fun h => ⟨rfl, h⟩⟩) (fun y hy => by
      obtain ⟨h1, -⟩ := hy
      cases y <;> first | exact ⟨(_, _, _, _), rfl⟩ | (exact absurd h1 (by simp [Msg.kind])))
    exact h
theorem kind_bd (m : Msg) : 1 ≤ m.kind ∧ m.kind ≤ 14 := by cases m <;> simp [Msg.kind]
theorem kind_nat (m : Msg) : (UInt8.ofNat m.kind).toNat = m.kind := toNat_of (by have := (kind_bd m).2; omega)
theorem putM_list {m : Msg} (h : rightM m = true) : (putM m).data.toList = UInt8.ofNat m.kind :: bytesM m := by
  rw [putM, if_pos h, bstr_list, bodyM_bytes (right_okM h)]
theorem putM_not {m : Msg} (h : rightM m = false) : putM m = ⟨#[]⟩ := by rw [putM, if_neg (by rw [h]; decide)]
theorem bytesM_ne {m : Msg} (h : rightM m = true) : bytesM m ≠ [] := (msg_cod m.kind (kind_bd m).1 (kind_bd m).2).ne m ⟨rfl, right_okM h⟩

theorem takeM_put {m : Msg} (h : rightM m = true) : takeM (putM m).data.toList = (some m, 0) := by
  have hb := kind_bd m
  have hc := (msg_cod m.kind hb.1 hb.2).fwd m [] ⟨rfl, right_okM h⟩
  rw [List.append_nil] at hc
  rw [putM_list h, takeM, kind_nat, if_neg (by omega), hc]
  simp [h]
theorem takeM_more {m : Msg} (h : rightM m = true) (x : UInt8) : takeM ((putM m).data.toList ++ [x]) = (none, 2) := by
  have hb := kind_bd m
  have hc := (msg_cod m.kind hb.1 hb.2).fwd m [x] ⟨rfl, right_okM h⟩
  rw [putM_list h, List.cons_append, takeM, kind_nat, if_neg (by omega), hc]
  simp
theorem takeM_less {m : Msg} (h : rightM m = true) : takeM (putM m).data.toList.dropLast = (none, 3) := by
  have hb := kind_bd m
  have hc := (msg_cod m.kind hb.1 hb.2).short m ⟨rfl, right_okM h⟩
  rw [putM_list h, List.dropLast_cons_of_ne_nil (bytesM_ne h), takeM, kind_nat, if_neg (by omega), if_pos (by rw [hc]; decide), hc]
theorem takeM_none : ∀ (l : List UInt8) {x : Option Msg} {e : Nat}, takeM l = (x, e) → e ≠ 0 → x = none
  | [], x, e, h, _ => by simp only [takeM, Prod.mk.injEq] at h; exact h.1.symm
  | c :: l, x, e, h, he => by
    rw [takeM] at h
    split at h
    · simp only [Prod.mk.injEq] at h; exact h.1.symm
    · split at h
      · simp only [Prod.mk.injEq] at h; exact h.1.symm
      · split at h
        · simp only [Prod.mk.injEq] at h; exact h.1.symm
        · simp only [Prod.mk.injEq] at h; exact absurd h.2.symm he
theorem takeM_ok : ∀ (l : List UInt8) {x : Option Msg}, takeM l = (x, 0) → ∃ m, x = some m ∧ rightM m = true ∧ l = (putM m).data.toList ∧ ∃ c t, l = c :: t ∧ c.toNat = m.kind
  | [], x, h => by simp [takeM] at h
  | c :: l, x, h => by
    rw [takeM] at h
    by_cases h1 : c.toNat < 1 ∨ 14 < c.toNat
    · rw [if_pos h1] at h; simp at h
    · rw [if_neg h1] at h
      by_cases h2 : (rdMsg c.toNat l 0).2.2 = 0
      · rw [if_neg (by simpa using h2)] at h
        by_cases h3 : (rdMsg c.toNat l 0).2.1 ≠ [] ∨ rightM (rdMsg c.toNat l 0).1 = false
        · rw [if_pos h3] at h; simp at h
        · rw [if_neg h3] at h
          simp only [Prod.mk.injEq, and_true] at h
          obtain ⟨-, h4, h5, -⟩ := (msg_cod c.toNat (by omega) (by omega)).back l 0 h2
          have hr : rightM (rdMsg c.toNat l 0).1 = true := by
            cases e : rightM (rdMsg c.toNat l 0).1
            · exact absurd (.inr e) h3
            · rfl
          have hn : (rdMsg c.toNat l 0).2.1 = [] := Classical.byContradiction fun e => h3 (.inl e)
          refine ⟨_, h.symm, hr, ?_, c, l, rfl, h5.symm⟩
          rw [putM_list hr, h5]
          rw [hn, List.append_nil] at h4
          rw [← h4]
          congr 1
          exact UInt8.toNat_inj.1 (by rw [toNat_of c.toNat_lt])
      · rw [if_pos h2] at h
        simp only [Prod.mk.injEq] at h
        exact absurd h.2 h2
end Go.Proofs.YtflojipkgaocnaaGreatDoor
