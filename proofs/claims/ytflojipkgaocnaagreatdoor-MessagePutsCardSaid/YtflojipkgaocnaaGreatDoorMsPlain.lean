/-
  Entries, rows of entries and messages, plainly: their bytes, how they are read, and that each undoes the other.
-/
import Derived.Test.YtflojipkgaocnaaGreatDoorEvBack2
namespace Go.Proofs.YtflojipkgaocnaaGreatDoor
open Go.RowKit
set_option linter.unusedVariables false

/-! ### a reader, and what it reads -/
structure Cod {α : Type} (rd : List UInt8 → Nat → α × List UInt8 × Nat) (put : α → List UInt8) (ok : α → Prop) : Prop where
  back : ∀ l e, (rd l e).2.2 = 0 → e = 0 ∧ l = put (rd l e).1 ++ (rd l e).2.1 ∧ ok (rd l e).1
  fwd : ∀ x m, ok x → rd (put x ++ m) 0 = (x, m, 0)
  short : ∀ x, ok x → (rd (put x).dropLast 0).2.2 = 3
  ne : ∀ x, ok x → put x ≠ []
section
variable {α β : Type} {rd : List UInt8 → Nat → α × List UInt8 × Nat} {put : α → List UInt8} {ok : α → Prop} {rd2 : List UInt8 → Nat → β × List UInt8 × Nat} {put2 : β → List UInt8} {ok2 : β → Prop}
def rdSeq (rd : List UInt8 → Nat → α × List UInt8 × Nat) (rd2 : List UInt8 → Nat → β × List UInt8 × Nat) (l : List UInt8) (e : Nat) : (α × β) × List UInt8 × Nat :=
  (((rd l e).1, (rd2 (rd l e).2.1 (rd l e).2.2).1), (rd2 (rd l e).2.1 (rd l e).2.2).2)
theorem Cod.seq (h : Cod rd put ok) (h2 : Cod rd2 put2 ok2) : Cod (rdSeq rd rd2) (fun x => put x.1 ++ put2 x.2) (fun x => ok x.1 ∧ ok2 x.2) where
  back l e he := by
    unfold rdSeq at he ⊢
    simp only at he ⊢
    obtain ⟨h3, h4, h5⟩ := h2.back _ _ he
    obtain ⟨h6, h7, h8⟩ := h.back _ _ h3
    refine ⟨h6, ?_, h8, h5⟩
    rw [List.append_assoc, ← h4]
    exact h7
  fwd x m hx := by
    unfold rdSeq
    rw [List.append_assoc, h.fwd _ _ hx.1]
    simp only
    rw [h2.fwd _ _ hx.2]
  short x hx := by
    unfold rdSeq
    rw [List.dropLast_append_of_ne_nil (h2.ne _ hx.2), h.fwd _ _ hx.1]
    exact h2.short _ hx.2
  ne x hx e := h.ne _ hx.1 (List.append_eq_nil_iff.1 e).1
/-- The same, under other names. -/
def rdMap (f : α → β) (rd : List UInt8 → Nat → α × List UInt8 × Nat) (l : List UInt8) (e : Nat) : β × List UInt8 × Nat := (f (rd l e).1, (rd l e).2)
theorem Cod.map (h : Cod rd put ok) (f : α → β) (hp : ∀ x, put2 (f x) = put x) (ho : ∀ x, ok2 (f x) ↔ ok x) (hs : ∀ y, ok2 y → ∃ x, f x = y) : Cod (rdMap f rd) put2 ok2 where
  back l e he := by
    obtain ⟨h3, h4, h5⟩ := h.back l e he
    refine ⟨h3, ?_, (ho _).2 h5⟩
    show l = put2 (f _) ++ _
    rw [hp]
    exact h4
  fwd y m hy := by
    obtain ⟨x, rfl⟩ := hs y hy
    unfold rdMap
    rw [hp, h.fwd x m ((ho x).1 hy)]
  short y hy := by
    obtain ⟨x, rfl⟩ := hs y hy
    unfold rdMap
    rw [hp]
    exact h.short x ((ho x).1 hy)
  ne y hy := by
    obtain ⟨x, rfl⟩ := hs y hy
    rw [hp]
    exact h.ne x ((ho x).1 hy)

/-! ### some, one behind the other -/
def rdTimes (rd : List UInt8 → Nat → α × List UInt8 × Nat) : Nat → List UInt8 → Nat → List α × List UInt8 × Nat
  | 0, l, e => ([], l, e)
  | k + 1, l, e => ((rd l e).1 :: (rdTimes rd k (rd l e).2.1 (rd l e).2.2).1, (rdTimes rd k (rd l e).2.1 (rd l e).2.2).2)
def rdBreak (rd : List UInt8 → Nat → α × List UInt8 × Nat) : Nat → List UInt8 → Nat → List α × List UInt8 × Nat
  | 0, l, e => ([], l, e)
  | k + 1, l, e => if e ≠ 0 then ([], l, e) else ((rd l e).1 :: (rdBreak rd k (rd l e).2.1 (rd l e).2.2).1, (rdBreak rd k (rd l e).2.1 (rd l e).2.2).2)
def catL (put : α → List UInt8) (l : List α) : List UInt8 := l.flatMap put
theorem catL_cons (x : α) (l : List α) : catL put (x :: l) = put x ++ catL put l := by simp [catL]
theorem catL_ne (hne : ∀ x, ok x → put x ≠ []) {l : List α} (h : l ≠ []) (ho : ∀ x ∈ l, ok x) : catL put l ≠ [] := by
  cases l with
  | nil => exact absurd rfl h
  | cons x l =>
    rw [catL_cons]
    intro e
    exact hne x (ho x (List.mem_cons_self ..)) (List.append_eq_nil_iff.1 e).1
theorem Cod.times_back (h : Cod rd put ok) : ∀ (k : Nat) (l : List UInt8) (e : Nat), (rdTimes rd k l e).2.2 = 0 → e = 0 ∧ (rdTimes rd k l e).1.length = k ∧ l = catL put (rdTimes rd k l e).1 ++ (rdTimes rd k l e).2.1 ∧ ∀ x ∈ (rdTimes rd k l e).1, ok x
  | 0, l, e, he => ⟨he, rfl, rfl, fun x hx => by simp [rdTimes] at hx⟩
  | k + 1, l, e, he => by
    rw [rdTimes] at he ⊢
    simp only at he ⊢
    obtain ⟨h1, h2, h3, h4⟩ := h.times_back k _ _ he
    obtain ⟨h5, h6, h7⟩ := h.back _ _ h1
    refine ⟨h5, by rw [List.length_cons, h2], ?_, fun x hx => ?_⟩
    · rw [catL_cons, List.append_assoc, ← h3]
      exact h6
    · rcases List.mem_cons.1 hx with rfl | hx
      · exact h7
      · exact h4 x hx
theorem Cod.times_fwd (h : Cod rd put ok) : ∀ (l : List α) (m : List UInt8), (∀ x ∈ l, ok x) → rdTimes rd l.length (catL put l ++ m) 0 = (l, m, 0)
  | [], m, _ => rfl
  | x :: l, m, ho => by
    rw [List.length_cons, rdTimes, catL_cons, List.append_assoc, h.fwd x _ (ho x (List.mem_cons_self ..))]
    simp only
    rw [h.times_fwd l m (fun y hy => ho y (List.mem_cons_of_mem _ hy))]
theorem Cod.times_short (h : Cod rd put ok) : ∀ (l : List α), l ≠ [] → (∀ x ∈ l, ok x) → (rdTimes rd l.length (catL put l).dropLast 0).2.2 = 3
  | [], h0, _ => absurd rfl h0
  | [x], _, ho => by
    rw [show (catL put [x]).dropLast = (put x).dropLast by rw [catL_cons]; simp [catL]]
    rw [show [x].length = 0 + 1 from rfl, rdTimes]
    simp only [rdTimes]
    exact h.short x (ho x (List.mem_cons_self ..))
  | x :: y :: l, _, ho => by
    rw [catL_cons, List.dropLast_append_of_ne_nil (catL_ne h.ne (by simp) (fun z hz => ho z (List.mem_cons_of_mem _ hz))), List.length_cons, rdTimes, h.fwd x _ (ho x (List.mem_cons_self ..))]
    simp only
    exact h.times_short (y :: l) (by simp) (fun z hz => ho z (List.mem_cons_of_mem _ hz))
theorem Cod.break_back (h : Cod rd put ok) : ∀ (k : Nat) (l : List UInt8) (e : Nat), (rdBreak rd k l e).2.2 = 0 → e = 0 ∧ (rdBreak rd k l e).1.length = k ∧ l = catL put (rdBreak rd k l e).1 ++ (rdBreak rd k l e).2.1 ∧ ∀ x ∈ (rdBreak rd k l e).1, ok x
  | 0, l, e, he => ⟨he, rfl, rfl, fun x hx => by simp [rdBreak] at hx⟩
  | k + 1, l, e, he => by
    rw [rdBreak] at he ⊢
    by_cases h0 : e = 0
    · rw [if_neg (by simpa using h0)] at he ⊢
      simp only at he ⊢
      obtain ⟨h1, h2, h3, h4⟩ := h.break_back k _ _ he
      obtain ⟨h5, h6, h7⟩ := h.back _ _ h1
      refine ⟨h5, by rw [List.length_cons, h2], ?_, fun x hx => ?_⟩
      · rw [catL_cons, List.append_assoc, ← h3]
        exact h6
      · rcases List.mem_cons.1 hx with rfl | hx
        · exact h7
        · exact h4 x hx
    · rw [if_pos h0] at he
      exact absurd he h0
theorem Cod.break_fwd (h : Cod rd put ok) : ∀ (l : List α) (m : List UInt8), (∀ x ∈ l, ok x) → rdBreak rd l.length (catL put l ++ m) 0 = (l, m, 0)
  | [], m, _ => rfl
  | x :: l, m, ho => by
    rw [List.length_cons, rdBreak, if_neg (by simp), catL_cons, List.append_assoc, h.fwd x _ (ho x (List.mem_cons_self ..))]
    simp only
    rw [h.break_fwd l m (fun y hy => ho y (List.mem_cons_of_mem _ hy))]
theorem Cod.break_short (h : Cod rd put ok) : ∀ (l : List α), l ≠ [] → (∀ x ∈ l, ok x) → (rdBreak rd l.length (catL put l).dropLast 0).2.2 = 3
  | [], h0, _ => absurd rfl h0
  | [x], _, ho => by
    rw [show (catL put [x]).dropLast = (put x).dropLast by rw [catL_cons]; simp [catL]]
    rw [show [x].length = 0 + 1 from rfl, rdBreak, if_neg (by simp)]
    simp only [rdBreak]
    exact h.short x (ho x (List.mem_cons_self ..))
  | x :: y :: l, _, ho => by
    rw [catL_cons, List.dropLast_append_of_ne_nil (catL_ne h.ne (by simp) (fun z hz => ho z (List.mem_cons_of_mem _ hz))), List.length_cons, rdBreak, if_neg (by simp), h.fwd x _ (ho x (List.mem_cons_self ..))]
    simp only
    exact h.break_short (y :: l) (by simp) (fun z hz => ho z (List.mem_cons_of_mem _ hz))
/-- How many there are, at most so many. -/
def rdMany (most : Nat) (l : List UInt8) (e : Nat) : Nat × List UInt8 × Nat :=
  if (rdNum l e).2.2 ≠ 0 then (0, (rdNum l e).2) else if most < (rdNum l e).1 then (0, (rdNum l e).2.1, 4) else rdNum l e
def rdList (go : Nat → List UInt8 → Nat → List α × List UInt8 × Nat) (most : Nat) (l : List UInt8) (e : Nat) : List α × List UInt8 × Nat :=
  go (rdMany most l e).1 (rdMany most l e).2.1 (rdMany most l e).2.2
def putL (put : α → List UInt8) (l : List α) : List UInt8 := putN (clampN l.length) ++ catL put l
theorem rdMany_ok {most : Nat} {l : List UInt8} {e : Nat} (h : (rdMany most l e).2.2 = 0) : e = 0 ∧ l = putN (rdMany most l e).1 ++ (rdMany most l e).2.1 ∧ (rdMany most l e).1 ≤ most ∧ (rdMany most l e).1 ≤ maxNum := by
  unfold rdMany at h ⊢
  by_cases h1 : (rdNum l e).2.2 = 0
  · rw [if_neg (by simpa using h1)] at h ⊢
    by_cases h2 : most < (rdNum l e).1
    · rw [if_pos h2] at h; simp at h
    · rw [if_neg h2] at h ⊢
      obtain ⟨h3, h4, h5⟩ := rdNum_ok h
      exact ⟨h3, h4, by omega, h5⟩
  · rw [if_pos h1] at h
    exact absurd h h1
theorem rdMany_put {most n : Nat} {m : List UInt8} (h : n ≤ most) (hm : n ≤ maxNum) : rdMany most (putN n ++ m) 0 = (n, m, 0) := by
  unfold rdMany
  rw [rdNum_put hm, if_neg (by simp), if_neg (by simp only; omega)]
theorem num_short (n : Nat) (hn : n ≤ maxNum) : (rdNum (putN n).dropLast 0).2.2 = 3 := by
  rw [rdNum, if_neg (by simp), List.dropLast_eq_take, takeN_short hn (by have := putN_pos n; omega)]
theorem rdMany_short {most n : Nat} (hm : n ≤ maxNum) : rdMany most (putN n).dropLast 0 = (0, (rdNum (putN n).dropLast 0).2.1, 3) := by
  have h := num_short n hm
  unfold rdMany
  rw [if_pos (by rw [h]; decide)]
  exact Prod.ext rfl (Prod.ext rfl h)
theorem list_cod {go : Nat → List UInt8 → Nat → List α × List UInt8 × Nat} (h0 : ∀ l e, go 0 l e = ([], l, e))
    (hb : ∀ (k : Nat) (l : List UInt8) (e : Nat), (go k l e).2.2 = 0 → e = 0 ∧ (go k l e).1.length = k ∧ l = catL put (go k l e).1 ++ (go k l e).2.1 ∧ ∀ x ∈ (go k l e).1, ok x)
    (hf : ∀ (l : List α) (m : List UInt8), (∀ x ∈ l, ok x) → go l.length (catL put l ++ m) 0 = (l, m, 0))
    (hs : ∀ (l : List α), l ≠ [] → (∀ x ∈ l, ok x) → (go l.length (catL put l).dropLast 0).2.2 = 3) (hne : ∀ x, ok x → put x ≠ []) {most : Nat} (hm : most ≤ maxNum) :
    Cod (rdList go most) (putL put) (fun l => l.length ≤ most ∧ ∀ x ∈ l, ok x) where
  back l e he := by
    unfold rdList at he ⊢
    obtain ⟨h1, h2, h3, h4⟩ := hb _ _ _ he
    obtain ⟨h5, h6, h7, h8⟩ := rdMany_ok h1
    refine ⟨h5, ?_, by omega, h4⟩
    unfold putL
    rw [h2, clampN_len h8, List.append_assoc, ← h3]
    exact h6
  fwd x m hx := by
    unfold rdList putL
    rw [clampN_len (by omega), List.append_assoc, rdMany_put hx.1 (by omega)]
    exact hf x m hx.2
  short x hx := by
    unfold rdList putL
    rw [clampN_len (by omega)]
    by_cases hn : x = []
    · subst hn
      rw [show catL put ([] : List α) = [] from rfl, List.append_nil, rdMany_short (by simp)]
      simp only
      rw [h0]
    · rw [List.dropLast_append_of_ne_nil (catL_ne hne hn hx.2), rdMany_put hx.1 (by omega)]
      exact hs x hn hx.2
  ne x hx e := by
    have h1 := putN_pos (clampN x.length)
    rw [(List.append_eq_nil_iff.1 e).1] at h1
    simp at h1
theorem Cod.times (h : Cod rd put ok) {most : Nat} (hm : most ≤ maxNum) : Cod (rdList (rdTimes rd) most) (putL put) (fun l => l.length ≤ most ∧ ∀ x ∈ l, ok x) :=
  list_cod (fun _ _ => rfl) h.times_back h.times_fwd h.times_short h.ne hm
theorem Cod.breaks (h : Cod rd put ok) {most : Nat} (hm : most ≤ maxNum) : Cod (rdList (rdBreak rd) most) (putL put) (fun l => l.length ≤ most ∧ ∀ x ∈ l, ok x) :=
  list_cod (fun _ _ => rfl) h.break_back h.break_fwd h.break_short h.ne hm
/-- A reader that stops at an error. -/
def rdIf (z : α) (take : List UInt8 → α × List UInt8 × Nat) (l : List UInt8) (e : Nat) : α × List UInt8 × Nat := if e ≠ 0 then (z, l, e) else take l
theorem if_cod {z : α} {take : List UInt8 → α × List UInt8 × Nat} (hb : ∀ l, (take l).2.2 = 0 → l = put (take l).1 ++ (take l).2.1 ∧ ok (take l).1) (hf : ∀ x m, ok x → take (put x ++ m) = (x, m, 0))
    (hs : ∀ x, ok x → (take (put x).dropLast).2.2 = 3) (hne : ∀ x, ok x → put x ≠ []) : Cod (rdIf z take) put ok where
  back l e he := by
    unfold rdIf at he ⊢
    by_cases h0 : e = 0
    · rw [if_neg (by simpa using h0)] at he ⊢
      exact ⟨h0, hb l he⟩
    · rw [if_pos h0] at he
      exact absurd he h0
  fwd x m hx := by rw [rdIf, if_neg (by simp), hf x m hx]
  short x hx := by rw [rdIf, if_neg (by simp), hs x hx]
  ne := hne
end

/-! ### numbers, texts, events, batches -/
def putI (n : Int) : List UInt8 := putN (clampN n)
def okN (n : Int) : Prop := 0 ≤ n ∧ n ≤ 1099511627776
def rdI (l : List UInt8) (e : Nat) : Int × List UInt8 × Nat := ((rdNum l e).1, (rdNum l e).2)
theorem clampN_ok {n : Int} (h : okN n) : (clampN n : Int) = n := by obtain ⟨h1, h2⟩ := h; unfold clampN clampI; omega
theorem putI_ne (n : Int) : putI n ≠ [] := by
  intro e
  have h := putN_pos (clampN n)
  unfold putI at e
  rw [e] at h
  simp at h
theorem num_cod : Cod rdI putI okN where
  back l e he := by
    obtain ⟨h1, h2, h3⟩ := rdNum_ok (l := l) (e := e) he
    refine ⟨h1, ?_, ?_⟩
    · show l = putN (clampN ((rdNum l e).1 : Int)) ++ _
      rw [clampN_of h3]
      exact h2
    · unfold maxNum at h3
      constructor
      · show (0 : Int) ≤ ((rdNum l e).1 : Int); omega
      · show ((rdNum l e).1 : Int) ≤ 1099511627776; omega
  fwd x m hx := by
    unfold rdI putI
    rw [rdNum_put (clampN_le x)]
    exact Prod.ext (clampN_ok hx) rfl
  short x hx := num_short _ (clampN_le x)
  ne x _ := putI_ne x
def okT (s : ByteArray) : Prop := s.size ≤ 200
def rdT (l : List UInt8) (e : Nat) : ByteArray × List UInt8 × Nat := (bstr (rdName l e).1, (rdName l e).2)
theorem text_cod : Cod rdT (fun s => putT s.data.toList) okT where
  back l e he := by
    obtain ⟨h1, h2, h3⟩ := rdName_ok (l := l) (e := e) he
    refine ⟨h1, ?_, ?_⟩
    · show l = putT (bstr (rdName l e).1).data.toList ++ _
      rw [bstr_list]
      exact h2
    · show (bstr _).size ≤ 200
      rw [bstr_size]
      exact h3
  fwd x m hx := by
    unfold rdT
    rw [rdName_put (by rw [size_listE]; exact hx)]
    rfl
  short x hx := by
    show (rdName _ 0).2.2 = 3
    rw [rdName, if_neg (by simp)]
    exact takeT_short (by rw [size_listE]; exact hx)
  ne x _ := putT_ne _
def zeroE : EV := ⟨⟨#[]⟩, ⟨#[]⟩⟩
theorem pe_ne {v : EV} (h : rightE v = true) : (putE v).data.toList ≠ [] := by
  rw [putE, if_pos h]
  exact bytesE_ne v
theorem pb_ne {b : BW} (h : fitsB b = 0) : (putB b).data.toList ≠ [] := by
  rw [putB_list h]
  have h5 := (wrong_not (fits0' h).1).2.2.2.2.2
  intro e
  exact bodyL_ne (l := b.events) (by intro e; rw [e] at h5; simp at h5) (List.append_eq_nil_iff.1 e).2
theorem event_cod : Cod (rdIf zeroE takeE) (fun v => (putE v).data.toList) (fun v => rightE v = true) :=
  if_cod (fun l h => by
      obtain ⟨h1, h2⟩ := takeE_ok (l := l) (v := (takeE l).1) (r := (takeE l).2.1) (by rw [← h])
      exact ⟨h2, h1⟩)
    (fun x m h => takeE_put h m) (fun x h => takeE_short h) (fun x h => pe_ne h)
theorem batch_cod : Cod (rdIf zeroB takeB) (fun b => (putB b).data.toList) (fun b => fitsB b = 0) :=
  if_cod (fun l h => by
      obtain ⟨h1, h2⟩ := takeB_ok (l := l) (b := (takeB l).1) (r := (takeB l).2.1) (by rw [← h])
      exact ⟨h2, h1⟩)
    (fun x m h => takeB_put h m) (fun x h => takeB_short h) (fun x h => pb_ne h)

/-! ### entries -/
structure EN where
  pos : Int
  epoch : Int
  b : BW
def zeroEN : EN := ⟨0, 0, zeroB⟩
def rightR (e : EN) : Bool := numB e.pos && (numB e.epoch && decide (fitsB e.b = 0))
def bytesR (e : EN) : List UInt8 := putI e.pos ++ (putI e.epoch ++ (putB e.b).data.toList)
def putR (e : EN) : ByteArray := if rightR e = true then bstr (bytesR e) else ⟨#[]⟩
def putRow (l : List EN) : ByteArray := if l.any (fun e => !rightR e) = true then ⟨#[]⟩ else bstr (putL bytesR l)
/-- What is read of an entry, right or not. -/
def rawR (l : List UInt8) : EN × List UInt8 × Nat :=
  (⟨(rdNum l 0).1, (rdNum (rdNum l 0).2.1 (rdNum l 0).2.2).1, (rdIf zeroB takeB (rdNum (rdNum l 0).2.1 (rdNum l 0).2.2).2.1 (rdNum (rdNum l 0).2.1 (rdNum l 0).2.2).2.2).1⟩,
    (rdIf zeroB takeB (rdNum (rdNum l 0).2.1 (rdNum l 0).2.2).2.1 (rdNum (rdNum l 0).2.1 (rdNum l 0).2.2).2.2).2)
def takeR (l : List UInt8) : EN × List UInt8 × Nat :=
  if (rawR l).2.2 ≠ 0 then (zeroEN, [], (rawR l).2.2) else if rightR (rawR l).1 = false then (zeroEN, [], 2) else rawR l
theorem rightR_iff (e : EN) : rightR e = true ↔ (1 ≤ e.pos ∧ e.pos ≤ 274877906944) ∧ (1 ≤ e.epoch ∧ e.epoch ≤ 274877906944) ∧ fitsB e.b = 0 := by
  simp [rightR, numB]
theorem raw_cod : Cod (rdSeq rdI (rdSeq rdI (rdIf zeroB takeB))) (fun x => putI x.1 ++ (putI x.2.1 ++ (putB x.2.2).data.toList)) (fun x => okN x.1 ∧ okN x.2.1 ∧ fitsB x.2.2 = 0) :=
  num_cod.seq (num_cod.seq batch_cod)
theorem rawR_seq (l : List UInt8) : rawR l = ((⟨(rdSeq rdI (rdSeq rdI (rdIf zeroB takeB)) l 0).1.1, (rdSeq rdI (rdSeq rdI (rdIf zeroB takeB)) l 0).1.2.1, (rdSeq rdI (rdSeq rdI (rdIf zeroB takeB)) l 0).1.2.2⟩ : EN), (rdSeq rdI (rdSeq rdI (rdIf zeroB takeB)) l 0).2) := rfl
theorem rightR_ok {e : EN} (h : rightR e = true) : okN e.pos ∧ okN e.epoch ∧ fitsB e.b = 0 := by
  obtain ⟨h1, h2, h3⟩ := (rightR_iff e).1 h
  exact ⟨⟨by omega, by omega⟩, ⟨by omega, by omega⟩, h3⟩
theorem entry_cod : Cod (rdIf zeroEN takeR) bytesR (fun e => rightR e = true) :=
  if_cod (fun l h => by
      unfold takeR at h ⊢
      by_cases h0 : (rawR l).2.2 = 0
      · rw [if_neg (by simpa using h0)] at h ⊢
        by_cases h1 : rightR (rawR l).1 = false
        · rw [if_pos h1] at h; simp at h
        · rw [if_neg h1] at h ⊢
          refine ⟨?_, by simpa using h1⟩
          rw [rawR_seq] at h0 ⊢
          exact (raw_cod.back l 0 h0).2.1
      · rw [if_pos h0] at h
        exact absurd h h0)
    (fun x m h => by
      have e1 := raw_cod.fwd (x.pos, x.epoch, x.b) m (rightR_ok h)
      have e2 : rawR (bytesR x ++ m) = (x, m, 0) := by
        rw [rawR_seq]
        unfold bytesR
        simp only at e1
        rw [e1]
      unfold takeR
      rw [e2]
      simp only
      rw [h]
      simp)
    (fun x h => by
      have e1 := raw_cod.short (x.pos, x.epoch, x.b) (rightR_ok h)
      have e2 : (rawR (bytesR x).dropLast).2.2 = 3 := by
        rw [rawR_seq]
        exact e1
      unfold takeR
      rw [e2]
      simp)
    (fun x _ e => putI_ne _ (List.append_eq_nil_iff.1 e).1)
/-- A row of entries, off the front. -/
def takeRow (l : List UInt8) (most : Nat) : List EN × List UInt8 × Nat :=
  if (rdList (rdBreak (rdIf zeroEN takeR)) most l 0).2.2 ≠ 0 then ([], [], (rdList (rdBreak (rdIf zeroEN takeR)) most l 0).2.2) else rdList (rdBreak (rdIf zeroEN takeR)) most l 0
theorem row_cod : Cod (rdIf [] (fun l => takeRow l 8)) (putL bytesR) (fun l => l.length ≤ 8 ∧ ∀ x ∈ l, rightR x = true) := by
  have hc := entry_cod.breaks (most := 8) (by unfold maxNum; omega)
  refine if_cod (fun l h => ?_) (fun x m h => ?_) (fun x h => ?_) hc.ne
  · unfold takeRow at h ⊢
    by_cases h0 : (rdList (rdBreak (rdIf zeroEN takeR)) 8 l 0).2.2 = 0
    · rw [if_neg (by simpa using h0)]
      exact (hc.back l 0 h0).2
    · rw [if_pos h0] at h
      exact absurd h h0
  · show takeRow _ _ = _
    unfold takeRow
    rw [hc.fwd x m h]
    simp
  · show (takeRow _ _).2.2 = 3
    unfold takeRow
    rw [if_pos (by rw [hc.short x h]; decide)]
    exact hc.short x h
end Go.Proofs.YtflojipkgaocnaaGreatDoor
