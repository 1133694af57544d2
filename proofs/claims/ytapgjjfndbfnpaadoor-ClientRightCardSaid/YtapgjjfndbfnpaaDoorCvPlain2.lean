/-
  Views, plainly: which are right, by lists; what they are with and without a node.
-/
import Derived.Test.YtapgjjfndbfnpaaDoorCvPlain
namespace Go.Proofs.YtapgjjfndbfnpaaDoor.Vw

/-! the same, by lists -/
structure RightL (V : VW) : Prop where
  e1 : 1 ≤ V.epoch
  e2 : V.epoch ≤ 274877906944
  n1 : 1 ≤ V.chain.length
  n2 : V.chain.length ≤ 6
  s : V.since.length = V.chain.length
  b : V.boot.length = V.chain.length
  nd : V.chain.Nodup
  cr : ∀ x ∈ V.chain, 1 ≤ x ∧ x ≤ 100
  so : V.since.Pairwise (· ≤ ·)
  sr : ∀ x ∈ V.since, 1 ≤ x ∧ x ≤ V.epoch
  br : ∀ x ∈ V.boot, 0 ≤ x ∧ x ≤ 274877906944

theorem getD_lt {l : List Int} {i : Nat} (h : i < l.length) : l.getD i 0 = l[i] := by simp [h]

theorem prevI_succ (l : List Int) (i : Nat) : prevI l (i + 1) = l.getD i 0 := by
  unfold prevI atI
  rw [if_neg (by omega)]
  congr 1
  omega

theorem RightV.list {V : VW} (h : RightV V) : RightL V where
  e1 := h.e1
  e2 := h.e2
  n1 := h.n1
  n2 := h.n2
  s := h.s
  b := h.b
  nd := by
    rw [List.nodup_iff_pairwise_ne, List.pairwise_iff_getElem]
    intro i j hi hj hij e
    have := (h.ok j hj).2.2.1
    rw [getD_lt hj] at this
    exact this (e ▸ List.mem_take_iff_getElem.2 ⟨i, by omega, rfl⟩)
  cr := by
    intro x hx
    obtain ⟨i, hi, rfl⟩ := List.getElem_of_mem hx
    have := h.ok i hi
    unfold OkAt at this
    rw [getD_lt hi] at this
    exact ⟨this.1, this.2.1⟩
  so := by
    rw [List.pairwise_iff_getElem]
    have step : ∀ k, k + 1 < V.since.length → V.since.getD k 0 ≤ V.since.getD (k + 1) 0 := by
      intro k hk
      have := (h.ok (k + 1) (by rw [← h.s]; exact hk)).2.2.2.1
      rwa [prevI_succ] at this
    have all : ∀ d i, i + d < V.since.length → V.since.getD i 0 ≤ V.since.getD (i + d) 0 := by
      intro d
      induction d with
      | zero => intro i _; exact Int.le_refl _
      | succ d ih =>
        intro i hi
        exact Int.le_trans (ih i (by omega)) (step (i + d) (by omega))
    intro i j hi hj hij
    have := all (j - i) i (by omega)
    rw [show i + (j - i) = j by omega, getD_lt hi, getD_lt hj] at this
    exact this
  sr := by
    intro x hx
    obtain ⟨i, hi, rfl⟩ := List.getElem_of_mem hx
    have := h.ok i (by rw [← h.s]; exact hi)
    unfold OkAt at this
    rw [getD_lt (l := V.since) hi] at this
    exact ⟨this.2.2.2.2.1, this.2.2.2.2.2.1⟩
  br := by
    intro x hx
    obtain ⟨i, hi, rfl⟩ := List.getElem_of_mem hx
    have := h.ok i (by rw [← h.b]; exact hi)
    unfold OkAt at this
    rw [getD_lt (l := V.boot) hi] at this
    exact ⟨this.2.2.2.2.2.2.1, this.2.2.2.2.2.2.2⟩

theorem RightL.right {V : VW} (h : RightL V) : RightV V where
  e1 := h.e1
  e2 := h.e2
  n1 := h.n1
  n2 := h.n2
  s := h.s
  b := h.b
  ok := by
    intro i hi
    have hs : i < V.since.length := by rw [h.s]; exact hi
    have hb : i < V.boot.length := by rw [h.b]; exact hi
    unfold OkAt
    rw [getD_lt hi, getD_lt hs, getD_lt hb]
    have c := h.cr _ (List.getElem_mem hi)
    have s := h.sr _ (List.getElem_mem hs)
    have b := h.br _ (List.getElem_mem hb)
    refine ⟨c.1, c.2, ?_, ?_, s.1, s.2, b.1, b.2⟩
    · intro hm
      obtain ⟨j, hj, e⟩ := List.mem_take_iff_getElem.1 hm
      have nd := h.nd
      rw [List.nodup_iff_pairwise_ne, List.pairwise_iff_getElem] at nd
      exact nd j i (by omega) hi (by omega) e
    · cases i with
      | zero =>
        have : prevI V.since 0 = 0 := by unfold prevI atI; rw [if_pos (by omega)]
        rw [this]
        omega
      | succ i =>
        rw [prevI_succ, getD_lt (by omega)]
        have so := h.so
        rw [List.pairwise_iff_getElem] at so
        exact so i (i + 1) (by omega) hs (by omega)

theorem right_iff (V : VW) : RightV V ↔ RightL V := ⟨RightV.list, RightL.right⟩

theorem idxI_at {l : List Int} (hn : l.Nodup) {i : Nat} (hi : i < l.length) : idxI l l[i] = i := by
  rw [idxI, if_pos (List.getElem_mem hi)]
  have h1 : l.idxOf l[i] < l.length := List.idxOf_lt_length_iff.2 (List.getElem_mem hi)
  have h2 : l[l.idxOf l[i]] = l[i] := List.getElem_idxOf h1
  rw [List.nodup_iff_pairwise_ne, List.pairwise_iff_getElem] at hn
  rcases Nat.lt_trichotomy (l.idxOf l[i]) i with h3 | h3 | h3
  · exact absurd h2 (hn _ _ h1 hi h3)
  · rw [h3]
  · exact absurd h2.symm (hn _ _ hi h1 h3)

theorem placeV_at {V : VW} (h : RightV V) {i : Nat} (hi : i < V.chain.length) : placeV V V.chain[i] = i := by
  rw [placeV, if_pos (rightB_of h), idxI_at h.list.nd hi]

theorem placeV_no {V : VW} {x : Int} (hx : x ∉ V.chain) : placeV V x = -1 := by
  rw [placeV]
  split
  · rw [idxI, if_neg hx]
  · rfl

theorem placeV_lt {V : VW} {x : Int} (h : 0 ≤ placeV V x) : RightV V ∧ ∃ i, ∃ hi : i < V.chain.length, placeV V x = i ∧ V.chain[i] = x := by
  rcases placeV_spec V x with ⟨h1, _⟩ | ⟨hr, i, hi, h1, h2⟩
  · omega
  · exact ⟨hr, i, hi, h1, h2⟩

theorem withoutV_ok {V : VW} {x : Int} {i : Nat} (hr : RightV V) (hp : placeV V x = i) (hn : V.chain.length ≠ 1) (he : V.epoch ≠ 274877906944) :
    withoutV V x = (⟨V.epoch + 1, V.chain.eraseIdx i, V.since.eraseIdx i, V.boot.eraseIdx i⟩, 0) := by
  have hb := rightB_of hr
  rw [withoutV, if_neg (by rw [hb]; decide), if_neg (by omega), if_neg hn, if_neg he, hp, Int.toNat_natCast]

theorem mem_eraseIdx_mem {l : List Int} {i : Nat} {x : Int} (h : x ∈ l.eraseIdx i) : x ∈ l := List.mem_of_mem_eraseIdx h

theorem erase_right {V : VW} {i : Nat} (h : RightV V) (hi : i < V.chain.length) (hn : V.chain.length ≠ 1) (he : V.epoch ≠ 274877906944) :
    RightV ⟨V.epoch + 1, V.chain.eraseIdx i, V.since.eraseIdx i, V.boot.eraseIdx i⟩ := by
  have L := h.list
  have hs : i < V.since.length := by rw [L.s]; exact hi
  have hb : i < V.boot.length := by rw [L.b]; exact hi
  have n1 := L.n1
  have n2 := L.n2
  have e1 := L.e1
  have e2 := L.e2
  have s := L.s
  have b := L.b
  refine RightL.right ⟨by simp only; omega, by simp only; omega, by simp only [List.length_eraseIdx, if_pos hi]; omega, by simp only [List.length_eraseIdx, if_pos hi]; omega,
    by simp only [List.length_eraseIdx, if_pos hi, if_pos hs]; omega, by simp only [List.length_eraseIdx, if_pos hi, if_pos hb]; omega,
    L.nd.sublist (List.eraseIdx_sublist _ _), fun x hx => L.cr x (mem_eraseIdx_mem hx), L.so.sublist (List.eraseIdx_sublist _ _),
    fun x hx => ?_, fun x hx => L.br x (mem_eraseIdx_mem hx)⟩
  have := L.sr x (mem_eraseIdx_mem hx)
  simp only
  omega

theorem snoc_right {V : VW} {x b : Int} (h : RightV V) (hx : x ∉ V.chain) (x1 : 1 ≤ x) (x2 : x ≤ 100) (b1 : 0 ≤ b) (b2 : b ≤ 274877906944) (hn : V.chain.length ≠ 6) (he : V.epoch ≠ 274877906944) :
    RightV ⟨V.epoch + 1, V.chain ++ [x], V.since ++ [V.epoch + 1], V.boot ++ [b]⟩ := by
  have L := h.list
  have n1 := L.n1
  have n2 := L.n2
  have e1 := L.e1
  have e2 := L.e2
  have s := L.s
  have bl := L.b
  refine RightL.right ⟨by simp only; omega, by simp only; omega, by simp, by simp only [List.length_append, List.length_singleton]; omega,
    by simp only [List.length_append, List.length_singleton]; omega, by simp only [List.length_append, List.length_singleton]; omega, ?_, ?_, ?_, ?_, ?_⟩
  · rw [List.nodup_append]
    refine ⟨L.nd, by simp, ?_⟩
    intro a ha c hc
    rw [List.mem_singleton] at hc
    subst hc
    exact fun e => hx (e ▸ ha)
  · intro y hy
    rcases List.mem_append.1 hy with hy | hy
    · exact L.cr y hy
    · rw [List.mem_singleton] at hy; subst hy; exact ⟨x1, x2⟩
  · rw [List.pairwise_append]
    refine ⟨L.so, by simp, ?_⟩
    intro a ha c hc
    rw [List.mem_singleton] at hc
    subst hc
    have := L.sr a ha
    omega
  · intro y hy
    simp only
    rcases List.mem_append.1 hy with hy | hy
    · have := L.sr y hy; omega
    · rw [List.mem_singleton] at hy; subst hy; omega
  · intro y hy
    rcases List.mem_append.1 hy with hy | hy
    · exact L.br y hy
    · rw [List.mem_singleton] at hy; subst hy; exact ⟨b1, b2⟩

theorem withV_ok {V : VW} {x b : Int} (h : RightV V) (hx : x ∉ V.chain) (x1 : 1 ≤ x) (x2 : x ≤ 100) (b1 : 0 ≤ b) (b2 : b ≤ 274877906944) (hn : V.chain.length ≠ 6) (he : V.epoch ≠ 274877906944) :
    withV V x b = (⟨V.epoch + 1, V.chain ++ [x], V.since ++ [V.epoch + 1], V.boot ++ [b]⟩, 0) := by
  have hb := rightB_of h
  have hp := placeV_no hx
  rw [withV, if_neg (by rw [hb]; simp only [Bool.true_eq_false, false_or]; omega), if_neg (by omega), if_neg (by omega)]

/-- It is right when it is taken out and put in again; who it is, and where. -/
theorem tail_snoc {V : VW} {l : List Int} {x : Int} (h : RightV V) (hc : V.chain = l ++ [x]) : tailV V = x := by
  rw [tailV, if_pos (rightB_of h), hc]; simp

theorem place_snoc {V : VW} {l : List Int} {x : Int} (h : RightV V) (hc : V.chain = l ++ [x]) : placeV V x = l.length := by
  have hi : l.length < V.chain.length := by rw [hc]; simp
  have e : V.chain[l.length] = x := by simp [hc]
  have := placeV_at h hi
  rwa [e] at this

theorem boot_snoc {V : VW} {l m : List Int} {x b : Int} (h : RightV V) (hc : V.chain = l ++ [x]) (hb : V.boot = m ++ [b]) : bootV V x = b := by
  have hp := place_snoc h hc
  have hl : m.length = l.length := by have := h.b; rw [hb, hc] at this; simpa using this
  rw [bootV, if_pos (by omega), hp, hb, atI, if_neg (by omega), Int.toNat_natCast, ← hl]
  simp

theorem since_snoc {V : VW} {l m : List Int} {x s : Int} (h : RightV V) (hc : V.chain = l ++ [x]) (hb : V.since = m ++ [s]) : sinceV V x = s := by
  have hp := place_snoc h hc
  have hl : m.length = l.length := by have := h.s; rw [hb, hc] at this; simpa using this
  rw [sinceV, if_pos (by omega), hp, hb, atI, if_neg (by omega), Int.toNat_natCast, ← hl]
  simp
end Go.Proofs.YtapgjjfndbfnpaaDoor.Vw
