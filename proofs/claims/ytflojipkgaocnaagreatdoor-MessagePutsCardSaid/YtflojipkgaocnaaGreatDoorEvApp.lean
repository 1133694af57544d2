/-
  Rows of events that the call makes: append onto an empty slice and onto a row of its own; what is held of them.
-/
import Derived.Test.YtflojipkgaocnaaGreatDoorEvData
import Derived.Laws.Append
import Derived.Deep.AppendLies
import Derived.Deep.RegionHeld3
import Derived.WalkKit
import Derived.Lib.Hide
namespace Go.Proofs.YtflojipkgaocnaaGreatDoor
open Go.RowKit

def ecells (l : List EV) : List Value := l.flatMap (fun e => [.string e.kind, .string e.data])
theorem ecells_nil : ecells [] = [] := rfl
theorem ecells_append (l m : List EV) : ecells (l ++ m) = ecells l ++ ecells m := by simp [ecells]
theorem ecells_one (e : EV) : ecells [e] = [.string e.kind, .string e.data] := rfl
theorem ecells_len : ∀ l : List EV, (ecells l).length = l.length * 2
  | [] => rfl
  | e :: l => by
    have h := ecells_len l
    unfold ecells at h ⊢
    rw [List.flatMap_cons, List.length_append, h, List.length_cons]
    simp
    omega
theorem ecells_at : ∀ (l : List EV) (i : Nat) (h : i < l.length), (ecells l)[i * 2]? = some (.string l[i].kind) ∧ (ecells l)[i * 2 + 1]? = some (.string l[i].data)
  | [], i, h => absurd h (by simp)
  | e :: l, 0, _ => ⟨rfl, rfl⟩
  | e :: l, i + 1, h => by
    have h1 := ecells_at l i (by simpa using h)
    rw [show (i + 1) * 2 = i * 2 + 1 + 1 by omega, show ecells (e :: l) = .string e.kind :: .string e.data :: ecells l from rfl]
    simpa using h1
theorem ecells_plain {l : List EV} {u : Value} (h : u ∈ ecells l) : u.oneCell' = true := by
  unfold ecells at h
  rw [List.mem_flatMap] at h
  obtain ⟨e, _, h2⟩ := h
  simp only [List.mem_cons, List.mem_nil_iff, or_false] at h2
  rcases h2 with rfl | rfl <;> rfl

theorem Tryz.evinfo : (Tryz.prog.info? 55).map (fun i => (i.zero, i.size, i.bytes)) = some (some (.agg #[.string ByteArray.empty, .string ByteArray.empty]), 2, 32) := by kernel_rfl

theorem add_spot2 {b off i : Nat} : (⟨b, off, none⟩ : Addr).add i = ⟨b, off + i, none⟩ := by unfold Addr.add; split <;> simp_all

/-- What lies in a slice, cell by cell. -/
theorem IsEvents.news {B : Nat} {w : World} {v : Value} {l : List EV} (h : IsEvents B w v l) (hl : 0 < l.length) :
    ∃ b off cap, v = .slice (some ⟨b, off, none⟩) l.length cap ∧ b < B ∧ ∀ j u, (ecells l)[j]? = some u → w.cell? ((⟨b, off, none⟩ : Addr).add j) = some u := by
  obtain ⟨a, cap, rfl, h1, h2, h3, h5⟩ := h
  obtain ⟨b, off, rfl, hlt, hc⟩ := h5 hl
  refine ⟨b, off, cap, rfl, hlt, fun j u hu => ?_⟩
  have hj : j < l.length * 2 := by
    have := (List.getElem?_eq_some_iff.1 hu).1
    rwa [ecells_len] at this
  rw [add_spot2]
  have h6 := ecells_at l (j / 2) (by omega)
  have h7 := hc (j / 2) (by omega)
  rcases Nat.mod_two_eq_zero_or_one j with h0 | h0
  · have e0 : j / 2 * 2 = j := by omega
    rw [e0] at h6 h7
    rw [h7.1, ← h6.1, hu]
  · have e0 : j / 2 * 2 + 1 = j := by omega
    rw [e0] at h6
    rw [Nat.add_assoc, e0] at h7
    rw [h7.2, ← h6.2, hu]

/-- A row of the call's own is a slice of events. -/
theorem events_own {w : World} {base : Nat} {v : Value} {l : List EV} (h : w.ownsRow base 55 2 v l.length (ecells l)) (hz : l.length ≤ maxLen) : IsEvents w.heap.size w v l := by
  rcases h.2 with ⟨rfl, h0⟩ | ⟨g, cap, cur, rfl, hb, hg, hn, hc, hsz, htk⟩
  · have : l = [] := List.eq_nil_of_length_eq_zero h0
    subst this
    exact events_nil _ _
  · refine ⟨_, _, rfl, hn, hc, fun e => (by cases e), fun hp => ⟨g, 0, rfl, (Array.getElem?_eq_some_iff.1 hg).1, fun i hi => ?_⟩⟩
    have key : ∀ j u, (ecells l)[j]? = some u → w.cell? ⟨g, 0 + j, none⟩ = some u := fun j u hu => by
      have hj : j < l.length * 2 := by
        have := (List.getElem?_eq_some_iff.1 hu).1
        rwa [ecells_len] at this
      rw [Nat.zero_add, cell_of_row w g j cur _ _ hg, ← Array.getElem?_toList]
      rw [← htk, List.getElem?_take_of_lt hj] at hu
      exact hu
    have h6 := ecells_at l i hi
    exact ⟨key _ _ h6.1, by rw [Nat.zero_add]; have := key _ _ h6.2; rwa [Nat.zero_add] at this⟩

theorem own_less {w : World} {b b' : Nat} {e : TypeId} {sz : Nat} {v : Value} {n : Nat} {xs : List Value} (hb : b ≤ b') (h : w.ownsRow b' e sz v n xs) : w.ownsRow b e sz v n xs := by
  obtain ⟨h1, h2⟩ := h
  refine ⟨h1, ?_⟩
  rcases h2 with h2 | ⟨g, cap, cur, hv, hg, r⟩
  · exact .inl h2
  · exact .inr ⟨g, cap, cur, hv, Nat.le_trans hb hg, r⟩

theorem run_append_emptyE {P : Program} (w : World) (t ty e : TypeId) (i : TypeInfo) (z : Value) (bytes : Nat) (ht : P.underlying t = some (.slice e)) (hi : P.info? e = some i) (hz : i.zero = some z)
    (hsize : i.size = 2) (hby : i.bytes = bytes) (hzs : z.cells.size = 2) (ad0 ad : Addr) (n c : Nat) (news : List Value) (hl : news.length = n * 2) (hnews : ∀ j v, news[j]? = some v → w.cell? (ad.add j) = some v) (hn : 0 < n)
    (h63 : n ≤ maxLen) (hbytes : n * bytes ≤ 140737488355328) :
    ∃ cap w', (Builtin.append_ #[t, t] ty #[.slice (some ad0) 0 0, .slice (some ad) n c]).run P w = .ok (.slice (some ⟨w.heap.size, 0, none⟩) n cap) w' ∧
      w'.ownsRow w.heap.size e 2 (.slice (some ⟨w.heap.size, 0, none⟩) n cap) n news ∧ Below w.heap.size w w' := by
  have hr := run_append_grow (P := P) w t ty e i z ht hi hz ad0 0 0 [] (by simp) (by simp) ad n c news (by rw [hl, hsize]) hnews (by omega) (by simp only [maxLen] at h63; omega) (by rw [hby]; exact growslice_fits (by omega) (by rw [Nat.zero_add]; exact hbytes))
  simp only [Nat.zero_add] at hr
  have hge := grownCap_ge w n 0 e
  have hcm : grownCap w n 0 e ≤ maxLen := grownCap_le_maxLen w n 0 e h63
  refine ⟨_, _, hr, ⟨hl, .inr ⟨w.heap.size, _, _, rfl, Nat.le_refl _, heap_alloc_new w.drew _, hge, hcm, ?_, ?_⟩⟩, ((Below.refl _ _).drew).alloc (Nat.le_refl _) _⟩
  · simp only [Array.size_append, List.size_toArray, size_zeroCells, hzs, hl, List.length_nil]
    omega
  · simp only [Array.toList_append, List.nil_append]
    rw [← hl]
    exact List.take_left

theorem step_append_emptyE {P : Program} (w : World) {ops : Array Oper} {o : Oper} {a : Act} {K : Act → World → Prop} {Q : Exit → Act → World → Prop} {E : Prop} (hgd : o.guard = none) (s x : Operand) (t : TypeId)
    (ho : o.op = .call { callee := .builtin .append, args := #[s, x], argTypes := #[t, t] })
    (e : TypeId) (i : TypeInfo) (z : Value) (bytes : Nat) (ht : P.underlying t = some (.slice e)) (hi : P.info? e = some i) (hz : i.zero = some z)
    (hsize : i.size = 2) (hby : i.bytes = bytes) (hzs : z.cells.size = 2) (ad0 : Addr) (hs : a.eval s = .slice (some ad0) 0 0)
    (B : Nat) (v2 : Value) (l : List EV) (hx : a.eval x = v2) (hss : IsEvents B w v2 l) (hl : 0 < l.length) (h63 : l.length ≤ maxLen) (hbytes : l.length * bytes ≤ 140737488355328)
    (h : ∀ cap w', w'.ownsRow w.heap.size e 2 (.slice (some ⟨w.heap.size, 0, none⟩) l.length cap) l.length (ecells l) → Below w.heap.size w w' → K (a.put o.dst (.slice (some ⟨w.heap.size, 0, none⟩) l.length cap)) w') :
    if Region.wanted o (yielded ops a.tmps) = true then Oper.wp P o a w K Q else E := by
  have hw : Region.wanted o (yielded ops a.tmps) = true := by simp [Region.wanted, hgd]
  rw [if_pos hw]
  obtain ⟨b, off, cap, rfl, _, hcell⟩ := hss.news hl
  obtain ⟨cap', w', hr, h2, h3⟩ := run_append_emptyE (P := P) w t o.type e i z bytes ht hi hz hsize hby hzs ad0 ⟨b, off, none⟩ l.length cap (ecells l) (ecells_len l) hcell hl h63 hbytes
  unfold Oper.wp execOp
  simp only [ho, resolve, invoke, builtin, Sem.run_bind, Sem.run_pure, Result.andThen_ok, List.map_toArray, List.map_cons, List.map_nil, hs, hx, hr]
  exact h cap' w' h2 h3

theorem IsEvents.take {B : Nat} {w : World} {a : Option Addr} {n cap : Nat} {l : List EV} (h : IsEvents B w (.slice a n cap) l) (k : Nat) (hk : k ≤ l.length) : IsEvents B w (.slice a k cap) (l.take k) := by
  obtain ⟨a', cap', he, h1, h2, h3, h5⟩ := h
  obtain ⟨rfl, rfl, rfl⟩ : a = a' ∧ n = l.length ∧ cap = cap' := by injection he with e1 e2 e3; exact ⟨e1, e2, e3⟩
  have hl : (l.take k).length = k := by rw [List.length_take]; omega
  refine ⟨a, cap, by rw [hl], by omega, h2, h3, fun hp => ?_⟩
  obtain ⟨b, off, rfl, hlt, hc⟩ := h5 (by omega)
  refine ⟨b, off, rfl, hlt, fun i hi => ?_⟩
  rw [List.getElem_take]
  exact hc i (by omega)
end Go.Proofs.YtflojipkgaocnaaGreatDoor
