/-
  append of a row of ints onto an empty slice that has no room: what comes back lies in a new block, and no other block is turned.
-/
import Derived.Test.YtigojackdkaanaaVwSlices
import Derived.Laws.Append
import Derived.Deep.AppendLies
namespace Go.Proofs.Ytigojackdkaanaa
open Go.RowKit

theorem run_append_empty {P : Program} (w : World) (t ty e : TypeId) (i : TypeInfo) (z : Value) (bytes : Nat) (ht : P.underlying t = some (.slice e)) (hi : P.info? e = some i) (hz : i.zero = some z)
    (hsize : i.size = 1) (hby : i.bytes = bytes) (hzs : z.cells.size = 1) (ad0 ad : Addr) (n c : Nat) (news : List Value) (hl : news.length = n) (hnews : ∀ j v, news[j]? = some v → w.cell? (ad.add j) = some v) (hn : 0 < n)
    (h63 : n ≤ maxLen) (hbytes : n * bytes ≤ 140737488355328) :
    ∃ cap w', (Builtin.append_ #[t, t] ty #[.slice (some ad0) 0 0, .slice (some ad) n c]).run P w = .ok (.slice (some ⟨w.heap.size, 0, none⟩) n cap) w' ∧
      w'.ownsRow w.heap.size e 1 (.slice (some ⟨w.heap.size, 0, none⟩) n cap) n news ∧ Below w.heap.size w w' := by
  have hr := run_append_grow (P := P) w t ty e i z ht hi hz ad0 0 0 [] (by simp) (by simp) ad n c news (by rw [hl, hsize, Nat.mul_one]) hnews (by omega) (by simp only [maxLen] at h63; omega) (by rw [hby]; exact growslice_fits (by omega) (by rw [Nat.zero_add]; exact hbytes))
  simp only [Nat.zero_add] at hr
  have hge := grownCap_ge w n 0 e
  have hcm : grownCap w n 0 e ≤ maxLen := grownCap_le_maxLen w n 0 e h63
  refine ⟨_, _, hr, ⟨by rw [Nat.mul_one]; exact hl, .inr ⟨w.heap.size, _, _, rfl, Nat.le_refl _, heap_alloc_new w.drew _, hge, hcm, ?_, ?_⟩⟩, ((Below.refl _ _).drew).alloc (Nat.le_refl _) _⟩
  · simp only [Array.size_append, List.size_toArray, size_zeroCells, hzs, hl, List.length_nil]
    omega
  · simp only [Array.toList_append, List.nil_append]
    rw [Nat.mul_one, ← hl]
    exact List.take_left

theorem step_append_empty {P : Program} (w : World) {ops : Array Oper} {o : Oper} {a : Act} {K : Act → World → Prop} {Q : Exit → Act → World → Prop} {E : Prop} (hgd : o.guard = none) (s x : Operand) (t : TypeId)
    (ho : o.op = .call { callee := .builtin .append, args := #[s, x], argTypes := #[t, t] })
    (e : TypeId) (i : TypeInfo) (z : Value) (bytes : Nat) (ht : P.underlying t = some (.slice e)) (hi : P.info? e = some i) (hz : i.zero = some z)
    (hsize : i.size = 1) (hby : i.bytes = bytes) (hzs : z.cells.size = 1) (ad0 : Addr) (hs : a.eval s = .slice (some ad0) 0 0)
    (B : Nat) (v2 : Value) (l : List Int) (hx : a.eval x = v2) (hss : IsInts B w v2 l) (hl : 0 < l.length) (h63 : l.length ≤ maxLen) (hbytes : l.length * bytes ≤ 140737488355328)
    (h : ∀ cap w', w'.ownsRow w.heap.size e 1 (.slice (some ⟨w.heap.size, 0, none⟩) l.length cap) l.length (icells l) → Below w.heap.size w w' → K (a.put o.dst (.slice (some ⟨w.heap.size, 0, none⟩) l.length cap)) w') :
    if Region.wanted o (yielded ops a.tmps) = true then Oper.wp P o a w K Q else E := by
  have hw : Region.wanted o (yielded ops a.tmps) = true := by simp [Region.wanted, hgd]
  rw [if_pos hw]
  obtain ⟨ad, cap, rfl, _, _, _, _, hc⟩ := hss
  obtain ⟨b, off, rfl, _, hcell⟩ := hc hl
  obtain ⟨cap', w', hr, h2, h3⟩ := run_append_empty (P := P) w t o.type e i z bytes ht hi hz hsize hby hzs ad0 ⟨b, off, none⟩ l.length cap (icells l) (by simp [icells]) (fun j u hu => by
    have hj : j < l.length := by
      have := (List.getElem?_eq_some_iff.1 hu).1
      simpa [icells] using this
    rw [add_spot _ rfl, hcell j hj]
    rw [icells, List.getElem?_map, List.getElem?_eq_getElem hj] at hu
    simpa using hu) hl h63 hbytes
  unfold Oper.wp execOp
  simp only [ho, resolve, invoke, builtin, Sem.run_bind, Sem.run_pure, Result.andThen_ok, List.map_toArray, List.map_cons, List.map_nil, hs, hx, hr]
  exact h cap' w' h2 h3
end Go.Proofs.Ytigojackdkaanaa
