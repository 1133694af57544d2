/-
  A client and its ops, as a walk is told of them, and plainly; what a call of its methods leaves as it was.
-/
import Derived.Test.YtapgjjfndbfnpaaDoorEvFits
import Derived.Test.YtapgjjfndbfnpaaDoorCvOf
import Derived.Laws.Append
import Derived.Laws.CopyRow
import Derived.Deep.AppendLies
import Derived.Deep.Upon
namespace Go.Proofs.YtapgjjfndbfnpaaDoor
open Go.RowKit

structure OutC where
  code : Int
  pos : Int
  first : Int
  version : Int
structure OpW where
  kind : Int
  id : Int
  start : Int
  end_ : Int
  b : BW
  out : OutC
  stream : ByteArray
  from_ : Int
  version : Int
  events : List EV
/-- An op with the slices that hold its events. -/
structure OpR where
  o : OpW
  bev : Value
  evv : Value
def OpR.cells (r : OpR) : List Value :=
  [.int .i64 r.o.kind, .int .i64 r.o.id, .int .i64 r.o.start, .int .i64 r.o.end_, .string r.o.b.stream, .int .i64 r.o.b.expect, .int .i64 r.o.b.session, .int .i64 r.o.b.seq, r.bev,
   .int .i64 r.o.out.code, .int .i64 r.o.out.pos, .int .i64 r.o.out.first, .int .i64 r.o.out.version, .string r.o.stream, .int .i64 r.o.from_, .int .i64 r.o.version, r.evv]
theorem OpR.cells_len (r : OpR) : r.cells.length = 17 := rfl
def ocells (l : List OpR) : List Value := l.flatMap OpR.cells
theorem ocells_nil : ocells [] = [] := rfl
theorem ocells_cons (r : OpR) (l : List OpR) : ocells (r :: l) = r.cells ++ ocells l := rfl
theorem ocells_append (l m : List OpR) : ocells (l ++ m) = ocells l ++ ocells m := by simp [ocells]
theorem ocells_one (r : OpR) : ocells [r] = r.cells := by simp [ocells]
theorem ocells_len : ∀ l : List OpR, (ocells l).length = l.length * 17
  | [] => rfl
  | r :: l => by rw [ocells_cons, List.length_append, ocells_len l, OpR.cells_len, List.length_cons]; omega
theorem ocells_at : ∀ (l : List OpR) (i j : Nat) (h : i < l.length), j < 17 → (ocells l)[i * 17 + j]? = l[i].cells[j]?
  | r :: l, 0, j, _, hj => by rw [ocells_cons, List.getElem?_append_left (by rw [OpR.cells_len]; omega)]; simp
  | r :: l, i + 1, j, h, hj => by
    rw [ocells_cons, List.getElem?_append_right (by rw [OpR.cells_len]; omega), OpR.cells_len, show (i + 1) * 17 + j - 17 = i * 17 + j by omega, ocells_at l i j (by simpa using h) hj]
    rfl
def OpR.Plain (r : OpR) : Prop := r.bev.oneCell' = true ∧ r.evv.oneCell' = true
theorem ocells_plain {l : List OpR} (hl : ∀ r ∈ l, r.Plain) {u : Value} (h : u ∈ ocells l) : u.oneCell' = true := by
  obtain ⟨r, hr, hu⟩ := List.mem_flatMap.1 h
  obtain ⟨h1, h2⟩ := hl r hr
  simp only [OpR.cells, List.mem_cons, List.not_mem_nil, or_false] at hu
  rcases hu with rfl | rfl | rfl | rfl | rfl | rfl | rfl | rfl | rfl | rfl | rfl | rfl | rfl | rfl | rfl | rfl | rfl <;> first | exact h1 | exact h2 | rfl

structure ClW where
  session : Int
  wait : Int
  ops : List OpW
  pending : Bool
  which : Int
  asked : Int
  v : Vw.VW
/-- A client with its slices. -/
structure ClR where
  s : ClW
  rs : List OpR
  ov : Value
  cv : Value
  sv : Value
  bv : Value

/-! ### what is kept -/
structure Kept (S : Nat → Prop) (w w' : World) : Prop where
  os : w'.os = w.os
  tape : w'.tape = w.tape
  output : w'.output = w.output
  size : w.heap.size ≤ w'.heap.size
  block : ∀ k, k < w.heap.size → ¬ S k → w'.heap[k]? = w.heap[k]?
theorem Kept.refl (S : Nat → Prop) (w : World) : Kept S w w := ⟨rfl, rfl, rfl, Nat.le_refl _, fun _ _ _ => rfl⟩
theorem Kept.trans {S T : Nat → Prop} {a b d : World} (h : Kept S a b) (k : Kept T b d) (hT : ∀ k, k < a.heap.size → T k → S k) : Kept S a d :=
  ⟨k.os.trans h.os, k.tape.trans h.tape, k.output.trans h.output, Nat.le_trans h.size k.size, fun i hi hs => (k.block i (Nat.lt_of_lt_of_le hi h.size) (fun ht => hs (hT i hi ht))).trans (h.block i hi hs)⟩
theorem kept_below {S : Nat → Prop} {w w' : World} (h : Below w.heap.size w w') : Kept S w w' := ⟨h.os, h.tape, h.output, h.size, fun k hk _ => h.block k hk⟩
theorem Kept.below {S : Nat → Prop} {w w' : World} {B : Nat} (h : Kept S w w') (hB : B ≤ w.heap.size) (hS : ∀ k, S k → B ≤ k) : Below B w w' :=
  ⟨h.os, h.tape, h.output, h.size, fun k hk => h.block k (by omega) (fun hs => absurd (hS k hs) (by omega))⟩
theorem Kept.mono {S T : Nat → Prop} {w w' : World} (h : Kept S w w') (hT : ∀ k, k < w.heap.size → S k → T k) : Kept T w w' :=
  ⟨h.os, h.tape, h.output, h.size, fun k hk ht => h.block k hk (fun hs => ht (hT k hk hs))⟩
theorem Kept.store {S : Nat → Prop} {a w : World} (h : Kept S a w) (p : Addr) (hp : S p.block ∨ a.heap.size ≤ p.block) (v : Value) : Kept S a (w.setCell p v) :=
  ⟨h.os, h.tape, h.output, by rw [World.size_setCell]; exact h.size, fun k hk hs => by
    rw [Below.heap_setCell w p v k (fun e => by subst e; rcases hp with hp | hp; exact hs hp; omega)]; exact h.block k hk hs⟩
theorem Kept.alloc {S : Nat → Prop} {a w : World} (h : Kept S a w) (o : Obj) : Kept S a (w.alloc o) :=
  ⟨h.os, h.tape, h.output, by rw [World.size_alloc]; have := h.size; omega, fun k hk hs => by rw [Below.heap_alloc w o k (by have := h.size; omega)]; exact h.block k hk hs⟩
theorem Kept.drew {S : Nat → Prop} {a w : World} (h : Kept S a w) : Kept S a w.drew := ⟨h.os, h.tape, h.output, h.size, h.block⟩
theorem Kept.call {S : Nat → Prop} {a w w' : World} (h : Kept S a w) (k : Below w.heap.size w w') : Kept S a w' :=
  h.trans (kept_below (S := S) k) (fun _ _ h => h)
theorem Kept.cell {S : Nat → Prop} {w w' : World} (h : Kept S w w') {p : Addr} (hp : p.block < w.heap.size) (hs : ¬ S p.block) : w'.cell? p = w.cell? p := World.cell?_of_block (w := w) (h.block p.block hp hs)

/-- Events in blocks that nobody changes. -/
def EvA (S : Nat → Prop) (w : World) (v : Value) (l : List EV) : Prop := IsEvents w.heap.size w v l ∧ (0 < l.length → ∀ k, v.ownBlock = some k → ¬ S k)
def InA (S : Nat → Prop) (w : World) (v : Value) (l : List Int) : Prop := Vw.IsInts w.heap.size w v l ∧ (0 < l.length → ∀ k, v.ownBlock = some k → ¬ S k)
theorem EvA.keep {S T U : Nat → Prop} {w w' : World} {v : Value} {l : List EV} (h : EvA S w v l) (hk : Kept T w w') (hT : ∀ k, k < w.heap.size → T k → S k) (hU : ∀ k, k < w.heap.size → U k → S k) : EvA U w' v l := by
  obtain ⟨⟨a, cap, rfl, h1, h2, h3, h5⟩, hs⟩ := h
  refine ⟨⟨a, cap, rfl, h1, h2, h3, fun hp => ?_⟩, fun hp k hv hu => ?_⟩
  · obtain ⟨b, off, rfl, hlt, hc⟩ := h5 hp
    have hb : ¬ T b := fun ht => hs hp b rfl (hT b hlt ht)
    exact ⟨b, off, rfl, Nat.lt_of_lt_of_le hlt hk.size, fun i hi => ⟨by rw [hk.cell (p := ⟨b, off + i * 2, none⟩) hlt hb]; exact (hc i hi).1, by rw [hk.cell (p := ⟨b, off + i * 2 + 1, none⟩) hlt hb]; exact (hc i hi).2⟩⟩
  · obtain ⟨b, off, rfl, hlt, hc⟩ := h5 hp
    exact hs hp k hv (hU k (by have e : b = k := Option.some.inj hv; omega) hu)
theorem InA.keep {S T U : Nat → Prop} {w w' : World} {v : Value} {l : List Int} (h : InA S w v l) (hk : Kept T w w') (hT : ∀ k, k < w.heap.size → T k → S k) (hU : ∀ k, k < w.heap.size → U k → S k) : InA U w' v l := by
  obtain ⟨⟨a, cap, rfl, h1, h2, h3, h4, h5⟩, hs⟩ := h
  refine ⟨⟨a, cap, rfl, h1, h2, h3, h4, fun hp => ?_⟩, fun hp k hv hu => ?_⟩
  · obtain ⟨b, off, rfl, hlt, hc⟩ := h5 hp
    have hb : ¬ T b := fun ht => hs hp b rfl (hT b hlt ht)
    exact ⟨b, off, rfl, Nat.lt_of_lt_of_le hlt hk.size, fun i hi => by rw [hk.cell (p := ⟨b, off + i, none⟩) hlt hb]; exact hc i hi⟩
  · obtain ⟨b, off, rfl, hlt, hc⟩ := h5 hp
    exact hs hp k hv (hU k (by have e : b = k := Option.some.inj hv; omega) hu)
theorem EvA.plain {S : Nat → Prop} {w : World} {v : Value} {l : List EV} (h : EvA S w v l) : v.oneCell' = true := by
  obtain ⟨a, cap, rfl⟩ := h.1.form
  rfl
theorem eva_nil (S : Nat → Prop) (w : World) : EvA S w (.slice none 0 0) [] := ⟨events_nil _ _, fun h => absurd h (by simp)⟩
theorem ina_nil (S : Nat → Prop) (w : World) : InA S w (.slice none 0 0) [] := ⟨Vw.ints_nil _ _, fun h => absurd h (by simp)⟩

/-! ### a client in memory -/
def ClR.mut (R : ClR) (c : Nat) (k : Nat) : Prop := k = c ∨ R.ov.ownBlock = some k
def ClR.cells (R : ClR) : Array Value :=
  #[.int .i64 R.s.session, .int .i64 R.s.wait, R.ov, .bool R.s.pending, .int .i64 R.s.which, .int .i64 R.s.asked, .int .i64 R.s.v.epoch, R.cv, R.sv, R.bv]
/-- The client at block c, its ops in a block of its own from lo on; X: other blocks that somebody changes. -/
structure ClM (X : Nat → Prop) (lo : Nat) (w : World) (c : Nat) (R : ClR) : Prop where
  hlo : lo ≤ c
  blk : w.heap[c]? = some (.cells R.cells 94)
  own : w.ownsRow lo 56 17 R.ov R.rs.length (ocells R.rs)
  ops : R.rs.map (·.o) = R.s.ops
  ne : R.ov.ownBlock ≠ some c
  bev : ∀ r ∈ R.rs, EvA (fun k => R.mut c k ∨ X k) w r.bev r.o.b.events
  evv : ∀ r ∈ R.rs, EvA (fun k => R.mut c k ∨ X k) w r.evv r.o.events
  ep : Vw.I64 R.s.v.epoch
  sm : Vw.SmallV R.s.v
  wh : Vw.I64 R.s.which
  cv : InA (fun k => R.mut c k ∨ X k) w R.cv R.s.v.chain
  sv : InA (fun k => R.mut c k ∨ X k) w R.sv R.s.v.since
  bv : InA (fun k => R.mut c k ∨ X k) w R.bv R.s.v.boot
  xlt : ∀ k, X k → k < w.heap.size
  xne : ∀ k, X k → ¬ R.mut c k
/-- What a method leaves. -/
structure Step (c : Nat) (R R' : ClR) (w w' : World) : Prop where
  kept : Kept (R.mut c) w w'
  grow : ∀ k, k < w.heap.size → R'.mut c k → R.mut c k
theorem Step.refl (c : Nat) (R : ClR) (w : World) : Step c R R w w := ⟨Kept.refl _ _, fun _ _ h => h⟩
theorem Step.trans {c : Nat} {R R1 R2 : ClR} {a b d : World} (h : Step c R R1 a b) (k : Step c R1 R2 b d) : Step c R R2 a d :=
  ⟨h.kept.trans k.kept h.grow, fun i hi hm => h.grow i hi (k.grow i (Nat.lt_of_lt_of_le hi h.kept.size) hm)⟩
theorem step_below {c : Nat} {R R' : ClR} {w w' : World} (h : Below w.heap.size w w') (hov : R'.ov = R.ov) : Step c R R' w w' :=
  ⟨kept_below h, fun k _ hm => by unfold ClR.mut at hm ⊢; rw [hov] at hm; exact hm⟩
variable {X : Nat → Prop} {lo c : Nat} {w w' : World} {R R' : ClR}
theorem ClM.clt (h : ClM X lo w c R) : c < w.heap.size := (Array.getElem?_eq_some_iff.1 h.blk).1
theorem ClM.ownlo (h : ClM X lo w c R) {k : Nat} (hk : R.ov.ownBlock = some k) : lo ≤ k ∧ k < w.heap.size := by
  rcases h.own.2 with ⟨e, _⟩ | ⟨g, cap, cur, e, hb, hg, _⟩
  · rw [e] at hk; exact absurd hk (by simp [Value.ownBlock])
  · rw [e] at hk
    have e2 : g = k := Option.some.inj hk
    subst e2
    exact ⟨hb, (Array.getElem?_eq_some_iff.1 hg).1⟩
theorem ClM.mutlo (h : ClM X lo w c R) (k : Nat) (hk : R.mut c k) : lo ≤ k ∧ k < w.heap.size := by
  rcases hk with rfl | hk
  · exact ⟨h.hlo, h.clt⟩
  · exact h.ownlo hk
theorem ClM.len (h : ClM X lo w c R) : R.rs.length = R.s.ops.length := by rw [← h.ops, List.length_map]
theorem Step.below (h : Step c R R' w w') (hm : ClM X lo w c R) : Below lo w w' := h.kept.below (by have := hm.clt; have := hm.hlo; omega) (fun k hk => (hm.mutlo k hk).1)
/-- Where nothing of it is changed. -/
theorem ClM.kept {T : Nat → Prop} (h : ClM X lo w c R) (hk : Kept T w w') (hT : ∀ k, T k → X k) : ClM X lo w' c R := by
  have hT' : ∀ k, k < w.heap.size → T k → R.mut c k ∨ X k := fun k _ ht => .inr (hT k ht)
  have hU : ∀ k, k < w.heap.size → R.mut c k ∨ X k → R.mut c k ∨ X k := fun _ _ h => h
  refine ⟨h.hlo, (hk.block c h.clt (fun ht => h.xne c (hT c ht) (.inl rfl))).trans h.blk, ?_, h.ops, h.ne, fun r hr => (h.bev r hr).keep hk hT' hU, fun r hr => (h.evv r hr).keep hk hT' hU, h.ep, h.sm, h.wh, h.cv.keep hk hT' hU, h.sv.keep hk hT' hU, h.bv.keep hk hT' hU,
    fun k hx => Nat.lt_of_lt_of_le (h.xlt k hx) hk.size, h.xne⟩
  refine ⟨h.own.1, ?_⟩
  rcases h.own.2 with e | ⟨g, cap, cur, e, hb, hg, r⟩
  · exact .inl e
  · refine .inr ⟨g, cap, cur, e, hb, (hk.block g (Array.getElem?_eq_some_iff.1 hg).1 (fun ht => h.xne g (hT g ht) (.inr (by rw [e]; rfl)))).trans hg, r⟩
theorem ClM.keep (h : ClM X lo w c R) (hb : Below w.heap.size w w') : ClM X lo w' c R := h.kept (T := fun _ => False) (kept_below hb) (fun _ h => h.elim)
theorem ClM.drew (h : ClM X lo w c R) : ClM X lo w.drew c R := h.keep (Below.refl _ _).drew
/-- Where its ops lie, if there are any. -/
theorem ClM.row (h : ClM X lo w c R) (hn : 0 < R.rs.length) : ∃ g cap cur, R.ov = .slice (some ⟨g, 0, none⟩) R.rs.length cap ∧ lo ≤ g ∧ g ≠ c ∧ w.heap[g]? = some (.cells cur 56) ∧ R.rs.length ≤ cap ∧ cap ≤ maxLen ∧ cur.size = cap * 17 ∧ cur.toList.take (R.rs.length * 17) = ocells R.rs := by
  rcases h.own.2 with ⟨_, e⟩ | ⟨g, cap, cur, e, hb, hg, r1, r2, r3, r4⟩
  · omega
  · exact ⟨g, cap, cur, e, hb, fun e2 => h.ne (by rw [e, e2]; rfl), hg, r1, r2, r3, r4⟩
theorem ClM.form (h : ClM X lo w c R) : ∃ a cap, R.ov = .slice a R.rs.length cap := by
  rcases h.own.2 with ⟨e, h0⟩ | ⟨g, cap, cur, e, _⟩
  · exact ⟨none, 0, by rw [e, h0]⟩
  · exact ⟨_, cap, e⟩
theorem row_cell {w : World} {g n : Nat} {cur : Array Value} {t : TypeId} {rs : List OpR} (hg : w.heap[g]? = some (.cells cur t)) (htk : cur.toList.take (rs.length * 17) = ocells rs) (i j : Nat) (hi : i < rs.length) (hj : j < 17) (hn : i * 17 + j = n) :
    w.cell? ⟨g, n, none⟩ = rs[i].cells[j]? := by
  subst hn
  rw [Lib.cell_of_heap hg, ← ocells_at rs i j hi hj, ← htk, List.getElem?_take_of_lt (by omega), Array.getElem?_toList]
theorem ClM.plain (h : ClM X lo w c R) : ∀ r ∈ R.rs, r.Plain := fun r hr => ⟨(h.bev r hr).plain, (h.evv r hr).plain⟩
theorem ClM.bevK {R' : ClR} (h : ClM X lo w c R) (st : Step c R R' w w') : ∀ r ∈ R.rs, EvA (fun k => R'.mut c k ∨ X k) w' r.bev r.o.b.events := fun r hr =>
  (h.bev r hr).keep st.kept (fun _ _ ht => .inl ht) (fun k hk hu => hu.imp (st.grow k hk) id)
theorem ClM.evvK {R' : ClR} (h : ClM X lo w c R) (st : Step c R R' w w') : ∀ r ∈ R.rs, EvA (fun k => R'.mut c k ∨ X k) w' r.evv r.o.events := fun r hr =>
  (h.evv r hr).keep st.kept (fun _ _ ht => .inl ht) (fun k hk hu => hu.imp (st.grow k hk) id)
theorem ina_k {R' : ClR} {v : Value} {l : List Int} (h : InA (fun k => R.mut c k ∨ X k) w v l) (st : Step c R R' w w') : InA (fun k => R'.mut c k ∨ X k) w' v l :=
  h.keep st.kept (fun _ _ ht => .inl ht) (fun k hk hu => hu.imp (st.grow k hk) id)
theorem eva_k {R' : ClR} {v : Value} {l : List EV} (h : EvA (fun k => R.mut c k ∨ X k) w v l) (st : Step c R R' w w') : EvA (fun k => R'.mut c k ∨ X k) w' v l :=
  h.keep st.kept (fun _ _ ht => .inl ht) (fun k hk hu => hu.imp (st.grow k hk) id)
theorem ClM.xltK {R' : ClR} (h : ClM X lo w c R) (st : Step c R R' w w') : ∀ k, X k → k < w'.heap.size := fun k hx => Nat.lt_of_lt_of_le (h.xlt k hx) st.kept.size
theorem ClM.xneK {R' : ClR} (h : ClM X lo w c R) (st : Step c R R' w w') : ∀ k, X k → ¬ R'.mut c k := fun k hx hm => h.xne k hx (st.grow k (h.xlt k hx) hm)
/-- A store into one of its own cells. -/
theorem ClM.putStep (c : Nat) (R : ClR) (w : World) (o : Nat) (x : Value) (s' : ClW) : Step c R { R with s := s' } w (w.setCell ⟨c, o, none⟩ x) :=
  ⟨(Kept.refl _ w).store ⟨c, o, none⟩ (.inl (.inl rfl)) x, fun _ _ h => h⟩
theorem block_set2 {w : World} {g : Nat} {cs : Array Value} {t : TypeId} {fr : Nat × Nat} (h : w.heap[g]? = some (.cells cs t fr)) (o : Nat) (x : Value) : (w.setCell ⟨g, o, none⟩ x).heap[g]? = some (.cells (cs.setIfInBounds o x) t fr) := by
  simp [World.setCell, Array.getElem?_modify, h]
theorem ClM.put (h : ClM X lo w c R) (o : Nat) (x : Value) (s' : ClW) (ho : s'.ops = R.s.ops) (hv : s'.v = R.s.v) (hwh : Vw.I64 s'.which) (hc : ({ R with s := s' } : ClR).cells = R.cells.setIfInBounds o x) :
    ClM X lo (w.setCell ⟨c, o, none⟩ x) c { R with s := s' } := by
  have st := ClM.putStep c R w o x s'
  refine ⟨h.hlo, by rw [hc]; exact block_set2 h.blk o x, Vw.own_set_ne h.own c o h.ne x, by rw [ho]; exact h.ops, h.ne, h.bevK st, h.evvK st, by rw [hv]; exact h.ep, by rw [hv]; exact h.sm, hwh, by rw [hv]; exact ina_k h.cv st, by rw [hv]; exact ina_k h.sv st, by rw [hv]; exact ina_k h.bv st, h.xltK st, h.xneK st⟩
/-- Its view. -/
theorem ClM.view (h : ClM X lo w c R) : Vw.IsView w.heap.size w (.agg #[.int .i64 R.s.v.epoch, R.cv, R.sv, R.bv]) R.s.v := ⟨h.ep, _, _, _, rfl, h.cv.1, h.sv.1, h.bv.1⟩
end Go.Proofs.YtapgjjfndbfnpaaDoor
