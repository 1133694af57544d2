/-
  The walks of event.bytes, event.Put and event.PutBatch. Printed by gen_evput.py of this claim's writer.
-/
import Derived.Test.YtflojipkgaocnaaGreatDoorEvFits
import Derived.Test.YtflojipkgaocnaaGreatDoorEvNum
import Derived.Test.YtflojipkgaocnaaGreatDoorBuild
import Derived.Deep.RegionHeld3
import Derived.Deep.DeepFit
namespace Go.Proofs.YtflojipkgaocnaaGreatDoor
open Go.RowKit

/-! ### plainly -/
def pT (s : ByteArray) : ByteArray := bstr (putT s.data.toList)
def pN (n : Int) : ByteArray := bstr (putN (clampN n))
def pI (n : Int) : ByteArray := bstr (putN (zig (clampS n)))
theorem pN_size (n : Int) : (pN n).size ≤ 6 := by
  unfold pN
  rw [bstr_size]
  exact putN_len6 (clampN_le n)
theorem pI_size (n : Int) : (pI n).size ≤ 6 := by
  unfold pI
  rw [bstr_size]
  exact putN_len6 (zig_le (clampS_bd n))
theorem pT_size (s : ByteArray) : (pT s).size ≤ s.size + 6 := by
  unfold pT putT
  rw [bstr_size, List.length_append]
  have h1 := putN_len6 (clampN_le (s.data.toList.length : Int))
  have h2 : s.data.toList.length = s.size := by simp
  omega
def bytesE (e : EV) : ByteArray := pT e.kind ++ pT e.data
def putE (e : EV) : ByteArray := if rightE e = true then bytesE e else ⟨#[]⟩
def headB (b : BW) : ByteArray := pT b.stream ++ pI b.expect ++ pN b.session ++ pN b.seq ++ pN b.events.length
def bodyL (l : List EV) : List UInt8 := l.flatMap (fun e => (bytesE e).data.toList)
def putB (b : BW) : ByteArray := if fitsB b = 0 then bstr ((headB b).data.toList ++ bodyL b.events) else ⟨#[]⟩
theorem bodyL_take {l : List EV} {k : Nat} (h : k < l.length) : bodyL (l.take (k + 1)) = bodyL (l.take k) ++ (bytesE l[k]).data.toList := by
  unfold bodyL
  rw [List.take_succ_eq_append_getElem h, List.flatMap_append]
  simp
/-- What can be gone through. -/
structure LightE (e : EV) : Prop where
  k : e.kind.size ≤ 300
  d : e.data.size ≤ 500
structure LightB (b : BW) : Prop where
  s : b.stream.size ≤ 300
  n : b.events.length ≤ 20
  e : ∀ x ∈ b.events, LightE x
theorem bytesE_size {e : EV} (h : LightE e) : (bytesE e).size ≤ 812 := by
  have h1 := pT_size e.kind
  have h2 := pT_size e.data
  have h3 := h.k
  have h4 := h.d
  unfold bytesE
  rw [ByteArray.size_append]
  omega
theorem bodyL_size : ∀ {l : List EV}, (∀ x ∈ l, LightE x) → (bodyL l).length ≤ 812 * l.length
  | [], _ => by simp [bodyL]
  | e :: l, h => by
    have h1 := bodyL_size (l := l) (fun x hx => h x (List.mem_cons_of_mem _ hx))
    have h2 := bytesE_size (h e (List.mem_cons_self ..))
    unfold bodyL at h1 ⊢
    rw [List.flatMap_cons, List.length_append, List.length_cons]
    have h3 : (bytesE e).data.toList.length = (bytesE e).size := by simp
    omega
theorem headB_size {b : BW} (h : LightB b) : (headB b).size ≤ 330 := by
  have h1 := pT_size b.stream
  have h2 := pI_size b.expect
  have h3 := pN_size b.session
  have h4 := pN_size b.seq
  have h5 := pN_size b.events.length
  have h6 := h.s
  unfold headB
  simp only [ByteArray.size_append]
  omega

theorem pT_any (s : ByteArray) (hs : s.size ≤ 4611686018427387904) (w : World) : Calls Tryz.prog 44 #[.string s] w fun e w' => e = .returned (.string (pT s)) ∧ Below w.heap.size w w' := putText_any s w hs
theorem pN_any (n : Int) (w : World) : Calls Tryz.prog 28 #[.int .i64 n] w fun e w' => e = .returned (.string (pN n)) ∧ Below w.heap.size w w' := put_any n w
theorem pI_any (n : Int) (w : World) : Calls Tryz.prog 69 #[.int .i64 n] w fun e w' => e = .returned (.string (pI n)) ∧ Below w.heap.size w w' := putInt_any n w

theorem box2 {w W : World} {a0 a1 : Value} {t : TypeId} (hb : Below (w.heap.size + 1) (w.alloc (.cells #[a0, a1] t)) W) : W.cell? ⟨w.heap.size, 0, none⟩ = some a0 ∧ W.cell? ⟨w.heap.size, 1, none⟩ = some a1 :=
  ⟨(hb.cell (p := ⟨w.heap.size, 0, none⟩) (by simp)).trans (by simp), (hb.cell (p := ⟨w.heap.size, 1, none⟩) (by simp)).trans (by simp)⟩

set_option maxRecDepth 100000 in
set_option maxHeartbeats 1600000 in
theorem bytes_any (e : EV) (he : LightE e) (w : World) :
    Calls Tryz.prog 70 #[.agg #[.string e.kind, .string e.data]] w fun r w' => r = .returned (.string (bytesE e)) ∧ Below w.heap.size w w' := by
  have z1 := pT_size e.kind
  have z2 := pT_size e.data
  have z3 := he.k
  have z4 := he.d
  have d1 := Lib.hid (pT_any e.kind (by omega))
  have d2 := Lib.hid (pT_any e.data (by omega))
  rw [show bytesE e = pT e.kind ++ pT e.data from rfl]
  generalize pT e.kind = P1 at z1 d1 ⊢
  generalize pT e.data = P2 at z2 d2 ⊢
  have a1 : ∀ W : World, (Op.stringOp .add (P1) (P2)).run Tryz.prog W = .ok (.string (P1 ++ P2)) W := fun W => run_string_add_sum (P := Tryz.prog) (w := W) _ _ (by first | omega | (simp only [ByteArray.size_append]; omega))
  have mkS : ∀ X : World, Below (w.heap.size + 1) (w.alloc (.cells #[.string e.kind, .string e.data] 55)) X → X.cell? ⟨w.heap.size, 0, none⟩ = some (.string e.kind) ∧ X.cell? ⟨w.heap.size, 1, none⟩ = some (.string e.data) ∧ Below (w.heap.size + 1) (w.alloc (.cells #[.string e.kind, .string e.data] 55)) X := fun X hk => ⟨(box2 hk).1, (box2 hk).2, hk⟩
  have keep : ∀ X X' : World, (X.cell? ⟨w.heap.size, 0, none⟩ = some (.string e.kind) ∧ X.cell? ⟨w.heap.size, 1, none⟩ = some (.string e.data) ∧ Below (w.heap.size + 1) (w.alloc (.cells #[.string e.kind, .string e.data] 55)) X) → Below X.heap.size X X' → X'.cell? ⟨w.heap.size, 0, none⟩ = some (.string e.kind) ∧ X'.cell? ⟨w.heap.size, 1, none⟩ = some (.string e.data) ∧ Below (w.heap.size + 1) (w.alloc (.cells #[.string e.kind, .string e.data] 55)) X' := fun X X' h k => mkS X' (bx_more h.2.2 k)
  have hh := mkS (w.alloc (.cells #[.string e.kind, .string e.data] 55)).drew (bx_new _).drew
  have MK := Lib.hid mkS
  have KEEP := Lib.hid keep
  clear mkS keep he
  go_enter Tryz.func70, Tryz.ntmps70
  go_wp2_with fail
  go_region_held3 (fun X => X.cell? ⟨w.heap.size, 0, none⟩ = some (.string e.kind) ∧ X.cell? ⟨w.heap.size, 1, none⟩ = some (.string e.data) ∧ Below (w.heap.size + 1) (w.alloc (.cells #[.string e.kind, .string e.data] 55)) X) (first | exact hh | exact KEEP.out _ _ (by assumption) (by assumption))
    (first
      | ((with_reducible refine (d1.out _).mono ?_); rintro r w2 ⟨rfl, hb2⟩)
      | ((with_reducible refine (d2.out _).mono ?_); rintro r w3 ⟨rfl, hb3⟩))
  have hS3 := KEEP.out _ _ (KEEP.out _ _ hh hb2) hb3
  clear a1 hh
  go_wp2_with fail
  go_ret
  exact ⟨rfl, bx_below hS3.2.2⟩

set_option maxRecDepth 100000 in
set_option maxHeartbeats 1600000 in
theorem putE_any (e : EV) (he : LightE e) (s : ByteArray) (hs : putE e = s) (w : World) (hT : Tabs w) :
    Calls Tryz.prog 46 #[.agg #[.string e.kind, .string e.data]] w fun r w' => r = .returned (.string s) ∧ Below w.heap.size w w' := by
  have hb0 := bx_new (w := w) (.cells #[.string e.kind, .string e.data] 55)
  obtain ⟨q, hq⟩ : ∃ x, rightE e = x := ⟨_, rfl⟩
  have C := Lib.hid (right_any e q hq _ (tabs_below hT (bx_below hb0)))
  have C2 := Lib.hid (bytes_any e he)
  rw [putE, hq] at hs
  clear hq he
  cases q with
  | false =>
    obtain rfl : ⟨#[]⟩ = s := by rw [← hs, if_neg (by decide)]
    clear hs
    go_enter Tryz.func46, Tryz.ntmps46
    go_wp2_with fail
    refine C.out.mono ?_
    rintro r w1 ⟨rfl, hb1⟩
    go_wp2_with fail
    go_ret
    exact ⟨rfl, bx_below (bx_more hb0 hb1)⟩
  | true =>
    obtain rfl : bytesE e = s := by rw [← hs, if_pos rfl]
    clear hs
    go_enter Tryz.func46, Tryz.ntmps46
    go_wp2_with fail
    refine C.out.mono ?_
    rintro r w1 ⟨rfl, hb1⟩
    have bx1 := bx_more hb0 hb1
    obtain ⟨y0, y1⟩ := box2 bx1
    go_wp2_with fail
    refine (C2.out _).mono ?_
    rintro r w2 ⟨rfl, hb2⟩
    go_wp2_with fail
    go_ret
    exact ⟨rfl, bx_below (bx_more bx1 hb2)⟩

set_option maxRecDepth 100000 in
set_option maxHeartbeats 3200000 in
theorem putB_any (B : Nat) (v : Value) (b : BW) (s : ByteArray) (hs : putB b = s) (w : World) (h : IsBatch B w v b) (hB : B ≤ w.heap.size) (hT : Tabs w) (hL : LightB b) :
    Calls Tryz.prog 43 #[v] w fun r w' => r = .returned (.string s) ∧ Below w.heap.size w w' := by
  have HV := Lib.hid h
  obtain ⟨lv, rfl, hl⟩ := h
  have HL := Lib.hid hl
  obtain ⟨a, cap, rfl⟩ := hl.form
  have hb0 := bx_new (w := w) (.cells #[.string b.stream, .int .i64 b.expect, .int .i64 b.session, .int .i64 b.seq, .slice a b.events.length cap] 28)
  obtain ⟨q, hq⟩ : ∃ x, fitsB b = x := ⟨_, rfl⟩
  have C := Lib.hid (fits_any B _ b q hq _ (HV.out.keep (bx_below hb0) hB) (by rw [World.size_alloc]; omega) (tabs_below hT (bx_below hb0)))
  rw [putB, hq] at hs
  clear hq hl HV hT
  by_cases h0 : q = 0
  · subst h0
    rw [if_pos rfl] at hs
    have HS := Lib.hid hs
    have z1 := pT_size b.stream
    have z2 := pI_size b.expect
    have z3 := pN_size b.session
    have z4 := pN_size b.seq
    have z5 := pN_size b.events.length
    have z6 := hL.s
    have z7 := hL.n
    have d1 := Lib.hid (pT_any b.stream (by omega))
    have d2 := Lib.hid (pI_any b.expect)
    have d3 := Lib.hid (pN_any b.session)
    have d4 := Lib.hid (pN_any b.seq)
    have d5 := Lib.hid (pN_any b.events.length)
    have hh0 : headB b = pT b.stream ++ pI b.expect ++ pN b.session ++ pN b.seq ++ pN b.events.length := rfl
    have zh := headB_size hL
    generalize pT b.stream = P1 at z1 d1 hh0
    generalize pI b.expect = P2 at z2 d2 hh0
    generalize pN b.session = P3 at z3 d3 hh0
    generalize pN b.seq = P4 at z4 d4 hh0
    generalize pN b.events.length = P5 at z5 d5 hh0
    have a1 : ∀ W : World, (Op.stringOp .add (P1) (P2)).run Tryz.prog W = .ok (.string (P1 ++ P2)) W := fun W => run_string_add_sum (P := Tryz.prog) (w := W) _ _ (by first | omega | (simp only [ByteArray.size_append]; omega))
    have a2 : ∀ W : World, (Op.stringOp .add (P1 ++ P2) (P3)).run Tryz.prog W = .ok (.string (P1 ++ P2 ++ P3)) W := fun W => run_string_add_sum (P := Tryz.prog) (w := W) _ _ (by first | omega | (simp only [ByteArray.size_append]; omega))
    have a3 : ∀ W : World, (Op.stringOp .add (P1 ++ P2 ++ P3) (P4)).run Tryz.prog W = .ok (.string (P1 ++ P2 ++ P3 ++ P4)) W := fun W => run_string_add_sum (P := Tryz.prog) (w := W) _ _ (by first | omega | (simp only [ByteArray.size_append]; omega))
    have a4 : ∀ W : World, (Op.stringOp .add (P1 ++ P2 ++ P3 ++ P4) (P5)).run Tryz.prog W = .ok (.string (P1 ++ P2 ++ P3 ++ P4 ++ P5)) W := fun W => run_string_add_sum (P := Tryz.prog) (w := W) _ _ (by first | omega | (simp only [ByteArray.size_append]; omega))
    rw [hh0] at zh HS
    generalize hG : P1 ++ P2 ++ P3 ++ P4 ++ P5 = G at a4 zh HS
    have LL := Lib.hid hL
    have hgl : G.data.toList.length = G.size := by simp
    clear hs hh0 hG hL
    go_enter Tryz.func43, Tryz.ntmps43
    go_wp2_with fail
    refine C.out.mono ?_
    rintro r w1 ⟨rfl, hb1⟩
    have bx1 := bx_more hb0 hb1
    have hlt1 := bx_lt bx1
    obtain ⟨y0, y1, y2, y3, y4⟩ := box5 bx1
    have hbn := builder_new w1
    have bxn := bx_alloc bx1 (.cells #[.pointer none, .slice none 0 0] 100)
    have mkS : ∀ X : World, Below (w.heap.size + 1) (w.alloc (.cells #[.string b.stream, .int .i64 b.expect, .int .i64 b.session, .int .i64 b.seq, .slice a b.events.length cap] 28)) X → X.cell? ⟨w.heap.size, 0, none⟩ = some (.string b.stream) ∧ X.cell? ⟨w.heap.size, 1, none⟩ = some (.int .i64 b.expect) ∧ X.cell? ⟨w.heap.size, 2, none⟩ = some (.int .i64 b.session) ∧ X.cell? ⟨w.heap.size, 3, none⟩ = some (.int .i64 b.seq) ∧ X.cell? ⟨w.heap.size, 4, none⟩ = some (.slice a b.events.length cap) ∧ w.heap.size + 1 ≤ X.heap.size ∧ Below (w.heap.size + 1) (w.alloc (.cells #[.string b.stream, .int .i64 b.expect, .int .i64 b.session, .int .i64 b.seq, .slice a b.events.length cap] 28)) X := fun X hk => ⟨(box5 hk).1, (box5 hk).2.1, (box5 hk).2.2.1, (box5 hk).2.2.2.1, (box5 hk).2.2.2.2, by have := hk.size; simpa using this, hk⟩
    have keep : ∀ X X' : World, (X.cell? ⟨w.heap.size, 0, none⟩ = some (.string b.stream) ∧ X.cell? ⟨w.heap.size, 1, none⟩ = some (.int .i64 b.expect) ∧ X.cell? ⟨w.heap.size, 2, none⟩ = some (.int .i64 b.session) ∧ X.cell? ⟨w.heap.size, 3, none⟩ = some (.int .i64 b.seq) ∧ X.cell? ⟨w.heap.size, 4, none⟩ = some (.slice a b.events.length cap) ∧ w.heap.size + 1 ≤ X.heap.size ∧ Below (w.heap.size + 1) (w.alloc (.cells #[.string b.stream, .int .i64 b.expect, .int .i64 b.session, .int .i64 b.seq, .slice a b.events.length cap] 28)) X) → Below X.heap.size X X' → X'.cell? ⟨w.heap.size, 0, none⟩ = some (.string b.stream) ∧ X'.cell? ⟨w.heap.size, 1, none⟩ = some (.int .i64 b.expect) ∧ X'.cell? ⟨w.heap.size, 2, none⟩ = some (.int .i64 b.session) ∧ X'.cell? ⟨w.heap.size, 3, none⟩ = some (.int .i64 b.seq) ∧ X'.cell? ⟨w.heap.size, 4, none⟩ = some (.slice a b.events.length cap) ∧ w.heap.size + 1 ≤ X'.heap.size ∧ Below (w.heap.size + 1) (w.alloc (.cells #[.string b.stream, .int .i64 b.expect, .int .i64 b.session, .int .i64 b.seq, .slice a b.events.length cap] 28)) X' := fun X X' h k => mkS X' (bx_more h.2.2.2.2.2.2 k)
    have keepg : ∀ X X' : World, (X.cell? ⟨w.heap.size, 0, none⟩ = some (.string b.stream) ∧ X.cell? ⟨w.heap.size, 1, none⟩ = some (.int .i64 b.expect) ∧ X.cell? ⟨w.heap.size, 2, none⟩ = some (.int .i64 b.session) ∧ X.cell? ⟨w.heap.size, 3, none⟩ = some (.int .i64 b.seq) ∧ X.cell? ⟨w.heap.size, 4, none⟩ = some (.slice a b.events.length cap) ∧ w.heap.size + 1 ≤ X.heap.size ∧ Below (w.heap.size + 1) (w.alloc (.cells #[.string b.stream, .int .i64 b.expect, .int .i64 b.session, .int .i64 b.seq, .slice a b.events.length cap] 28)) X) → Below w1.heap.size X X' → X'.cell? ⟨w.heap.size, 0, none⟩ = some (.string b.stream) ∧ X'.cell? ⟨w.heap.size, 1, none⟩ = some (.int .i64 b.expect) ∧ X'.cell? ⟨w.heap.size, 2, none⟩ = some (.int .i64 b.session) ∧ X'.cell? ⟨w.heap.size, 3, none⟩ = some (.int .i64 b.seq) ∧ X'.cell? ⟨w.heap.size, 4, none⟩ = some (.slice a b.events.length cap) ∧ w.heap.size + 1 ≤ X'.heap.size ∧ Below (w.heap.size + 1) (w.alloc (.cells #[.string b.stream, .int .i64 b.expect, .int .i64 b.session, .int .i64 b.seq, .slice a b.events.length cap] 28)) X' := fun X X' h k => mkS X' (h.2.2.2.2.2.2.trans (k.mono hlt1))
    have hh := mkS _ bxn.drew
    have hbd : Lib.IsBuilder 100 5 w1.heap.size w1.heap.size (bcells ([])) (w1.alloc (.cells #[.pointer none, .slice none 0 0] 100)).drew := builder_below (Below.refl _ _).drew hbn
    have hsz : w1.heap.size ≤ (w1.alloc (.cells #[.pointer none, .slice none 0 0] 100)).drew.heap.size := by simp
    have HBD := Lib.hid hbd
    have MK := Lib.hid mkS
    have KEEP := Lib.hid keep
    have KEEPG := Lib.hid keepg
    clear mkS keep keepg hbd hbn bxn
    go_wp2_with fail
    go_region_held3 (fun X => X.cell? ⟨w.heap.size, 0, none⟩ = some (.string b.stream) ∧ X.cell? ⟨w.heap.size, 1, none⟩ = some (.int .i64 b.expect) ∧ X.cell? ⟨w.heap.size, 2, none⟩ = some (.int .i64 b.session) ∧ X.cell? ⟨w.heap.size, 3, none⟩ = some (.int .i64 b.seq) ∧ X.cell? ⟨w.heap.size, 4, none⟩ = some (.slice a b.events.length cap) ∧ w.heap.size + 1 ≤ X.heap.size ∧ Below (w.heap.size + 1) (w.alloc (.cells #[.string b.stream, .int .i64 b.expect, .int .i64 b.session, .int .i64 b.seq, .slice a b.events.length cap] 28)) X) (first | exact hh | exact KEEP.out _ _ (by assumption) (by assumption) | exact KEEPG.out _ _ (by assumption) (by assumption))
      (first
        | ((with_reducible refine (d1.out _).mono ?_); rintro r w2 ⟨rfl, hb2⟩)
        | ((with_reducible refine (d2.out _).mono ?_); rintro r w3 ⟨rfl, hb3⟩)
        | ((with_reducible refine (d3.out _).mono ?_); rintro r w4 ⟨rfl, hb4⟩)
        | ((with_reducible refine (d4.out _).mono ?_); rintro r w5 ⟨rfl, hb5⟩)
        | ((with_reducible refine (d5.out _).mono ?_); rintro r w6 ⟨rfl, hb6⟩)
        | ((with_reducible refine (writeString_any w1.heap.size w1.heap.size [] G _ (builder_below hb6 (builder_below hb5 (builder_below hb4 (builder_below hb3 (builder_below hb2 HBD.out))))) (by simp only [List.length_nil]; omega) (Nat.le_trans hsz (Nat.le_trans hb2.size (Nat.le_trans hb3.size (Nat.le_trans hb4.size (Nat.le_trans hb5.size hb6.size)))))).mono ?_); rintro r w7 ⟨rfl, hbd7, hb7⟩))
    have hK7 := KEEPG.out _ _ (KEEP.out _ _ (KEEP.out _ _ (KEEP.out _ _ (KEEP.out _ _ (KEEP.out _ _ hh hb2) hb3) hb4) hb5) hb6) hb7
    have hbd7' : Lib.IsBuilder 100 5 w1.heap.size w1.heap.size (bcells (G.data.toList ++ bodyL (b.events.take 0))) w7 := by simpa [bodyL] using hbd7
    obtain ⟨y0, y1, y2, y3, y4, hz7, bx7⟩ := hK7
    have HBD7 := Lib.hid hbd7'
    have hle7 : w1.heap.size ≤ w7.heap.size := Nat.le_trans (Nat.le_trans hsz (Nat.le_trans hb2.size (Nat.le_trans hb3.size (Nat.le_trans hb4.size (Nat.le_trans hb5.size hb6.size))))) hb7.size
    clear a1 a2 a3 a4 hh hbd7 hbd7'
    go_wp2_with fail
    go_loopw [5, 33] (fun _ t33 wr => ∃ k : Nat, k ≤ b.events.length ∧ t33 = .int .i64 k ∧ Lib.IsBuilder 100 5 w1.heap.size w1.heap.size (bcells (G.data.toList ++ bodyL (b.events.take k))) wr ∧ Below (w.heap.size + 1) (w.alloc (.cells #[.string b.stream, .int .i64 b.expect, .int .i64 b.session, .int .i64 b.seq, .slice a b.events.length cap] 28)) wr ∧ w1.heap.size ≤ wr.heap.size) (fun _ t33 _ => b.events.length - (intOf t33).toNat)
    case atStart => exact ⟨0, Nat.zero_le _, rfl, HBD7.out, bx7, hle7⟩
    case round =>
      obtain ⟨k, hk, rfl, hbk, bxk, hlek⟩ := hrel
      obtain ⟨y0, y1, y2, y3, y4, _, _⟩ := MK.out wr bxk
      have HBK := Lib.hid hbk
      clear hbk
      have zb := bodyL_size (l := b.events.take k) (fun x hx => LL.out.e x (List.mem_of_mem_take hx))
      rw [List.length_take] at zb
      by_cases hlt : k < b.events.length
      · obtain ⟨bb, off, cap', he, hblk, _, hc1, hc2⟩ := (HL.out.keep (bx_below bxk) hB).get k hlt
        obtain ⟨rfl, -, rfl⟩ : a = some ⟨bb, off, none⟩ ∧ b.events.length = b.events.length ∧ cap = cap' := by injection he with e1 e2 e3; exact ⟨e1, e2, e3⟩
        clear he
        have hly : LightE b.events[k] := LL.out.e _ (List.getElem_mem hlt)
        have zy := bytesE_size hly
        have hby : (bytesE b.events[k]).data.toList.length = (bytesE b.events[k]).size := by simp
        have HTK := Lib.hid (bodyL_take hlt)
        obtain ⟨y, hy⟩ : ∃ y, b.events[k] = y := ⟨_, rfl⟩
        rw [hy] at hc1 hc2 hly zy hby HTK
        have D := Lib.hid (bytes_any y hly)
        obtain ⟨Y, hY⟩ : ∃ Y, bytesE y = Y := ⟨_, rfl⟩
        rw [hY] at D zy hby HTK
        have i1 : (0 : Int) ≤ (k : Int) := by omega
        have i2 : (k : Int) < (b.events.length : Int) := by omega
        clear hy hY hly
        go_wp2_with fail
        refine (D.out _).mono ?_
        rintro r w8 ⟨rfl, hb8⟩
        have hle8 : w1.heap.size ≤ w8.heap.size := Nat.le_trans (Nat.le_trans hlek (by simp)) hb8.size
        go_wp2_with fail
        refine (writeString_any w1.heap.size w1.heap.size _ Y _ (builder_below hb8 (builder_below ((Below.refl _ _).alloc (Nat.le_refl _) _) HBK.out)) (by rw [List.length_append]; omega) hle8).mono ?_
        rintro r w9 ⟨rfl, hbd9, hb9⟩
        have HBD9 := Lib.hid hbd9
        have bx9 := ((bx_more (bx_alloc bxk _) hb8).trans (hb9.mono hlt1))
        clear hbd9
        go_wp2_with fail
        go_roundw
        case rel =>
          refine ⟨k + 1, by omega, by go_num, ?_, bx9, Nat.le_trans hle8 hb9.size⟩
          rw [HTK.out, ← List.append_assoc]
          exact HBD9.out
        case measure => simp [intOf]; omega
      · have g : ¬ ((k : Int) < (b.events.length : Int)) := by omega
        have hkl : b.events.take k = b.events := List.take_of_length_le (by omega)
        rw [hkl] at HBK
        clear hkl
        go_wp2_with fail
        refine (builder_string _ _ _ _ HBK.out hlek).mono ?_
        rintro r w8 ⟨rfl, hb8⟩
        go_wp2_with fail
        go_ret
        exact ⟨ret_str HS.out, (bx_below bxk).trans (hb8.mono (by omega))⟩
  · rw [if_neg h0] at hs
    subst hs
    have g0 : ((q : Int) != 0) = true := by simp; omega
    clear hL
    go_enter Tryz.func43, Tryz.ntmps43
    go_wp2_with fail
    refine C.out.mono ?_
    rintro r w1 ⟨rfl, hb1⟩
    go_wp2_with fail
    go_ret
    exact ⟨rfl, bx_below (bx_more hb0 hb1)⟩
end Go.Proofs.YtflojipkgaocnaaGreatDoor
