/-
  The walk of bucketlinelaw7.made. Printed by gen_msmade.py of this claim's writer.
-/
import Derived.Test.YtflojipkgaocnaaGreatDoorMsOpen
import Derived.WalkKit
namespace Go.Proofs.YtflojipkgaocnaaGreatDoor
open Go.RowKit
set_option linter.unusedSimpArgs false
set_option linter.unusedVariables false

/-- The message of some parts. -/
def madeD (d : DW) : Option Msg :=
  if d.kind = 1 then some (.beat d.n0 d.n1 d.n2)
  else if d.kind = 2 then some (.join d.n0 d.n1)
  else if d.kind = 3 then some (.lease d.n0 d.n1)
  else if d.kind = 4 then some (.view d.n0 d.chain d.since d.boot)
  else if d.kind = 5 then some (.whr d.n0)
  else if d.kind = 6 then some (.hav d.n0 d.n1 d.n2 d.marks)
  else if d.kind = 7 then some (.logs d.n0 d.n1 d.n2 d.n3 d.n4 d.n5 d.entries)
  else if d.kind = 8 then some (.ack d.n0 d.n1 d.n2)
  else if d.kind = 9 then some (.ask d.n0 d.n1 d.n2 d.n3)
  else if d.kind = 10 then some (.told d.n0 d.n1 d.n2 d.n3)
  else if d.kind = 11 then some (.app d.n0 d.b)
  else if d.kind = 12 then some (.red d.n0 d.stream d.n1)
  else if d.kind = 13 then some (.rep d.n0 d.n1 d.n2 d.n3 d.n4 d.n5)
  else if d.kind = 14 then some (.res d.n0 d.n1 d.n2 d.events)
  else none
/-- A message, or nil. -/
def GotMade (x : Option Msg) (w : World) (r : Ending) (w' : World) : Prop := ∃ v, r = .returned v ∧ (x = none → v = .nilIface) ∧ (∀ m, x = some m → IsMsg w'.heap.size w' v m) ∧ Below w.heap.size w w'

set_option maxRecDepth 100000 in
set_option maxHeartbeats 3200000 in
theorem made_beat (B : Nat) (n0 n1 n2 n3 n4 n5 : Int) (ch si bo : List Int) (mk : List (Int × Int)) (en : List EN) (ev : List EV) (b : BW) (st : ByteArray) (ca sa ba ma ea va la : Option Addr) (ck sk bk mc ec vk lk : Nat) (w : World) (h : DOk B w ⟨1, n0, n1, n2, n3, n4, n5, ch, si, bo, mk, en, ev, b, st⟩ ⟨.slice ca ch.length ck, .slice sa si.length sk, .slice ba bo.length bk, .slice ma mk.length mc, .slice ea en.length ec, .slice va ev.length vk, .slice la b.events.length lk⟩) (hB : B ≤ w.heap.size) :
    Calls Tryz.prog 6 #[.agg #[.int .i64 1, .int .i64 n0, .int .i64 n1, .int .i64 n2, .int .i64 n3, .int .i64 n4, .int .i64 n5, .slice ca ch.length ck, .slice sa si.length sk, .slice ba bo.length bk, .slice ma mk.length mc, .slice ea en.length ec, .slice va ev.length vk, .string b.stream, .int .i64 b.expect, .int .i64 b.session, .int .i64 b.seq, .slice la b.events.length lk, .string st]] w fun r w' => GotMade (some (.beat n0 n1 n2)) w r w' := by
  have HBW := ((Below.refl w.heap.size w).alloc (Nat.le_refl _) (.cells #[.int .i64 1, .int .i64 n0, .int .i64 n1, .int .i64 n2, .int .i64 n3, .int .i64 n4, .int .i64 n5, .slice ca ch.length ck, .slice sa si.length sk, .slice ba bo.length bk, .slice ma mk.length mc, .slice ea en.length ec, .slice va ev.length vk, .string b.stream, .int .i64 b.expect, .int .i64 b.session, .int .i64 b.seq, .slice la b.events.length lk, .string st] 30)).alloc (by rw [World.size_alloc]; omega) (.cells #[.int .i64 n0, .int .i64 n1, .int .i64 n2, .int .i64 n3, .int .i64 n4, .int .i64 n5] 22)
  have H := Lib.hid h
  have HB := Lib.hid HBW
  clear h HBW
  go_enter Tryz.func6, Tryz.ntmps6
  go_wp2_with fail
  go_ret
  have h := H.out
  have HBW := HB.out
  exact ⟨_, rfl, (fun e => by cases e), (fun m e => by cases e; exact rfl), HBW⟩

set_option maxRecDepth 100000 in
set_option maxHeartbeats 3200000 in
theorem made_join (B : Nat) (n0 n1 n2 n3 n4 n5 : Int) (ch si bo : List Int) (mk : List (Int × Int)) (en : List EN) (ev : List EV) (b : BW) (st : ByteArray) (ca sa ba ma ea va la : Option Addr) (ck sk bk mc ec vk lk : Nat) (w : World) (h : DOk B w ⟨2, n0, n1, n2, n3, n4, n5, ch, si, bo, mk, en, ev, b, st⟩ ⟨.slice ca ch.length ck, .slice sa si.length sk, .slice ba bo.length bk, .slice ma mk.length mc, .slice ea en.length ec, .slice va ev.length vk, .slice la b.events.length lk⟩) (hB : B ≤ w.heap.size) :
    Calls Tryz.prog 6 #[.agg #[.int .i64 2, .int .i64 n0, .int .i64 n1, .int .i64 n2, .int .i64 n3, .int .i64 n4, .int .i64 n5, .slice ca ch.length ck, .slice sa si.length sk, .slice ba bo.length bk, .slice ma mk.length mc, .slice ea en.length ec, .slice va ev.length vk, .string b.stream, .int .i64 b.expect, .int .i64 b.session, .int .i64 b.seq, .slice la b.events.length lk, .string st]] w fun r w' => GotMade (some (.join n0 n1)) w r w' := by
  have HBW := ((Below.refl w.heap.size w).alloc (Nat.le_refl _) (.cells #[.int .i64 2, .int .i64 n0, .int .i64 n1, .int .i64 n2, .int .i64 n3, .int .i64 n4, .int .i64 n5, .slice ca ch.length ck, .slice sa si.length sk, .slice ba bo.length bk, .slice ma mk.length mc, .slice ea en.length ec, .slice va ev.length vk, .string b.stream, .int .i64 b.expect, .int .i64 b.session, .int .i64 b.seq, .slice la b.events.length lk, .string st] 30)).alloc (by rw [World.size_alloc]; omega) (.cells #[.int .i64 n0, .int .i64 n1, .int .i64 n2, .int .i64 n3, .int .i64 n4, .int .i64 n5] 22)
  have H := Lib.hid h
  have HB := Lib.hid HBW
  clear h HBW
  go_enter Tryz.func6, Tryz.ntmps6
  go_wp2_with fail
  go_ret
  have h := H.out
  have HBW := HB.out
  exact ⟨_, rfl, (fun e => by cases e), (fun m e => by cases e; exact rfl), HBW⟩

set_option maxRecDepth 100000 in
set_option maxHeartbeats 3200000 in
theorem made_lease (B : Nat) (n0 n1 n2 n3 n4 n5 : Int) (ch si bo : List Int) (mk : List (Int × Int)) (en : List EN) (ev : List EV) (b : BW) (st : ByteArray) (ca sa ba ma ea va la : Option Addr) (ck sk bk mc ec vk lk : Nat) (w : World) (h : DOk B w ⟨3, n0, n1, n2, n3, n4, n5, ch, si, bo, mk, en, ev, b, st⟩ ⟨.slice ca ch.length ck, .slice sa si.length sk, .slice ba bo.length bk, .slice ma mk.length mc, .slice ea en.length ec, .slice va ev.length vk, .slice la b.events.length lk⟩) (hB : B ≤ w.heap.size) :
    Calls Tryz.prog 6 #[.agg #[.int .i64 3, .int .i64 n0, .int .i64 n1, .int .i64 n2, .int .i64 n3, .int .i64 n4, .int .i64 n5, .slice ca ch.length ck, .slice sa si.length sk, .slice ba bo.length bk, .slice ma mk.length mc, .slice ea en.length ec, .slice va ev.length vk, .string b.stream, .int .i64 b.expect, .int .i64 b.session, .int .i64 b.seq, .slice la b.events.length lk, .string st]] w fun r w' => GotMade (some (.lease n0 n1)) w r w' := by
  have HBW := ((Below.refl w.heap.size w).alloc (Nat.le_refl _) (.cells #[.int .i64 3, .int .i64 n0, .int .i64 n1, .int .i64 n2, .int .i64 n3, .int .i64 n4, .int .i64 n5, .slice ca ch.length ck, .slice sa si.length sk, .slice ba bo.length bk, .slice ma mk.length mc, .slice ea en.length ec, .slice va ev.length vk, .string b.stream, .int .i64 b.expect, .int .i64 b.session, .int .i64 b.seq, .slice la b.events.length lk, .string st] 30)).alloc (by rw [World.size_alloc]; omega) (.cells #[.int .i64 n0, .int .i64 n1, .int .i64 n2, .int .i64 n3, .int .i64 n4, .int .i64 n5] 22)
  have H := Lib.hid h
  have HB := Lib.hid HBW
  clear h HBW
  go_enter Tryz.func6, Tryz.ntmps6
  go_wp2_with fail
  go_ret
  have h := H.out
  have HBW := HB.out
  exact ⟨_, rfl, (fun e => by cases e), (fun m e => by cases e; exact rfl), HBW⟩

set_option maxRecDepth 100000 in
set_option maxHeartbeats 3200000 in
theorem made_view (B : Nat) (n0 n1 n2 n3 n4 n5 : Int) (ch si bo : List Int) (mk : List (Int × Int)) (en : List EN) (ev : List EV) (b : BW) (st : ByteArray) (ca sa ba ma ea va la : Option Addr) (ck sk bk mc ec vk lk : Nat) (w : World) (h : DOk B w ⟨4, n0, n1, n2, n3, n4, n5, ch, si, bo, mk, en, ev, b, st⟩ ⟨.slice ca ch.length ck, .slice sa si.length sk, .slice ba bo.length bk, .slice ma mk.length mc, .slice ea en.length ec, .slice va ev.length vk, .slice la b.events.length lk⟩) (hB : B ≤ w.heap.size) :
    Calls Tryz.prog 6 #[.agg #[.int .i64 4, .int .i64 n0, .int .i64 n1, .int .i64 n2, .int .i64 n3, .int .i64 n4, .int .i64 n5, .slice ca ch.length ck, .slice sa si.length sk, .slice ba bo.length bk, .slice ma mk.length mc, .slice ea en.length ec, .slice va ev.length vk, .string b.stream, .int .i64 b.expect, .int .i64 b.session, .int .i64 b.seq, .slice la b.events.length lk, .string st]] w fun r w' => GotMade (some (.view n0 ch si bo)) w r w' := by
  have HBW := ((Below.refl w.heap.size w).alloc (Nat.le_refl _) (.cells #[.int .i64 4, .int .i64 n0, .int .i64 n1, .int .i64 n2, .int .i64 n3, .int .i64 n4, .int .i64 n5, .slice ca ch.length ck, .slice sa si.length sk, .slice ba bo.length bk, .slice ma mk.length mc, .slice ea en.length ec, .slice va ev.length vk, .string b.stream, .int .i64 b.expect, .int .i64 b.session, .int .i64 b.seq, .slice la b.events.length lk, .string st] 30)).alloc (by rw [World.size_alloc]; omega) (.cells #[.int .i64 n0, .int .i64 n1, .int .i64 n2, .int .i64 n3, .int .i64 n4, .int .i64 n5] 22)
  have H := Lib.hid h
  have HB := Lib.hid HBW
  clear h HBW
  go_enter Tryz.func6, Tryz.ntmps6
  go_wp2_with fail
  go_ret
  have h := H.out
  have HBW := HB.out
  exact ⟨_, rfl, (fun e => by cases e), (fun m e => by cases e; exact ⟨_, _, _, rfl, (h.c.keep HBW hB).up (Nat.le_trans hB HBW.size), (h.i.keep HBW hB).up (Nat.le_trans hB HBW.size), (h.o.keep HBW hB).up (Nat.le_trans hB HBW.size)⟩), HBW⟩

set_option maxRecDepth 100000 in
set_option maxHeartbeats 3200000 in
theorem made_whr (B : Nat) (n0 n1 n2 n3 n4 n5 : Int) (ch si bo : List Int) (mk : List (Int × Int)) (en : List EN) (ev : List EV) (b : BW) (st : ByteArray) (ca sa ba ma ea va la : Option Addr) (ck sk bk mc ec vk lk : Nat) (w : World) (h : DOk B w ⟨5, n0, n1, n2, n3, n4, n5, ch, si, bo, mk, en, ev, b, st⟩ ⟨.slice ca ch.length ck, .slice sa si.length sk, .slice ba bo.length bk, .slice ma mk.length mc, .slice ea en.length ec, .slice va ev.length vk, .slice la b.events.length lk⟩) (hB : B ≤ w.heap.size) :
    Calls Tryz.prog 6 #[.agg #[.int .i64 5, .int .i64 n0, .int .i64 n1, .int .i64 n2, .int .i64 n3, .int .i64 n4, .int .i64 n5, .slice ca ch.length ck, .slice sa si.length sk, .slice ba bo.length bk, .slice ma mk.length mc, .slice ea en.length ec, .slice va ev.length vk, .string b.stream, .int .i64 b.expect, .int .i64 b.session, .int .i64 b.seq, .slice la b.events.length lk, .string st]] w fun r w' => GotMade (some (.whr n0)) w r w' := by
  have HBW := ((Below.refl w.heap.size w).alloc (Nat.le_refl _) (.cells #[.int .i64 5, .int .i64 n0, .int .i64 n1, .int .i64 n2, .int .i64 n3, .int .i64 n4, .int .i64 n5, .slice ca ch.length ck, .slice sa si.length sk, .slice ba bo.length bk, .slice ma mk.length mc, .slice ea en.length ec, .slice va ev.length vk, .string b.stream, .int .i64 b.expect, .int .i64 b.session, .int .i64 b.seq, .slice la b.events.length lk, .string st] 30)).alloc (by rw [World.size_alloc]; omega) (.cells #[.int .i64 n0, .int .i64 n1, .int .i64 n2, .int .i64 n3, .int .i64 n4, .int .i64 n5] 22)
  have H := Lib.hid h
  have HB := Lib.hid HBW
  clear h HBW
  go_enter Tryz.func6, Tryz.ntmps6
  go_wp2_with fail
  go_ret
  have h := H.out
  have HBW := HB.out
  exact ⟨_, rfl, (fun e => by cases e), (fun m e => by cases e; exact rfl), HBW⟩

set_option maxRecDepth 100000 in
set_option maxHeartbeats 3200000 in
theorem made_hav (B : Nat) (n0 n1 n2 n3 n4 n5 : Int) (ch si bo : List Int) (mk : List (Int × Int)) (en : List EN) (ev : List EV) (b : BW) (st : ByteArray) (ca sa ba ma ea va la : Option Addr) (ck sk bk mc ec vk lk : Nat) (w : World) (h : DOk B w ⟨6, n0, n1, n2, n3, n4, n5, ch, si, bo, mk, en, ev, b, st⟩ ⟨.slice ca ch.length ck, .slice sa si.length sk, .slice ba bo.length bk, .slice ma mk.length mc, .slice ea en.length ec, .slice va ev.length vk, .slice la b.events.length lk⟩) (hB : B ≤ w.heap.size) :
    Calls Tryz.prog 6 #[.agg #[.int .i64 6, .int .i64 n0, .int .i64 n1, .int .i64 n2, .int .i64 n3, .int .i64 n4, .int .i64 n5, .slice ca ch.length ck, .slice sa si.length sk, .slice ba bo.length bk, .slice ma mk.length mc, .slice ea en.length ec, .slice va ev.length vk, .string b.stream, .int .i64 b.expect, .int .i64 b.session, .int .i64 b.seq, .slice la b.events.length lk, .string st]] w fun r w' => GotMade (some (.hav n0 n1 n2 mk)) w r w' := by
  have HBW := ((Below.refl w.heap.size w).alloc (Nat.le_refl _) (.cells #[.int .i64 6, .int .i64 n0, .int .i64 n1, .int .i64 n2, .int .i64 n3, .int .i64 n4, .int .i64 n5, .slice ca ch.length ck, .slice sa si.length sk, .slice ba bo.length bk, .slice ma mk.length mc, .slice ea en.length ec, .slice va ev.length vk, .string b.stream, .int .i64 b.expect, .int .i64 b.session, .int .i64 b.seq, .slice la b.events.length lk, .string st] 30)).alloc (by rw [World.size_alloc]; omega) (.cells #[.int .i64 n0, .int .i64 n1, .int .i64 n2, .int .i64 n3, .int .i64 n4, .int .i64 n5] 22)
  have H := Lib.hid h
  have HB := Lib.hid HBW
  clear h HBW
  go_enter Tryz.func6, Tryz.ntmps6
  go_wp2_with fail
  go_ret
  have h := H.out
  have HBW := HB.out
  exact ⟨_, rfl, (fun e => by cases e), (fun m e => by cases e; exact ⟨_, rfl, (h.m.keep HBW hB).up (Nat.le_trans hB HBW.size)⟩), HBW⟩

set_option maxRecDepth 100000 in
set_option maxHeartbeats 3200000 in
theorem made_logs (B : Nat) (n0 n1 n2 n3 n4 n5 : Int) (ch si bo : List Int) (mk : List (Int × Int)) (en : List EN) (ev : List EV) (b : BW) (st : ByteArray) (ca sa ba ma ea va la : Option Addr) (ck sk bk mc ec vk lk : Nat) (w : World) (h : DOk B w ⟨7, n0, n1, n2, n3, n4, n5, ch, si, bo, mk, en, ev, b, st⟩ ⟨.slice ca ch.length ck, .slice sa si.length sk, .slice ba bo.length bk, .slice ma mk.length mc, .slice ea en.length ec, .slice va ev.length vk, .slice la b.events.length lk⟩) (hB : B ≤ w.heap.size) :
    Calls Tryz.prog 6 #[.agg #[.int .i64 7, .int .i64 n0, .int .i64 n1, .int .i64 n2, .int .i64 n3, .int .i64 n4, .int .i64 n5, .slice ca ch.length ck, .slice sa si.length sk, .slice ba bo.length bk, .slice ma mk.length mc, .slice ea en.length ec, .slice va ev.length vk, .string b.stream, .int .i64 b.expect, .int .i64 b.session, .int .i64 b.seq, .slice la b.events.length lk, .string st]] w fun r w' => GotMade (some (.logs n0 n1 n2 n3 n4 n5 en)) w r w' := by
  have HBW := ((Below.refl w.heap.size w).alloc (Nat.le_refl _) (.cells #[.int .i64 7, .int .i64 n0, .int .i64 n1, .int .i64 n2, .int .i64 n3, .int .i64 n4, .int .i64 n5, .slice ca ch.length ck, .slice sa si.length sk, .slice ba bo.length bk, .slice ma mk.length mc, .slice ea en.length ec, .slice va ev.length vk, .string b.stream, .int .i64 b.expect, .int .i64 b.session, .int .i64 b.seq, .slice la b.events.length lk, .string st] 30)).alloc (by rw [World.size_alloc]; omega) (.cells #[.int .i64 n0, .int .i64 n1, .int .i64 n2, .int .i64 n3, .int .i64 n4, .int .i64 n5] 22)
  have H := Lib.hid h
  have HB := Lib.hid HBW
  clear h HBW
  go_enter Tryz.func6, Tryz.ntmps6
  go_wp2_with fail
  go_ret
  have h := H.out
  have HBW := HB.out
  exact ⟨_, rfl, (fun e => by cases e), (fun m e => by cases e; exact ⟨_, rfl, (h.e.keep HBW hB).up (Nat.le_trans hB HBW.size)⟩), HBW⟩

set_option maxRecDepth 100000 in
set_option maxHeartbeats 3200000 in
theorem made_ack (B : Nat) (n0 n1 n2 n3 n4 n5 : Int) (ch si bo : List Int) (mk : List (Int × Int)) (en : List EN) (ev : List EV) (b : BW) (st : ByteArray) (ca sa ba ma ea va la : Option Addr) (ck sk bk mc ec vk lk : Nat) (w : World) (h : DOk B w ⟨8, n0, n1, n2, n3, n4, n5, ch, si, bo, mk, en, ev, b, st⟩ ⟨.slice ca ch.length ck, .slice sa si.length sk, .slice ba bo.length bk, .slice ma mk.length mc, .slice ea en.length ec, .slice va ev.length vk, .slice la b.events.length lk⟩) (hB : B ≤ w.heap.size) :
    Calls Tryz.prog 6 #[.agg #[.int .i64 8, .int .i64 n0, .int .i64 n1, .int .i64 n2, .int .i64 n3, .int .i64 n4, .int .i64 n5, .slice ca ch.length ck, .slice sa si.length sk, .slice ba bo.length bk, .slice ma mk.length mc, .slice ea en.length ec, .slice va ev.length vk, .string b.stream, .int .i64 b.expect, .int .i64 b.session, .int .i64 b.seq, .slice la b.events.length lk, .string st]] w fun r w' => GotMade (some (.ack n0 n1 n2)) w r w' := by
  have HBW := ((Below.refl w.heap.size w).alloc (Nat.le_refl _) (.cells #[.int .i64 8, .int .i64 n0, .int .i64 n1, .int .i64 n2, .int .i64 n3, .int .i64 n4, .int .i64 n5, .slice ca ch.length ck, .slice sa si.length sk, .slice ba bo.length bk, .slice ma mk.length mc, .slice ea en.length ec, .slice va ev.length vk, .string b.stream, .int .i64 b.expect, .int .i64 b.session, .int .i64 b.seq, .slice la b.events.length lk, .string st] 30)).alloc (by rw [World.size_alloc]; omega) (.cells #[.int .i64 n0, .int .i64 n1, .int .i64 n2, .int .i64 n3, .int .i64 n4, .int .i64 n5] 22)
  have H := Lib.hid h
  have HB := Lib.hid HBW
  clear h HBW
  go_enter Tryz.func6, Tryz.ntmps6
  go_wp2_with fail
  go_ret
  have h := H.out
  have HBW := HB.out
  exact ⟨_, rfl, (fun e => by cases e), (fun m e => by cases e; exact rfl), HBW⟩

set_option maxRecDepth 100000 in
set_option maxHeartbeats 3200000 in
theorem made_ask (B : Nat) (n0 n1 n2 n3 n4 n5 : Int) (ch si bo : List Int) (mk : List (Int × Int)) (en : List EN) (ev : List EV) (b : BW) (st : ByteArray) (ca sa ba ma ea va la : Option Addr) (ck sk bk mc ec vk lk : Nat) (w : World) (h : DOk B w ⟨9, n0, n1, n2, n3, n4, n5, ch, si, bo, mk, en, ev, b, st⟩ ⟨.slice ca ch.length ck, .slice sa si.length sk, .slice ba bo.length bk, .slice ma mk.length mc, .slice ea en.length ec, .slice va ev.length vk, .slice la b.events.length lk⟩) (hB : B ≤ w.heap.size) :
    Calls Tryz.prog 6 #[.agg #[.int .i64 9, .int .i64 n0, .int .i64 n1, .int .i64 n2, .int .i64 n3, .int .i64 n4, .int .i64 n5, .slice ca ch.length ck, .slice sa si.length sk, .slice ba bo.length bk, .slice ma mk.length mc, .slice ea en.length ec, .slice va ev.length vk, .string b.stream, .int .i64 b.expect, .int .i64 b.session, .int .i64 b.seq, .slice la b.events.length lk, .string st]] w fun r w' => GotMade (some (.ask n0 n1 n2 n3)) w r w' := by
  have HBW := ((Below.refl w.heap.size w).alloc (Nat.le_refl _) (.cells #[.int .i64 9, .int .i64 n0, .int .i64 n1, .int .i64 n2, .int .i64 n3, .int .i64 n4, .int .i64 n5, .slice ca ch.length ck, .slice sa si.length sk, .slice ba bo.length bk, .slice ma mk.length mc, .slice ea en.length ec, .slice va ev.length vk, .string b.stream, .int .i64 b.expect, .int .i64 b.session, .int .i64 b.seq, .slice la b.events.length lk, .string st] 30)).alloc (by rw [World.size_alloc]; omega) (.cells #[.int .i64 n0, .int .i64 n1, .int .i64 n2, .int .i64 n3, .int .i64 n4, .int .i64 n5] 22)
  have H := Lib.hid h
  have HB := Lib.hid HBW
  clear h HBW
  go_enter Tryz.func6, Tryz.ntmps6
  go_wp2_with fail
  go_ret
  have h := H.out
  have HBW := HB.out
  exact ⟨_, rfl, (fun e => by cases e), (fun m e => by cases e; exact rfl), HBW⟩

set_option maxRecDepth 100000 in
set_option maxHeartbeats 3200000 in
theorem made_told (B : Nat) (n0 n1 n2 n3 n4 n5 : Int) (ch si bo : List Int) (mk : List (Int × Int)) (en : List EN) (ev : List EV) (b : BW) (st : ByteArray) (ca sa ba ma ea va la : Option Addr) (ck sk bk mc ec vk lk : Nat) (w : World) (h : DOk B w ⟨10, n0, n1, n2, n3, n4, n5, ch, si, bo, mk, en, ev, b, st⟩ ⟨.slice ca ch.length ck, .slice sa si.length sk, .slice ba bo.length bk, .slice ma mk.length mc, .slice ea en.length ec, .slice va ev.length vk, .slice la b.events.length lk⟩) (hB : B ≤ w.heap.size) :
    Calls Tryz.prog 6 #[.agg #[.int .i64 10, .int .i64 n0, .int .i64 n1, .int .i64 n2, .int .i64 n3, .int .i64 n4, .int .i64 n5, .slice ca ch.length ck, .slice sa si.length sk, .slice ba bo.length bk, .slice ma mk.length mc, .slice ea en.length ec, .slice va ev.length vk, .string b.stream, .int .i64 b.expect, .int .i64 b.session, .int .i64 b.seq, .slice la b.events.length lk, .string st]] w fun r w' => GotMade (some (.told n0 n1 n2 n3)) w r w' := by
  have HBW := ((Below.refl w.heap.size w).alloc (Nat.le_refl _) (.cells #[.int .i64 10, .int .i64 n0, .int .i64 n1, .int .i64 n2, .int .i64 n3, .int .i64 n4, .int .i64 n5, .slice ca ch.length ck, .slice sa si.length sk, .slice ba bo.length bk, .slice ma mk.length mc, .slice ea en.length ec, .slice va ev.length vk, .string b.stream, .int .i64 b.expect, .int .i64 b.session, .int .i64 b.seq, .slice la b.events.length lk, .string st] 30)).alloc (by rw [World.size_alloc]; omega) (.cells #[.int .i64 n0, .int .i64 n1, .int .i64 n2, .int .i64 n3, .int .i64 n4, .int .i64 n5] 22)
  have H := Lib.hid h
  have HB := Lib.hid HBW
  clear h HBW
  go_enter Tryz.func6, Tryz.ntmps6
  go_wp2_with fail
  go_ret
  have h := H.out
  have HBW := HB.out
  exact ⟨_, rfl, (fun e => by cases e), (fun m e => by cases e; exact rfl), HBW⟩

set_option maxRecDepth 100000 in
set_option maxHeartbeats 3200000 in
theorem made_app (B : Nat) (n0 n1 n2 n3 n4 n5 : Int) (ch si bo : List Int) (mk : List (Int × Int)) (en : List EN) (ev : List EV) (b : BW) (st : ByteArray) (ca sa ba ma ea va la : Option Addr) (ck sk bk mc ec vk lk : Nat) (w : World) (h : DOk B w ⟨11, n0, n1, n2, n3, n4, n5, ch, si, bo, mk, en, ev, b, st⟩ ⟨.slice ca ch.length ck, .slice sa si.length sk, .slice ba bo.length bk, .slice ma mk.length mc, .slice ea en.length ec, .slice va ev.length vk, .slice la b.events.length lk⟩) (hB : B ≤ w.heap.size) :
    Calls Tryz.prog 6 #[.agg #[.int .i64 11, .int .i64 n0, .int .i64 n1, .int .i64 n2, .int .i64 n3, .int .i64 n4, .int .i64 n5, .slice ca ch.length ck, .slice sa si.length sk, .slice ba bo.length bk, .slice ma mk.length mc, .slice ea en.length ec, .slice va ev.length vk, .string b.stream, .int .i64 b.expect, .int .i64 b.session, .int .i64 b.seq, .slice la b.events.length lk, .string st]] w fun r w' => GotMade (some (.app n0 b)) w r w' := by
  have HBW := ((Below.refl w.heap.size w).alloc (Nat.le_refl _) (.cells #[.int .i64 11, .int .i64 n0, .int .i64 n1, .int .i64 n2, .int .i64 n3, .int .i64 n4, .int .i64 n5, .slice ca ch.length ck, .slice sa si.length sk, .slice ba bo.length bk, .slice ma mk.length mc, .slice ea en.length ec, .slice va ev.length vk, .string b.stream, .int .i64 b.expect, .int .i64 b.session, .int .i64 b.seq, .slice la b.events.length lk, .string st] 30)).alloc (by rw [World.size_alloc]; omega) (.cells #[.int .i64 n0, .int .i64 n1, .int .i64 n2, .int .i64 n3, .int .i64 n4, .int .i64 n5] 22)
  have H := Lib.hid h
  have HB := Lib.hid HBW
  clear h HBW
  go_enter Tryz.func6, Tryz.ntmps6
  go_wp2_with fail
  go_ret
  have h := H.out
  have HBW := HB.out
  exact ⟨_, rfl, (fun e => by cases e), (fun m e => by cases e; exact ⟨_, rfl, (h.b.keep HBW hB).up (Nat.le_trans hB HBW.size)⟩), HBW⟩

set_option maxRecDepth 100000 in
set_option maxHeartbeats 3200000 in
theorem made_red (B : Nat) (n0 n1 n2 n3 n4 n5 : Int) (ch si bo : List Int) (mk : List (Int × Int)) (en : List EN) (ev : List EV) (b : BW) (st : ByteArray) (ca sa ba ma ea va la : Option Addr) (ck sk bk mc ec vk lk : Nat) (w : World) (h : DOk B w ⟨12, n0, n1, n2, n3, n4, n5, ch, si, bo, mk, en, ev, b, st⟩ ⟨.slice ca ch.length ck, .slice sa si.length sk, .slice ba bo.length bk, .slice ma mk.length mc, .slice ea en.length ec, .slice va ev.length vk, .slice la b.events.length lk⟩) (hB : B ≤ w.heap.size) :
    Calls Tryz.prog 6 #[.agg #[.int .i64 12, .int .i64 n0, .int .i64 n1, .int .i64 n2, .int .i64 n3, .int .i64 n4, .int .i64 n5, .slice ca ch.length ck, .slice sa si.length sk, .slice ba bo.length bk, .slice ma mk.length mc, .slice ea en.length ec, .slice va ev.length vk, .string b.stream, .int .i64 b.expect, .int .i64 b.session, .int .i64 b.seq, .slice la b.events.length lk, .string st]] w fun r w' => GotMade (some (.red n0 st n1)) w r w' := by
  have HBW := ((Below.refl w.heap.size w).alloc (Nat.le_refl _) (.cells #[.int .i64 12, .int .i64 n0, .int .i64 n1, .int .i64 n2, .int .i64 n3, .int .i64 n4, .int .i64 n5, .slice ca ch.length ck, .slice sa si.length sk, .slice ba bo.length bk, .slice ma mk.length mc, .slice ea en.length ec, .slice va ev.length vk, .string b.stream, .int .i64 b.expect, .int .i64 b.session, .int .i64 b.seq, .slice la b.events.length lk, .string st] 30)).alloc (by rw [World.size_alloc]; omega) (.cells #[.int .i64 n0, .int .i64 n1, .int .i64 n2, .int .i64 n3, .int .i64 n4, .int .i64 n5] 22)
  have H := Lib.hid h
  have HB := Lib.hid HBW
  clear h HBW
  go_enter Tryz.func6, Tryz.ntmps6
  go_wp2_with fail
  go_ret
  have h := H.out
  have HBW := HB.out
  exact ⟨_, rfl, (fun e => by cases e), (fun m e => by cases e; exact rfl), HBW⟩

set_option maxRecDepth 100000 in
set_option maxHeartbeats 3200000 in
theorem made_rep (B : Nat) (n0 n1 n2 n3 n4 n5 : Int) (ch si bo : List Int) (mk : List (Int × Int)) (en : List EN) (ev : List EV) (b : BW) (st : ByteArray) (ca sa ba ma ea va la : Option Addr) (ck sk bk mc ec vk lk : Nat) (w : World) (h : DOk B w ⟨13, n0, n1, n2, n3, n4, n5, ch, si, bo, mk, en, ev, b, st⟩ ⟨.slice ca ch.length ck, .slice sa si.length sk, .slice ba bo.length bk, .slice ma mk.length mc, .slice ea en.length ec, .slice va ev.length vk, .slice la b.events.length lk⟩) (hB : B ≤ w.heap.size) :
    Calls Tryz.prog 6 #[.agg #[.int .i64 13, .int .i64 n0, .int .i64 n1, .int .i64 n2, .int .i64 n3, .int .i64 n4, .int .i64 n5, .slice ca ch.length ck, .slice sa si.length sk, .slice ba bo.length bk, .slice ma mk.length mc, .slice ea en.length ec, .slice va ev.length vk, .string b.stream, .int .i64 b.expect, .int .i64 b.session, .int .i64 b.seq, .slice la b.events.length lk, .string st]] w fun r w' => GotMade (some (.rep n0 n1 n2 n3 n4 n5)) w r w' := by
  have HBW := ((Below.refl w.heap.size w).alloc (Nat.le_refl _) (.cells #[.int .i64 13, .int .i64 n0, .int .i64 n1, .int .i64 n2, .int .i64 n3, .int .i64 n4, .int .i64 n5, .slice ca ch.length ck, .slice sa si.length sk, .slice ba bo.length bk, .slice ma mk.length mc, .slice ea en.length ec, .slice va ev.length vk, .string b.stream, .int .i64 b.expect, .int .i64 b.session, .int .i64 b.seq, .slice la b.events.length lk, .string st] 30)).alloc (by rw [World.size_alloc]; omega) (.cells #[.int .i64 n0, .int .i64 n1, .int .i64 n2, .int .i64 n3, .int .i64 n4, .int .i64 n5] 22)
  have H := Lib.hid h
  have HB := Lib.hid HBW
  clear h HBW
  go_enter Tryz.func6, Tryz.ntmps6
  go_wp2_with fail
  go_ret
  have h := H.out
  have HBW := HB.out
  exact ⟨_, rfl, (fun e => by cases e), (fun m e => by cases e; exact rfl), HBW⟩

set_option maxRecDepth 100000 in
set_option maxHeartbeats 3200000 in
theorem made_res (B : Nat) (n0 n1 n2 n3 n4 n5 : Int) (ch si bo : List Int) (mk : List (Int × Int)) (en : List EN) (ev : List EV) (b : BW) (st : ByteArray) (ca sa ba ma ea va la : Option Addr) (ck sk bk mc ec vk lk : Nat) (w : World) (h : DOk B w ⟨14, n0, n1, n2, n3, n4, n5, ch, si, bo, mk, en, ev, b, st⟩ ⟨.slice ca ch.length ck, .slice sa si.length sk, .slice ba bo.length bk, .slice ma mk.length mc, .slice ea en.length ec, .slice va ev.length vk, .slice la b.events.length lk⟩) (hB : B ≤ w.heap.size) :
    Calls Tryz.prog 6 #[.agg #[.int .i64 14, .int .i64 n0, .int .i64 n1, .int .i64 n2, .int .i64 n3, .int .i64 n4, .int .i64 n5, .slice ca ch.length ck, .slice sa si.length sk, .slice ba bo.length bk, .slice ma mk.length mc, .slice ea en.length ec, .slice va ev.length vk, .string b.stream, .int .i64 b.expect, .int .i64 b.session, .int .i64 b.seq, .slice la b.events.length lk, .string st]] w fun r w' => GotMade (some (.res n0 n1 n2 ev)) w r w' := by
  have HBW := ((Below.refl w.heap.size w).alloc (Nat.le_refl _) (.cells #[.int .i64 14, .int .i64 n0, .int .i64 n1, .int .i64 n2, .int .i64 n3, .int .i64 n4, .int .i64 n5, .slice ca ch.length ck, .slice sa si.length sk, .slice ba bo.length bk, .slice ma mk.length mc, .slice ea en.length ec, .slice va ev.length vk, .string b.stream, .int .i64 b.expect, .int .i64 b.session, .int .i64 b.seq, .slice la b.events.length lk, .string st] 30)).alloc (by rw [World.size_alloc]; omega) (.cells #[.int .i64 n0, .int .i64 n1, .int .i64 n2, .int .i64 n3, .int .i64 n4, .int .i64 n5] 22)
  have H := Lib.hid h
  have HB := Lib.hid HBW
  clear h HBW
  go_enter Tryz.func6, Tryz.ntmps6
  go_wp2_with fail
  go_ret
  have h := H.out
  have HBW := HB.out
  exact ⟨_, rfl, (fun e => by cases e), (fun m e => by cases e; exact ⟨_, rfl, (h.v.keep HBW hB).up (Nat.le_trans hB HBW.size)⟩), HBW⟩

set_option maxRecDepth 100000 in
set_option maxHeartbeats 3200000 in
theorem made_none (k : Int) (n0 n1 n2 n3 n4 n5 : Int) (ch si bo : List Int) (mk : List (Int × Int)) (en : List EN) (ev : List EV) (b : BW) (st : ByteArray) (ca sa ba ma ea va la : Option Addr) (ck sk bk mc ec vk lk : Nat) (w : World) (hk : k ≠ 1 ∧ k ≠ 2 ∧ k ≠ 3 ∧ k ≠ 4 ∧ k ≠ 5 ∧ k ≠ 6 ∧ k ≠ 7 ∧ k ≠ 8 ∧ k ≠ 9 ∧ k ≠ 10 ∧ k ≠ 11 ∧ k ≠ 12 ∧ k ≠ 13 ∧ k ≠ 14) :
    Calls Tryz.prog 6 #[.agg #[.int .i64 k, .int .i64 n0, .int .i64 n1, .int .i64 n2, .int .i64 n3, .int .i64 n4, .int .i64 n5, .slice ca ch.length ck, .slice sa si.length sk, .slice ba bo.length bk, .slice ma mk.length mc, .slice ea en.length ec, .slice va ev.length vk, .string b.stream, .int .i64 b.expect, .int .i64 b.session, .int .i64 b.seq, .slice la b.events.length lk, .string st]] w fun r w' => GotMade none w r w' := by
  have HBW := ((Below.refl w.heap.size w).alloc (Nat.le_refl _) (.cells #[.int .i64 k, .int .i64 n0, .int .i64 n1, .int .i64 n2, .int .i64 n3, .int .i64 n4, .int .i64 n5, .slice ca ch.length ck, .slice sa si.length sk, .slice ba bo.length bk, .slice ma mk.length mc, .slice ea en.length ec, .slice va ev.length vk, .string b.stream, .int .i64 b.expect, .int .i64 b.session, .int .i64 b.seq, .slice la b.events.length lk, .string st] 30)).alloc (by rw [World.size_alloc]; omega) (.cells #[.int .i64 n0, .int .i64 n1, .int .i64 n2, .int .i64 n3, .int .i64 n4, .int .i64 n5] 22)
  have HB := Lib.hid HBW
  obtain ⟨g1, g2, g3, g4, g5, g6, g7, g8, g9, g10, g11, g12, g13, g14⟩ := hk
  have q1 : (k == 1) = false := beq_eq_false_iff_ne.2 g1
  have q2 : (k == 2) = false := beq_eq_false_iff_ne.2 g2
  have q3 : (k == 3) = false := beq_eq_false_iff_ne.2 g3
  have q4 : (k == 4) = false := beq_eq_false_iff_ne.2 g4
  have q5 : (k == 5) = false := beq_eq_false_iff_ne.2 g5
  have q6 : (k == 6) = false := beq_eq_false_iff_ne.2 g6
  have q7 : (k == 7) = false := beq_eq_false_iff_ne.2 g7
  have q8 : (k == 8) = false := beq_eq_false_iff_ne.2 g8
  have q9 : (k == 9) = false := beq_eq_false_iff_ne.2 g9
  have q10 : (k == 10) = false := beq_eq_false_iff_ne.2 g10
  have q11 : (k == 11) = false := beq_eq_false_iff_ne.2 g11
  have q12 : (k == 12) = false := beq_eq_false_iff_ne.2 g12
  have q13 : (k == 13) = false := beq_eq_false_iff_ne.2 g13
  have q14 : (k == 14) = false := beq_eq_false_iff_ne.2 g14
  clear HBW g1 g2 g3 g4 g5 g6 g7 g8 g9 g10 g11 g12 g13 g14
  go_enter Tryz.func6, Tryz.ntmps6
  go_wp2_with fail
  go_ret
  exact ⟨_, rfl, fun _ => rfl, (fun m e => by cases e), HB.out⟩

theorem made_any (B : Nat) (v : Value) (d : DW) (s : DS) (x : Option Msg) (hx : madeD d = x) (w : World) (hv : v = .agg (d.cells s).toArray) (h : DOk B w d s) (hB : B ≤ w.heap.size) :
    Calls Tryz.prog 6 #[v] w fun r w' => GotMade x w r w' := by
  obtain ⟨ca, ck, sa, sk, ba, bk, ma, mc, ea, ec, va, vk, la, lk, rfl⟩ := h.forms
  obtain ⟨k, n0, n1, n2, n3, n4, n5, ch, si, bo, mk, en, ev, b, st⟩ := d
  subst hv
  unfold madeD at hx
  simp only at hx
  by_cases k1 : k = 1
  · subst k1
    rw [if_pos rfl] at hx
    subst hx
    exact made_beat B n0 n1 n2 n3 n4 n5 ch si bo mk en ev b st ca sa ba ma ea va la ck sk bk mc ec vk lk w h hB
  rw [if_neg k1] at hx
  by_cases k2 : k = 2
  · subst k2
    rw [if_pos rfl] at hx
    subst hx
    exact made_join B n0 n1 n2 n3 n4 n5 ch si bo mk en ev b st ca sa ba ma ea va la ck sk bk mc ec vk lk w h hB
  rw [if_neg k2] at hx
  by_cases k3 : k = 3
  · subst k3
    rw [if_pos rfl] at hx
    subst hx
    exact made_lease B n0 n1 n2 n3 n4 n5 ch si bo mk en ev b st ca sa ba ma ea va la ck sk bk mc ec vk lk w h hB
  rw [if_neg k3] at hx
  by_cases k4 : k = 4
  · subst k4
    rw [if_pos rfl] at hx
    subst hx
    exact made_view B n0 n1 n2 n3 n4 n5 ch si bo mk en ev b st ca sa ba ma ea va la ck sk bk mc ec vk lk w h hB
  rw [if_neg k4] at hx
  by_cases k5 : k = 5
  · subst k5
    rw [if_pos rfl] at hx
    subst hx
    exact made_whr B n0 n1 n2 n3 n4 n5 ch si bo mk en ev b st ca sa ba ma ea va la ck sk bk mc ec vk lk w h hB
  rw [if_neg k5] at hx
  by_cases k6 : k = 6
  · subst k6
    rw [if_pos rfl] at hx
    subst hx
    exact made_hav B n0 n1 n2 n3 n4 n5 ch si bo mk en ev b st ca sa ba ma ea va la ck sk bk mc ec vk lk w h hB
  rw [if_neg k6] at hx
  by_cases k7 : k = 7
  · subst k7
    rw [if_pos rfl] at hx
    subst hx
    exact made_logs B n0 n1 n2 n3 n4 n5 ch si bo mk en ev b st ca sa ba ma ea va la ck sk bk mc ec vk lk w h hB
  rw [if_neg k7] at hx
  by_cases k8 : k = 8
  · subst k8
    rw [if_pos rfl] at hx
    subst hx
    exact made_ack B n0 n1 n2 n3 n4 n5 ch si bo mk en ev b st ca sa ba ma ea va la ck sk bk mc ec vk lk w h hB
  rw [if_neg k8] at hx
  by_cases k9 : k = 9
  · subst k9
    rw [if_pos rfl] at hx
    subst hx
    exact made_ask B n0 n1 n2 n3 n4 n5 ch si bo mk en ev b st ca sa ba ma ea va la ck sk bk mc ec vk lk w h hB
  rw [if_neg k9] at hx
  by_cases k10 : k = 10
  · subst k10
    rw [if_pos rfl] at hx
    subst hx
    exact made_told B n0 n1 n2 n3 n4 n5 ch si bo mk en ev b st ca sa ba ma ea va la ck sk bk mc ec vk lk w h hB
  rw [if_neg k10] at hx
  by_cases k11 : k = 11
  · subst k11
    rw [if_pos rfl] at hx
    subst hx
    exact made_app B n0 n1 n2 n3 n4 n5 ch si bo mk en ev b st ca sa ba ma ea va la ck sk bk mc ec vk lk w h hB
  rw [if_neg k11] at hx
  by_cases k12 : k = 12
  · subst k12
    rw [if_pos rfl] at hx
    subst hx
    exact made_red B n0 n1 n2 n3 n4 n5 ch si bo mk en ev b st ca sa ba ma ea va la ck sk bk mc ec vk lk w h hB
  rw [if_neg k12] at hx
  by_cases k13 : k = 13
  · subst k13
    rw [if_pos rfl] at hx
    subst hx
    exact made_rep B n0 n1 n2 n3 n4 n5 ch si bo mk en ev b st ca sa ba ma ea va la ck sk bk mc ec vk lk w h hB
  rw [if_neg k13] at hx
  by_cases k14 : k = 14
  · subst k14
    rw [if_pos rfl] at hx
    subst hx
    exact made_res B n0 n1 n2 n3 n4 n5 ch si bo mk en ev b st ca sa ba ma ea va la ck sk bk mc ec vk lk w h hB
  rw [if_neg k14] at hx
  subst hx
  exact made_none k n0 n1 n2 n3 n4 n5 ch si bo mk en ev b st ca sa ba ma ea va la ck sk bk mc ec vk lk w ⟨k1, k2, k3, k4, k5, k6, k7, k8, k9, k10, k11, k12, k13, k14⟩
end Go.Proofs.YtflojipkgaocnaaGreatDoor
