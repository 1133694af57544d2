/-
  The walk of the statement CrcJoins.
-/
import Derived.Test.YtapeeajneikoeaaCrcLaws
import Derived.Test.YtapeeajneikoeaaCrcPlain2
import Derived.Test.YtapeeajneikoeaaAid
import Derived.Deep.DeepCutAuto
import Derived.Deep.RegionHeld3
import Derived.StillTailTactics
namespace Go.Proofs.Ytapeeajneikoeaa
open Go.RowKit

theorem Try.info5 : (Try.prog.info? 5).map (fun i => (i.zero, i.size, i.bytes)) = some (some (.int .u8 0), 1, 1) := by kernel_rfl

theorem x3_snoc (a b c : List UInt8) (k : Nat) (ha : k < a.length) (hb : k < b.length) (hc : k < c.length) :
    (x3 a b c).take (k + 1) = (x3 a b c).take k ++ [a[k] ^^^ b[k] ^^^ c[k]] := by
  have hl : k < (x3 a b c).length := by simp [x3]; omega
  rw [List.take_succ_eq_append_getElem hl]
  simp [x3]

theorem update_lit (c : Nat) (s : ByteArray) (x : Nat) (h : crcU c s.data.toList = x) (hc : c < 4294967296) (hs : s.size ≤ maxLen) (w : World) :
    Calls Try.prog 13 #[.int .u32 c, .string s] w fun e w' => e = .returned (.int .u32 x) ∧ Below w.heap.size w w' := by
  subst h
  exact update_any c s w hc hs

theorem x3_take (a b c : List UInt8) (k : Nat) : (x3 a b c).take k = x3 (a.take k) (b.take k) (c.take k) := by
  simp [x3, List.take_zipWith]

theorem take_extract (s : ByteArray) (k : Nat) : (s.extract 0 k).data.toList = s.data.toList.take k := by simp

theorem u8_x3 (a b c : UInt8) : bits .xor .u8 (bits .xor .u8 (a.toNat : Int) (b.toNat : Int)) (c.toNat : Int) = ((a ^^^ b ^^^ c).toNat : Int) := by
  have h : (a ^^^ b).toNat < 256 := (a ^^^ b).toNat_lt
  rw [u8_xor_nat _ _ a.toNat_lt b.toNat_lt, ← UInt8.toNat_xor, u8_xor_nat _ _ h c.toNat_lt, ← UInt8.toNat_xor]

set_option maxRecDepth 100000 in
set_option maxHeartbeats 1600000 in
theorem walkCrcJoins (a0 : Int) (w0 : (Lit.int .u32 a0).wf = true) (s : ByteArray) (hs : s.size ≤ maxLen) (t : ByteArray) (ht : t.size ≤ maxLen) (u : ByteArray) (hu : u.size ≤ maxLen) (w : World) :
    Calls Try.prog 4 #[.int .u32 a0, .string s, .string t, .string u] w fun e w' => e = .returned (.bool true) ∧ Below w.heap.size w w' := by
  obtain ⟨c, hc, rfl⟩ := u32_bounds w0
  have hm := hs
  have hm2 := ht
  have hm3 := hu
  unfold maxLen at hm hm2 hm3
  by_cases h : 2000 < s.size ∨ 2000 < t.size ∨ 2000 < u.size
  · go_enter Try.func4, Try.ntmps4
    go_wp2_with fail
    refine (crcShown _).mono ?_
    rintro e w1 ⟨rfl, h1⟩
    go_wp2_with fail
    all_goals (go_ret; exact ⟨rfl, h1⟩)
  · have hn1 : s.size ≤ 2000 := by omega
    have hn2 : t.size ≤ 2000 := by omega
    have hn3 : u.size ≤ 2000 := by omega
    clear h hm hm2 hm3
    go_enter Try.func4, Try.ntmps4
    go_wp2_with fail
    refine (crcShown _).mono ?_
    rintro e w1 ⟨rfl, h1⟩
    obtain ⟨n, hn⟩ : ∃ n, min s.size (min t.size u.size) = n := ⟨_, rfl⟩
    have ns : n ≤ s.size := by omega
    have nt : n ≤ t.size := by omega
    have nu : n ≤ u.size := by omega
    have Hn := Lib.hid hn
    clear hn
    go_upto_region 4 with fail
    go_cut [10] (fun s10 wx => s10 = .int .i64 n ∧ wx = w1)
    case first =>
      go_wp2
      all_goals go_meet
      all_goals
        case rel =>
          refine ⟨?_, rfl⟩
          have := Hn.out
          congr 1
          omega
    case rest =>
      obtain ⟨rfl, rfl⟩ := hcut
      obtain ⟨i0, hi, hz0, hz1, hz2⟩ := info_parts Try.info5
      go_wp2_with fail
      go_loopw [11, 12] (fun v t12 wr => ∃ k : Nat, k ≤ n ∧ t12 = .int .i64 k ∧ wr.ownsRow w.heap.size 5 1 v k (bcells ((x3 s.data.toList t.data.toList u.data.toList).take k)) ∧ Below w.heap.size w wr) (fun _ i _ => n - (intOf i).toNat)
      case atStart => exact ⟨0, Nat.zero_le _, rfl, World.ownsRow_nil _ _ _ _, h1⟩
      case round =>
        obtain ⟨k, hk, rfl, hown, hb⟩ := hrel
        by_cases hlt : k < n
        · have i1 : (0 : Int) ≤ (k : Int) := by omega
          have i2 : (k : Int) < (s.size : Int) := by omega
          have i3 : (k : Int) < (t.size : Int) := by omega
          have i4 : (k : Int) < (u.size : Int) := by omega
          have hsnoc : (x3 s.data.toList t.data.toList u.data.toList).take (k + 1) = (x3 s.data.toList t.data.toList u.data.toList).take k ++ [s[k] ^^^ t[k] ^^^ u[k]] :=
            x3_snoc s.data.toList t.data.toList u.data.toList k (by simpa using (show k < s.size by omega)) (by simpa using (show k < t.size by omega)) (by simpa using (show k < u.size by omega))
          have hx := u8_x3 s[k] t[k] u[k]
          obtain ⟨b, hbe⟩ : ∃ b, s[k] ^^^ t[k] ^^^ u[k] = b := ⟨_, rfl⟩
          rw [hbe] at hx
          rw [hbe] at hsnoc
          clear hbe
          have Hsnoc := Lib.hid hsnoc
          clear hsnoc
          have hz := hb.size
          go_wp2_with fail
          go_region_held3 (fun _ => True) (trivial)
            ((refine step_append_lies _ (by rfl) _ _ _ (by rfl) w.heap.size 5 i0 _ 1 1 Try.underlying27 hi hz0 hz1 hz2 rfl (by omega) u11 k _ (by rfl) ((hown.alloc _).drew)
                ⟨wr.heap.size, 0, none⟩ 1 1 [.int .u8 b.toNat] (by rfl) (by rfl) (World.news_of_block (cs := #[.int .u8 b.toNat]) (t := 5) (fr := (0, 0)) (heap_alloc_new wr _)) (by simp [Value.oneCell'])
                (by omega) (by unfold maxLen; omega) (by omega) (by simp; omega) (wr.heap.size + 1) (by simp) ?_; intro gg cap w2 hown2 hgrow hat hlt2))
          go_wp2_with fail
          all_goals
            go_roundw
            case rel => exact ⟨k + 1, by omega, by go_num, by rw [Hsnoc.out, bcells_snoc]; exact hown2,
              ((hb.alloc hz _).drew).grown hgrow (by simp; omega) (fun j hj => (hown.lt j hj).1)⟩
            case measure => simp [intOf]; omega
        · have hkn : k = n := by omega
          subst hkn
          obtain ⟨X, hX⟩ : ∃ X, (x3 s.data.toList t.data.toList u.data.toList).take k = X := ⟨_, rfl⟩
          rw [hX] at hown
          have HX := Lib.hid hX
          clear hX
          have hS : wr.drew.ownsRow w.heap.size 5 1 u11 k (bcells X) := hown
          have hcv : ∀ W : World, W.ownsRow w.heap.size 5 1 u11 k (bcells X) → (convert 27 9 u11).run Try.prog W = .ok (.string (bstr X)) W :=
            fun W h => conv_own Try.underlying27 Try.underlying5 Try.underlying9 h
          have hadd : ∀ W : World, (Op.stringOp .add s t).run Try.prog W = .ok (.string (s ++ t)) W := fun W => run_string_add_sum (P := Try.prog) (w := W) s t (by omega)
          have c1 := update_lit c s (crcU c s.data.toList) rfl hc hs
          have lA := crcU_lt c s.data.toList
          generalize hA : crcU c s.data.toList = A at c1 lA
          have c2 := update_lit A t (crcU A t.data.toList) rfl lA ht
          have c3 := update_lit c (s ++ t) (crcU A t.data.toList) (by rw [← hA, ← crcU_append]; simp) hc (by rw [ByteArray.size_append]; unfold maxLen; omega)
          clear hA
          generalize crcU A t.data.toList = Y at c2 c3
          have c4 := update_lit c ⟨#[]⟩ c (crcU_nil hc) hc (by decide)
          have d1 := fun W => sum_lit (bstr X) (crcU 0 X) rfl (by rw [bstr_size]; have := hown.1; rw [bcells_len] at this; unfold maxLen; omega) W
          have C1 := Lib.hid c1
          have C2 := Lib.hid c2
          have C3 := Lib.hid c3
          have C4 := Lib.hid c4
          have D1 := Lib.hid d1
          clear c1 c2 c3 c4 d1
          have e2 := fun W => sum_lit (s.extract 0 k) (crcU 0 (s.data.toList.take k)) (by rw [take_extract]) (by rw [ByteArray.size_extract]; unfold maxLen; omega) W
          have e3 := fun W => sum_lit (t.extract 0 k) (crcU 0 (t.data.toList.take k)) (by rw [take_extract]) (by rw [ByteArray.size_extract]; unfold maxLen; omega) W
          have e4 := fun W => sum_lit (u.extract 0 k) (crcU 0 (u.data.toList.take k)) (by rw [take_extract]) (by rw [ByteArray.size_extract]; unfold maxLen; omega) W
          have hZ : crcU 0 X = crcU 0 (s.data.toList.take k) ^^^ crcU 0 (t.data.toList.take k) ^^^ crcU 0 (u.data.toList.take k) := by
            rw [← HX.out, x3_take, crcU_x3 _ _ _ (by simp; omega) (by simp; omega)]
          have l2 := crcU_lt 0 (s.data.toList.take k)
          have l3 := crcU_lt 0 (t.data.toList.take k)
          have l4 := crcU_lt 0 (u.data.toList.take k)
          generalize crcU 0 (s.data.toList.take k) = P at e2 hZ l2
          generalize crcU 0 (t.data.toList.take k) = Q at e3 hZ l3
          generalize crcU 0 (u.data.toList.take k) = R at e4 hZ l4
          have hxx : bits .xor .u32 (bits .xor .u32 (P : Int) (Q : Int)) (R : Int) = ((crcU 0 X : Nat) : Int) := by
            rw [u32_xor_nat P Q l2 l3, u32_xor_nat (P ^^^ Q) R (Nat.xor_lt_two_pow (n := 32) l2 l3) l4, hZ]
          clear hZ
          have E2 := Lib.hid e2
          have E3 := Lib.hid e3
          have E4 := Lib.hid e4
          clear e2 e3 e4
          generalize crcU 0 X = Z at hxx D1
          have j1 : (0 : Int) ≤ (k : Int) := by omega
          have j2 : (k : Int) ≤ (s.size : Int) := by omega
          have j3 : (k : Int) ≤ (t.size : Int) := by omega
          have j4 : (k : Int) ≤ (u.size : Int) := by omega
          go_wp2_with fail
          go_region_held3 (fun W => W.ownsRow w.heap.size 5 1 u11 k (bcells X)) (first | exact hS | exact own_below (by assumption) (by assumption))
            (first
              | ((with_reducible refine (C1.out _).mono ?_); rintro e w' ⟨rfl, b1⟩)
              | ((with_reducible refine (C2.out _).mono ?_); rintro e w' ⟨rfl, b2⟩)
              | ((with_reducible refine (C3.out _).mono ?_); rintro e w' ⟨rfl, b3⟩)
              | ((with_reducible refine (C4.out _).mono ?_); rintro e w' ⟨rfl, b4⟩)
              | ((with_reducible refine (D1.out _).mono ?_); rintro e w' ⟨rfl, b5⟩)
              | ((with_reducible refine (E2.out _).mono ?_); rintro e w' ⟨rfl, b6⟩)
              | ((with_reducible refine (E3.out _).mono ?_); rintro e w' ⟨rfl, b7⟩)
              | ((with_reducible refine (E4.out _).mono ?_); rintro e w' ⟨rfl, b8⟩))
          go_wp2_with fail
          go_ret
          exact ⟨rfl, bstep (bstep (bstep (bstep (bstep (bstep (bstep (bstep hb.drew b1) b2) b3) b4) b5) b6) b7) b8⟩
end Go.Proofs.Ytapeeajneikoeaa
