/-
  The walks of bucketlineref1.Runes and bucketlineref1.Name: a text's runes, and whether it is a name. Printed by gen_evrunes.py of this claim's writer.
-/
import Derived.Test.YtcgolhaiciffeaaDoorEvSize
import Derived.Deep.AppendLies
import Derived.Lib.RuneCountTail
namespace Go.Proofs.YtcgolhaiciffeaaDoor
open Go.RowKit

def runesGo (s : ByteArray) : Nat → Nat → List Int
  | 0, _ => []
  | f + 1, p => if p < s.size then (szR (s.extract p s.size)).2 :: runesGo s f (p + (szR (s.extract p s.size)).1) else []
def runesL (s : ByteArray) : List Int := runesGo s s.size 0
theorem szR_pos (s : ByteArray) (h : 0 < s.size) : 1 ≤ (szR s).1 := by
  unfold szR
  split
  · exact Nat.le_refl _
  · exact Lib.decode_width_pos s 0 h
theorem szR_tail (s : ByteArray) (p : Nat) : szR (s.extract p s.size) = if wrongR (Utf8.decode s p) = true then ((1, -1) : Nat × Int) else ((Utf8.decode s p).2, ((Utf8.decode s p).1 : Int)) := by
  unfold szR
  rw [Lib.tail_decode]
  rfl
def okI (r : Int) : Bool := (decide (97 ≤ r) && decide (r ≤ 122)) || (decide (65 ≤ r) && decide (r ≤ 90)) || (decide (48 ≤ r) && decide (r ≤ 57)) || decide (r = 45) || decide (r = 95) || decide (r = 46) || decide (160 ≤ r)
theorem okI_nat (n : Nat) : okI (n : Int) = namedR n := by
  rw [Bool.eq_iff_iff]
  simp only [okI, namedR, Bool.or_eq_true, Bool.and_eq_true, decide_eq_true_eq]
  omega
theorem name_runes (s : ByteArray) : ∀ (f k p : Nat) (any : Bool), s.size - p ≤ f → nameGo s k p any = (decide ((runesGo s f p).length ≤ k) && (any || decide (0 < (runesGo s f p).length)) && (runesGo s f p).all okI)
  | 0, k, p, any, hf => by
    have hp : ¬ p < s.size := by omega
    cases k with
    | zero => simp [nameGo, runesGo, hp]
    | succ k => simp [nameGo, runesGo, hp]
  | f + 1, k, p, any, hf => by
    by_cases hp : p < s.size
    · have hw := szR_pos (s.extract p s.size) (by rw [ByteArray.size_extract]; omega)
      cases k with
      | zero => simp [nameGo, runesGo, hp]
      | succ k =>
        have ih := name_runes s f k (p + (szR (s.extract p s.size)).1) true (by omega)
        rw [nameGo, if_pos hp, runesGo, if_pos hp]
        rw [szR_tail] at ih hw ⊢
        by_cases hwr : wrongR (Utf8.decode s p) = true
        · rw [if_pos (.inr hwr), if_pos hwr]
          have : okI (-1) = false := by decide
          simp [this]
        · rw [if_neg hwr] at ih ⊢
          simp only at ih ⊢
          cases hn : namedR (Utf8.decode s p).1 with
          | false =>
            rw [if_pos (.inl rfl)]
            have : okI ((Utf8.decode s p).1 : Int) = false := by rw [okI_nat]; exact hn
            simp [this]
          | true =>
            rw [if_neg (by simp [hwr])]
            have : okI ((Utf8.decode s p).1 : Int) = true := by rw [okI_nat]; exact hn
            rw [ih]
            simp [this]
    · cases k with
      | zero => simp [nameGo, runesGo, hp]
      | succ k => simp [nameGo, runesGo, hp]
theorem nameB_runes (s : ByteArray) : nameB s = (decide ((runesL s).length ≤ 32) && decide (0 < (runesL s).length) && (runesL s).all okI) := by
  have h := name_runes s s.size 32 0 false (by omega)
  unfold nameB runesL
  rw [h]
  simp
theorem runesGo_len (s : ByteArray) : ∀ f p, (runesGo s f p).length ≤ f
  | 0, _ => Nat.le_refl _
  | f + 1, p => by
    rw [runesGo]
    split
    · have := runesGo_len s f (p + (szR (s.extract p s.size)).1)
      simp only [List.length_cons]
      omega
    · simp

theorem Tryd.iinfo : (Tryd.prog.info? 3).map (fun i => (i.zero, i.size, i.bytes)) = some (some (.int .i64 0), 1, 8) := by kernel_rfl
def icl (l : List Int) : List Value := l.map (Value.int .i64)
theorem icl_append (l m : List Int) : icl (l ++ m) = icl l ++ icl m := by simp [icl]

set_option maxRecDepth 100000 in
set_option maxHeartbeats 1600000 in
theorem runes_any (s : ByteArray) (hs : s.size ≤ 1000) (w : World) :
    Calls Tryd.prog 47 #[.string s] w fun r w' => ∃ v, r = .returned v ∧ w'.ownsRow w.heap.size 3 1 v (runesL s).length (icl (runesL s)) ∧ Below w.heap.size w w' := by
  obtain ⟨i0, hi0, hz0, hz1, hz2⟩ := info_parts Tryd.iinfo
  go_enter Tryd.func47, Tryd.ntmps47
  go_wp2_with fail
  go_loopw [3, 4, 5, 6] (fun t3 t4 _ _ wr => ∃ (p f : Nat) (acc : List Int), p ≤ s.size + 4 ∧ s.size - p ≤ f ∧ t4 = .int .i64 p ∧ runesL s = acc ++ runesGo s f p ∧ acc.length ≤ p ∧ wr.ownsRow w.heap.size 3 1 t3 acc.length (icl acc) ∧ Below w.heap.size w wr) (fun _ t4 _ _ _ => s.size - (intOf t4).toNat)
  case atStart => exact ⟨0, s.size, [], by omega, by omega, rfl, rfl, Nat.le_refl _, World.ownsRow_nil _ _ _ _, Below.refl _ _⟩
  case round =>
    obtain ⟨p, f, acc, hp0, hf, rfl, hru, hal, hown, hb⟩ := hrel
    have HOWN := Lib.hid hown
    have HRU := Lib.hid hru
    clear hown hru
    by_cases hp : p < s.size
    · obtain ⟨f', rfl⟩ : ∃ f', f = f' + 1 := ⟨f - 1, by omega⟩
      have htl : 0 < (s.extract p s.size).size := by rw [ByteArray.size_extract]; omega
      obtain ⟨⟨n, r⟩, hnr⟩ : ∃ x, szR (s.extract p s.size) = x := ⟨_, rfl⟩
      have hn1 := szR_pos _ htl
      rw [hnr] at hn1
      simp only at hn1
      have hn4 : n ≤ 4 := by
        have h1 := szR_tail s p
        rw [hnr] at h1
        split at h1
        · have := congrArg Prod.fst h1
          simp only at this
          omega
        · have h2 := congrArg Prod.fst h1
          simp only at h2
          rw [h2]
          unfold Utf8.decode
          simp only
          repeat' split
          all_goals simp
      have hrg : runesGo s (f' + 1) p = r :: runesGo s f' (p + n) := by
        rw [runesGo, if_pos hp, hnr]
      have CS := Lib.hid (size_any (s.extract p s.size) n r hnr htl)
      have i1 : (p : Int) < (s.size : Int) := by omega
      have i2 : (0 : Int) ≤ (p : Int) := by omega
      have i3 : (p : Int) ≤ (s.size : Int) := by omega
      have HRG := Lib.hid hrg
      have hsz : wr.heap.size ≥ w.heap.size := hb.size
      have hown2 := own_below ((Below.refl wr.heap.size wr).alloc (Nat.le_refl _) (.cells #[.int .i64 r] 3)) HOWN.out
      have HO2 := Lib.hid hown2
      clear hnr hrg htl hown2
      go_wp2_with fail
      refine (CS.out _).mono ?_
      rintro e w1 ⟨rfl, rfl⟩
      go_wp2_with (at_builtin; refine wpList_append_lies _ rfl _ _ 68 rfl w.heap.size 3 i0 _ 1 8 Tryd.underlying68 hi0 hz0 hz1 hz2 rfl (by omega) _ _ _ rfl HO2.out ⟨w1.heap.size, 0, none⟩ 1 1 [.int .i64 r] rfl rfl (World.news_of_block (heap_alloc_new w1 _)) (by simp [Value.oneCell']) (by omega) (by unfold maxLen; omega) (by omega) (by simp only [World.size_alloc]; omega) _ rfl ?_; intro gg cap2 w8 hown8 hgrow hat hlt8)
      go_roundw
      case rel =>
        refine ⟨p + n, f', acc ++ [r], by omega, by omega, by go_num, by rw [HRU.out, HRG.out]; simp, by rw [List.length_append]; simp only [List.length_cons, List.length_nil]; omega, ?_, ?_⟩
        · rw [icl_append, List.length_append]
          exact hown8
        · exact (hb.alloc hsz _).grown hgrow (by simp only [World.size_alloc]; omega) (fun j hj => (HO2.out.lt j hj).1)
      case measure => simp [intOf]; omega
    · have i1 : ¬ (p : Int) < (s.size : Int) := by omega
      have hnil : runesGo s f p = [] := by
        cases f with
        | zero => rfl
        | succ f => rw [runesGo, if_neg hp]
      rw [hnil, List.append_nil] at HRU
      go_wp2_with fail
      go_ret
      exact ⟨_, rfl, by rw [HRU.out]; exact HOWN.out, hb⟩

set_option maxRecDepth 100000 in
set_option maxHeartbeats 3200000 in
theorem refName_any (s : ByteArray) (hs : s.size ≤ 1000) (b : Bool) (hb : nameB s = b) (w : World) :
    Calls Tryd.prog 27 #[.string s] w fun r w' => r = .returned (.bool b) ∧ Below w.heap.size w w' := by
  rw [nameB_runes] at hb
  have C := Lib.hid (runes_any s hs w)
  have hlen : (runesL s).length ≤ 1000 := Nat.le_trans (runesGo_len s s.size 0) hs
  obtain ⟨l, hl⟩ : ∃ l, runesL s = l := ⟨_, rfl⟩
  rw [hl] at C hb hlen
  have HB := Lib.hid hb
  clear hb hl
  by_cases h1 : l.length < 1
  · have g1 : (l.length : Int) < 1 := by omega
    obtain rfl : false = b := by rw [← HB.out, decide_eq_false (show ¬ 0 < l.length by omega)]; simp
    go_enter Tryd.func27, Tryd.ntmps27
    go_wp2_with fail
    refine C.out.mono ?_
    rintro r w1 ⟨v, rfl, hown, hb1⟩
    obtain ⟨va, vc, rfl⟩ : ∃ a c, v = .slice a l.length c := by
      rcases hown.2 with ⟨hv, h0⟩ | ⟨g, cap, cur, hv, _⟩
      · exact ⟨none, 0, by rw [hv, h0]⟩
      · exact ⟨_, _, hv⟩
    clear hown
    go_wp2_with fail
    go_ret
    exact ⟨rfl, hb1⟩
  · have g1 : ¬ (l.length : Int) < 1 := by omega
    by_cases h2 : 32 < l.length
    · have g2 : (32 : Int) < (l.length : Int) := by omega
      obtain rfl : false = b := by rw [← HB.out, decide_eq_false (show ¬ l.length ≤ 32 by omega)]; simp
      go_enter Tryd.func27, Tryd.ntmps27
      go_wp2_with fail
      refine C.out.mono ?_
      rintro r w1 ⟨v, rfl, hown, hb1⟩
      obtain ⟨va, vc, rfl⟩ : ∃ a c, v = .slice a l.length c := by
        rcases hown.2 with ⟨hv, h0⟩ | ⟨g, cap, cur, hv, _⟩
        · exact ⟨none, 0, by rw [hv, h0]⟩
        · exact ⟨_, _, hv⟩
      clear hown
      go_wp2_with fail
      go_ret
      exact ⟨rfl, hb1⟩
    · have g2 : ¬ (32 : Int) < (l.length : Int) := by omega
      go_enter Tryd.func27, Tryd.ntmps27
      go_wp2_with fail
      refine C.out.mono ?_
      rintro r w1 ⟨v, rfl, hown, hb1⟩
      obtain ⟨g, vc, rfl, hg, hglt⟩ := hown.form (show 0 < l.length by omega)
      have hcell : ∀ j (hj : j < l.length), w1.cell? ⟨g, j, none⟩ = some (.int .i64 l[j]) := fun j hj => by
        have h5 := hown.cells (g := g) rfl j (.int .i64 l[j]) (by simp [icl, hj])
        rwa [show (⟨g, 0, none⟩ : Addr).add j = ⟨g, j, none⟩ by unfold Addr.add; split <;> simp_all] at h5
      have HCL := Lib.hid hcell
      clear hown hcell
      go_wp2_with fail
      go_loop [4, 5] (fun t4 _ => ∃ k : Nat, k ≤ l.length ∧ t4 = .int .i64 k ∧ (∀ i (hi : i < l.length), i < k → okI l[i] = true)) (fun t4 _ => l.length - (intOf t4).toNat)
      case atStart => exact ⟨0, Nat.zero_le _, rfl, fun i _ h => absurd h (by omega)⟩
      case round =>
        obtain ⟨k, hk, rfl, hno⟩ := hrel
        have HNO := Lib.hid hno
        clear hno
        by_cases hlt : k < l.length
        · have hck := HCL.out k hlt
          obtain ⟨r, hr⟩ : ∃ r, l[k] = r := ⟨_, rfl⟩
          rw [hr] at hck
          have HR := Lib.hid hr
          clear hr
          have i1 : (0 : Int) ≤ (k : Int) := by omega
          have i2 : (k : Int) < (l.length : Int) := by omega
          by_cases c0 : r ≤ 44
          · have a97 : ¬ (97 : Int) ≤ r := by omega
            have a65 : ¬ (65 : Int) ≤ r := by omega
            have a48 : ¬ (48 : Int) ≤ r := by omega
            have b122 : r ≤ (122 : Int) := by omega
            have b90 : r ≤ (90 : Int) := by omega
            have b57 : r ≤ (57 : Int) := by omega
            have n45 : (r != 45) = true := by rw [bne_iff_ne]; omega
            have n95 : (r != 95) = true := by rw [bne_iff_ne]; omega
            have n46 : (r != 46) = true := by rw [bne_iff_ne]; omega
            have l160 : r < (160 : Int) := by omega
            have hok : okI r = false := by
              rw [← Bool.not_eq_true]
              simp only [okI, Bool.or_eq_true, Bool.and_eq_true, decide_eq_true_eq]
              omega
            obtain rfl : false = b := by
              rw [← HB.out]
              symm
              rw [Bool.and_eq_false_iff]
              right
              rw [List.all_eq_false]
              exact ⟨_, List.getElem_mem hlt, by rw [HR.out, hok]; decide⟩
            clear hok
            go_wp2_with fail
            go_ret
            exact ⟨rfl, hb1⟩
          · by_cases c1 : r = 45
            · have a97 : ¬ (97 : Int) ≤ r := by omega
              have a65 : ¬ (65 : Int) ≤ r := by omega
              have a48 : ¬ (48 : Int) ≤ r := by omega
              have b122 : r ≤ (122 : Int) := by omega
              have b90 : r ≤ (90 : Int) := by omega
              have b57 : r ≤ (57 : Int) := by omega
              have n45 : (r != 45) = false := by rw [bne_eq_false_iff_eq]; omega
              have n95 : (r != 95) = true := by rw [bne_iff_ne]; omega
              have n46 : (r != 46) = true := by rw [bne_iff_ne]; omega
              have l160 : r < (160 : Int) := by omega
              have hok : okI r = true := by
                simp only [okI, Bool.or_eq_true, Bool.and_eq_true, decide_eq_true_eq]
                omega
              have HOK := Lib.hid hok
              clear hok
              go_wp2_with fail
              go_round
              case rel =>
                refine ⟨k + 1, by omega, by go_num, fun i hi hik => ?_⟩
                by_cases e : i = k
                · subst e
                  rw [HR.out]
                  exact HOK.out
                · exact HNO.out i hi (by omega)
              case measure => simp [intOf]; omega
            · by_cases c2 : r = 46
              · have a97 : ¬ (97 : Int) ≤ r := by omega
                have a65 : ¬ (65 : Int) ≤ r := by omega
                have a48 : ¬ (48 : Int) ≤ r := by omega
                have b122 : r ≤ (122 : Int) := by omega
                have b90 : r ≤ (90 : Int) := by omega
                have b57 : r ≤ (57 : Int) := by omega
                have n45 : (r != 45) = true := by rw [bne_iff_ne]; omega
                have n95 : (r != 95) = true := by rw [bne_iff_ne]; omega
                have n46 : (r != 46) = false := by rw [bne_eq_false_iff_eq]; omega
                have l160 : r < (160 : Int) := by omega
                have hok : okI r = true := by
                  simp only [okI, Bool.or_eq_true, Bool.and_eq_true, decide_eq_true_eq]
                  omega
                have HOK := Lib.hid hok
                clear hok
                go_wp2_with fail
                go_round
                case rel =>
                  refine ⟨k + 1, by omega, by go_num, fun i hi hik => ?_⟩
                  by_cases e : i = k
                  · subst e
                    rw [HR.out]
                    exact HOK.out
                  · exact HNO.out i hi (by omega)
                case measure => simp [intOf]; omega
              · by_cases c3 : r = 47
                · have a97 : ¬ (97 : Int) ≤ r := by omega
                  have a65 : ¬ (65 : Int) ≤ r := by omega
                  have a48 : ¬ (48 : Int) ≤ r := by omega
                  have b122 : r ≤ (122 : Int) := by omega
                  have b90 : r ≤ (90 : Int) := by omega
                  have b57 : r ≤ (57 : Int) := by omega
                  have n45 : (r != 45) = true := by rw [bne_iff_ne]; omega
                  have n95 : (r != 95) = true := by rw [bne_iff_ne]; omega
                  have n46 : (r != 46) = true := by rw [bne_iff_ne]; omega
                  have l160 : r < (160 : Int) := by omega
                  have hok : okI r = false := by
                    rw [← Bool.not_eq_true]
                    simp only [okI, Bool.or_eq_true, Bool.and_eq_true, decide_eq_true_eq]
                    omega
                  obtain rfl : false = b := by
                    rw [← HB.out]
                    symm
                    rw [Bool.and_eq_false_iff]
                    right
                    rw [List.all_eq_false]
                    exact ⟨_, List.getElem_mem hlt, by rw [HR.out, hok]; decide⟩
                  clear hok
                  go_wp2_with fail
                  go_ret
                  exact ⟨rfl, hb1⟩
                · by_cases c4 : r ≤ 57
                  · have a97 : ¬ (97 : Int) ≤ r := by omega
                    have a65 : ¬ (65 : Int) ≤ r := by omega
                    have a48 : (48 : Int) ≤ r := by omega
                    have b122 : r ≤ (122 : Int) := by omega
                    have b90 : r ≤ (90 : Int) := by omega
                    have b57 : r ≤ (57 : Int) := by omega
                    have n45 : (r != 45) = true := by rw [bne_iff_ne]; omega
                    have n95 : (r != 95) = true := by rw [bne_iff_ne]; omega
                    have n46 : (r != 46) = true := by rw [bne_iff_ne]; omega
                    have l160 : r < (160 : Int) := by omega
                    have hok : okI r = true := by
                      simp only [okI, Bool.or_eq_true, Bool.and_eq_true, decide_eq_true_eq]
                      omega
                    have HOK := Lib.hid hok
                    clear hok
                    go_wp2_with fail
                    go_round
                    case rel =>
                      refine ⟨k + 1, by omega, by go_num, fun i hi hik => ?_⟩
                      by_cases e : i = k
                      · subst e
                        rw [HR.out]
                        exact HOK.out
                      · exact HNO.out i hi (by omega)
                    case measure => simp [intOf]; omega
                  · by_cases c5 : r ≤ 64
                    · have a97 : ¬ (97 : Int) ≤ r := by omega
                      have a65 : ¬ (65 : Int) ≤ r := by omega
                      have a48 : (48 : Int) ≤ r := by omega
                      have b122 : r ≤ (122 : Int) := by omega
                      have b90 : r ≤ (90 : Int) := by omega
                      have b57 : ¬ r ≤ (57 : Int) := by omega
                      have n45 : (r != 45) = true := by rw [bne_iff_ne]; omega
                      have n95 : (r != 95) = true := by rw [bne_iff_ne]; omega
                      have n46 : (r != 46) = true := by rw [bne_iff_ne]; omega
                      have l160 : r < (160 : Int) := by omega
                      have hok : okI r = false := by
                        rw [← Bool.not_eq_true]
                        simp only [okI, Bool.or_eq_true, Bool.and_eq_true, decide_eq_true_eq]
                        omega
                      obtain rfl : false = b := by
                        rw [← HB.out]
                        symm
                        rw [Bool.and_eq_false_iff]
                        right
                        rw [List.all_eq_false]
                        exact ⟨_, List.getElem_mem hlt, by rw [HR.out, hok]; decide⟩
                      clear hok
                      go_wp2_with fail
                      go_ret
                      exact ⟨rfl, hb1⟩
                    · by_cases c6 : r ≤ 90
                      · have a97 : ¬ (97 : Int) ≤ r := by omega
                        have a65 : (65 : Int) ≤ r := by omega
                        have a48 : (48 : Int) ≤ r := by omega
                        have b122 : r ≤ (122 : Int) := by omega
                        have b90 : r ≤ (90 : Int) := by omega
                        have b57 : ¬ r ≤ (57 : Int) := by omega
                        have n45 : (r != 45) = true := by rw [bne_iff_ne]; omega
                        have n95 : (r != 95) = true := by rw [bne_iff_ne]; omega
                        have n46 : (r != 46) = true := by rw [bne_iff_ne]; omega
                        have l160 : r < (160 : Int) := by omega
                        have hok : okI r = true := by
                          simp only [okI, Bool.or_eq_true, Bool.and_eq_true, decide_eq_true_eq]
                          omega
                        have HOK := Lib.hid hok
                        clear hok
                        go_wp2_with fail
                        go_round
                        case rel =>
                          refine ⟨k + 1, by omega, by go_num, fun i hi hik => ?_⟩
                          by_cases e : i = k
                          · subst e
                            rw [HR.out]
                            exact HOK.out
                          · exact HNO.out i hi (by omega)
                        case measure => simp [intOf]; omega
                      · by_cases c7 : r ≤ 94
                        · have a97 : ¬ (97 : Int) ≤ r := by omega
                          have a65 : (65 : Int) ≤ r := by omega
                          have a48 : (48 : Int) ≤ r := by omega
                          have b122 : r ≤ (122 : Int) := by omega
                          have b90 : ¬ r ≤ (90 : Int) := by omega
                          have b57 : ¬ r ≤ (57 : Int) := by omega
                          have n45 : (r != 45) = true := by rw [bne_iff_ne]; omega
                          have n95 : (r != 95) = true := by rw [bne_iff_ne]; omega
                          have n46 : (r != 46) = true := by rw [bne_iff_ne]; omega
                          have l160 : r < (160 : Int) := by omega
                          have hok : okI r = false := by
                            rw [← Bool.not_eq_true]
                            simp only [okI, Bool.or_eq_true, Bool.and_eq_true, decide_eq_true_eq]
                            omega
                          obtain rfl : false = b := by
                            rw [← HB.out]
                            symm
                            rw [Bool.and_eq_false_iff]
                            right
                            rw [List.all_eq_false]
                            exact ⟨_, List.getElem_mem hlt, by rw [HR.out, hok]; decide⟩
                          clear hok
                          go_wp2_with fail
                          go_ret
                          exact ⟨rfl, hb1⟩
                        · by_cases c8 : r = 95
                          · have a97 : ¬ (97 : Int) ≤ r := by omega
                            have a65 : (65 : Int) ≤ r := by omega
                            have a48 : (48 : Int) ≤ r := by omega
                            have b122 : r ≤ (122 : Int) := by omega
                            have b90 : ¬ r ≤ (90 : Int) := by omega
                            have b57 : ¬ r ≤ (57 : Int) := by omega
                            have n45 : (r != 45) = true := by rw [bne_iff_ne]; omega
                            have n95 : (r != 95) = false := by rw [bne_eq_false_iff_eq]; omega
                            have n46 : (r != 46) = true := by rw [bne_iff_ne]; omega
                            have l160 : r < (160 : Int) := by omega
                            have hok : okI r = true := by
                              simp only [okI, Bool.or_eq_true, Bool.and_eq_true, decide_eq_true_eq]
                              omega
                            have HOK := Lib.hid hok
                            clear hok
                            go_wp2_with fail
                            go_round
                            case rel =>
                              refine ⟨k + 1, by omega, by go_num, fun i hi hik => ?_⟩
                              by_cases e : i = k
                              · subst e
                                rw [HR.out]
                                exact HOK.out
                              · exact HNO.out i hi (by omega)
                            case measure => simp [intOf]; omega
                          · by_cases c9 : r = 96
                            · have a97 : ¬ (97 : Int) ≤ r := by omega
                              have a65 : (65 : Int) ≤ r := by omega
                              have a48 : (48 : Int) ≤ r := by omega
                              have b122 : r ≤ (122 : Int) := by omega
                              have b90 : ¬ r ≤ (90 : Int) := by omega
                              have b57 : ¬ r ≤ (57 : Int) := by omega
                              have n45 : (r != 45) = true := by rw [bne_iff_ne]; omega
                              have n95 : (r != 95) = true := by rw [bne_iff_ne]; omega
                              have n46 : (r != 46) = true := by rw [bne_iff_ne]; omega
                              have l160 : r < (160 : Int) := by omega
                              have hok : okI r = false := by
                                rw [← Bool.not_eq_true]
                                simp only [okI, Bool.or_eq_true, Bool.and_eq_true, decide_eq_true_eq]
                                omega
                              obtain rfl : false = b := by
                                rw [← HB.out]
                                symm
                                rw [Bool.and_eq_false_iff]
                                right
                                rw [List.all_eq_false]
                                exact ⟨_, List.getElem_mem hlt, by rw [HR.out, hok]; decide⟩
                              clear hok
                              go_wp2_with fail
                              go_ret
                              exact ⟨rfl, hb1⟩
                            · by_cases c10 : r ≤ 122
                              · have a97 : (97 : Int) ≤ r := by omega
                                have a65 : (65 : Int) ≤ r := by omega
                                have a48 : (48 : Int) ≤ r := by omega
                                have b122 : r ≤ (122 : Int) := by omega
                                have b90 : ¬ r ≤ (90 : Int) := by omega
                                have b57 : ¬ r ≤ (57 : Int) := by omega
                                have n45 : (r != 45) = true := by rw [bne_iff_ne]; omega
                                have n95 : (r != 95) = true := by rw [bne_iff_ne]; omega
                                have n46 : (r != 46) = true := by rw [bne_iff_ne]; omega
                                have l160 : r < (160 : Int) := by omega
                                have hok : okI r = true := by
                                  simp only [okI, Bool.or_eq_true, Bool.and_eq_true, decide_eq_true_eq]
                                  omega
                                have HOK := Lib.hid hok
                                clear hok
                                go_wp2_with fail
                                go_round
                                case rel =>
                                  refine ⟨k + 1, by omega, by go_num, fun i hi hik => ?_⟩
                                  by_cases e : i = k
                                  · subst e
                                    rw [HR.out]
                                    exact HOK.out
                                  · exact HNO.out i hi (by omega)
                                case measure => simp [intOf]; omega
                              · by_cases c11 : r ≤ 159
                                · have a97 : (97 : Int) ≤ r := by omega
                                  have a65 : (65 : Int) ≤ r := by omega
                                  have a48 : (48 : Int) ≤ r := by omega
                                  have b122 : ¬ r ≤ (122 : Int) := by omega
                                  have b90 : ¬ r ≤ (90 : Int) := by omega
                                  have b57 : ¬ r ≤ (57 : Int) := by omega
                                  have n45 : (r != 45) = true := by rw [bne_iff_ne]; omega
                                  have n95 : (r != 95) = true := by rw [bne_iff_ne]; omega
                                  have n46 : (r != 46) = true := by rw [bne_iff_ne]; omega
                                  have l160 : r < (160 : Int) := by omega
                                  have hok : okI r = false := by
                                    rw [← Bool.not_eq_true]
                                    simp only [okI, Bool.or_eq_true, Bool.and_eq_true, decide_eq_true_eq]
                                    omega
                                  obtain rfl : false = b := by
                                    rw [← HB.out]
                                    symm
                                    rw [Bool.and_eq_false_iff]
                                    right
                                    rw [List.all_eq_false]
                                    exact ⟨_, List.getElem_mem hlt, by rw [HR.out, hok]; decide⟩
                                  clear hok
                                  go_wp2_with fail
                                  go_ret
                                  exact ⟨rfl, hb1⟩
                                · have c12 : 160 ≤ r := by omega
                                  have a97 : (97 : Int) ≤ r := by omega
                                  have a65 : (65 : Int) ≤ r := by omega
                                  have a48 : (48 : Int) ≤ r := by omega
                                  have b122 : ¬ r ≤ (122 : Int) := by omega
                                  have b90 : ¬ r ≤ (90 : Int) := by omega
                                  have b57 : ¬ r ≤ (57 : Int) := by omega
                                  have n45 : (r != 45) = true := by rw [bne_iff_ne]; omega
                                  have n95 : (r != 95) = true := by rw [bne_iff_ne]; omega
                                  have n46 : (r != 46) = true := by rw [bne_iff_ne]; omega
                                  have l160 : ¬ r < (160 : Int) := by omega
                                  have hok : okI r = true := by
                                    simp only [okI, Bool.or_eq_true, Bool.and_eq_true, decide_eq_true_eq]
                                    omega
                                  have HOK := Lib.hid hok
                                  clear hok
                                  go_wp2_with fail
                                  go_round
                                  case rel =>
                                    refine ⟨k + 1, by omega, by go_num, fun i hi hik => ?_⟩
                                    by_cases e : i = k
                                    · subst e
                                      rw [HR.out]
                                      exact HOK.out
                                    · exact HNO.out i hi (by omega)
                                  case measure => simp [intOf]; omega
        · have i2 : ¬ (k : Int) < (l.length : Int) := by omega
          obtain rfl : true = b := by
            rw [← HB.out, decide_eq_true (show l.length ≤ 32 by omega), decide_eq_true (show 0 < l.length by omega), Bool.true_and, Bool.true_and]
            symm
            rw [List.all_eq_true]
            intro x hx
            obtain ⟨i, hi, rfl⟩ := List.getElem_of_mem hx
            exact HNO.out i hi (by omega)
          go_wp2_with fail
          go_ret
          exact ⟨rfl, hb1⟩
end Go.Proofs.YtcgolhaiciffeaaDoor
