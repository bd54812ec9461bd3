/- The walk of OctetBack. -/
import Derived.Test.YtdgebfdjlbcogaaOctShown
import Derived.Test.YtdgebfdjlbcogaaOctTexts0
import Derived.Deep.DeepCutAuto
namespace Go.Proofs.Ytdgebfdjlbcogaa
open Go.RowKit

namespace Oct
theorem putL_congr (n v : Int) (c : Nat) (h : n % ((256 ^ c : Nat) : Int) = v % ((256 ^ c : Nat) : Int)) : putL n c = putL v c := by
  have h1 := be_putL n c
  have h2 := be_putL v c
  have h3 : be (putL n c) = be (putL v c) := by omega
  have e1 := putL_be (putL n c)
  have e2 := putL_be (putL v c)
  rw [putL_length] at e1 e2
  rw [← e1, ← e2, h3]
/-- The number that is read of the c lowest bytes of n. -/
def low (n : Int) (c : Nat) : Int := wrap64 (n % ((256 ^ c : Nat) : Int))
theorem num_putL (n : Int) (c : Nat) : num (bs (putL n c)) = low n c := by
  unfold num low
  rw [bs_data, be_putL]
theorem low_put (n : Int) (c : Nat) (hc : c ≤ 8) : putL (low n c) c = putL n c := by
  apply putL_congr
  unfold low wrap64
  have : c = 0 ∨ c = 1 ∨ c = 2 ∨ c = 3 ∨ c = 4 ∨ c = 5 ∨ c = 6 ∨ c = 7 ∨ c = 8 := by omega
  rcases this with rfl | rfl | rfl | rfl | rfl | rfl | rfl | rfl | rfl <;> simp only [Nat.reducePow] <;> omega
theorem sgn_put (n : Int) (c : Nat) (hc : c ≤ 8) : putL (sgn (low n c) c) c = putL n c := by
  apply putL_congr
  unfold sgn low wrap64
  have : c = 0 ∨ c = 1 ∨ c = 2 ∨ c = 3 ∨ c = 4 ∨ c = 5 ∨ c = 6 ∨ c = 7 ∨ c = 8 := by omega
  rcases this with rfl | rfl | rfl | rfl | rfl | rfl | rfl | rfl | rfl <;> simp only [Nat.reducePow, Int.toNat_natCast, Nat.reduceMul, Nat.reduceSub, Int.reducePow] <;> split <;> omega
/-- Does it fit, with its sign, as the law asks it? -/
def fits (n : Int) (c : Nat) : Bool := c == 8 || (decide (0 < c) && decide (-(2 ^ (8 * c - 1)) ≤ n) && decide (n < 2 ^ (8 * c - 1))) || n == 0
def below (n : Int) (c : Nat) : Bool := c == 8 || (decide (0 ≤ n) && decide (n < 2 ^ (8 * c)))
theorem fits_sgn (n : Int) (c : Nat) (hc : c ≤ 8) (hn : -9223372036854775808 ≤ n ∧ n ≤ 9223372036854775807) (h : fits n c = true) : sgn (low n c) c = n := by
  unfold fits at h
  unfold sgn low wrap64
  have : c = 0 ∨ c = 1 ∨ c = 2 ∨ c = 3 ∨ c = 4 ∨ c = 5 ∨ c = 6 ∨ c = 7 ∨ c = 8 := by omega
  rcases this with rfl | rfl | rfl | rfl | rfl | rfl | rfl | rfl | rfl <;> simp at h <;> simp only [Nat.reducePow, Int.toNat_natCast, Nat.reduceMul, Nat.reduceSub, Int.reducePow] <;> split <;> omega
theorem below_low (n : Int) (c : Nat) (hc : c ≤ 8) (hn : -9223372036854775808 ≤ n ∧ n ≤ 9223372036854775807) (h : below n c = true) : low n c = n := by
  unfold below at h
  unfold low wrap64
  have : c = 0 ∨ c = 1 ∨ c = 2 ∨ c = 3 ∨ c = 4 ∨ c = 5 ∨ c = 6 ∨ c = 7 ∨ c = 8 := by omega
  rcases this with rfl | rfl | rfl | rfl | rfl | rfl | rfl | rfl | rfl <;> simp at h <;> simp only [Nat.reducePow] <;> omega
theorem numR_put (n : Int) (c : Nat) (hc : c ≤ 8) (s : ByteArray) : numR (bs (putL n c) ++ s) 0 false c = (low n c, c, false) := by
  have hsz : (bs (putL n c) ++ s).size = c + s.size := by rw [ByteArray.size_append, bs_size, putL_length]
  unfold numR
  rw [if_pos ⟨rfl, by omega, by omega, by omega⟩, Int.toNat_natCast, Nat.zero_add]
  have : (bs (putL n c) ++ s).extract 0 c = bs (putL n c) := by
    apply bs_ext
    rw [ext_data, List.drop_zero, ByteArray.data_append, Array.toList_append, bs_data, List.take_append, putL_length]
    simp
    rw [List.take_of_length_le (by rw [putL_length]; exact Nat.le_refl _)]
  rw [this, num_putL]
theorem takeR_put (n : Int) (c : Nat) (s : ByteArray) : takeR (bs (putL n c) ++ s) c false s.size = (s, c + s.size, false) := by
  have hsz : (bs (putL n c) ++ s).size = c + s.size := by rw [ByteArray.size_append, bs_size, putL_length]
  unfold takeR
  rw [if_pos ⟨rfl, by omega, by omega⟩, Int.toNat_natCast]
  have : (bs (putL n c) ++ s).extract c (c + s.size) = s := by
    apply bs_ext
    rw [ext_data, ByteArray.data_append, Array.toList_append, bs_data, List.take_of_length_le (by rw [List.length_append, putL_length, len_data]; omega), List.drop_append, putL_length, List.drop_of_length_le (by rw [putL_length]; omega)]
    simp
  rw [this]
theorem sgn_range (n : Int) (c : Nat) : -9223372036854775808 ≤ sgn (low n c) c ∧ sgn (low n c) c ≤ 9223372036854775807 := by
  unfold sgn
  split
  · unfold wrap64; omega
  · unfold low wrap64; omega
theorem low_range (n : Int) (c : Nat) : -9223372036854775808 ≤ low n c ∧ low n c ≤ 9223372036854775807 := by unfold low wrap64; omega
end Oct

set_option maxRecDepth 100000 in
set_option maxHeartbeats 8000000 in
theorem back_walk (n : Int) (s : ByteArray) (w : World) (hn : -9223372036854775808 ≤ n ∧ n ≤ 9223372036854775807) (hs : s.size ≤ maxLen) :
    Calls Try.prog 8 #[.int .i64 n, .string s] w fun e w' => e = .returned (.bool true) ∧ Below w.heap.size w w' := by
  obtain ⟨hn1, hn2⟩ := hn
  go_enter Try.func8, Try.ntmps8
  go_wp2_with fail
  refine (shown_any w).mono ?_
  rintro e w1 ⟨rfl, hb1⟩
  have M1 := Lib.hid (Mod.of_below hb1)
  clear hb1
  go_wp2_with fail
  go_loopw [6] (fun i wr => ∃ c : Nat, c ≤ 9 ∧ i = .int .i64 c ∧ Mod [] w wr) (fun i _ => 9 - (intOf i).toNat)
  case atStart => exact ⟨0, Nat.zero_le _, rfl, M1.out⟩
  case round =>
    obtain ⟨c, hc, rfl, Mr⟩ := hrel
    have HMr := Lib.hid Mr
    clear Mr M1
    by_cases hlt : c ≤ 8
    · have hfs := Oct.fewB_size s
      have HF := Lib.hid (fun w => few_any s w hs)
      generalize Oct.fewB s = x at *
      have hps : (bs (Oct.putL n c)).size = c := by rw [bs_size, Oct.putL_length]
      have hbm : (bs (Oct.putL n c) ++ x).size ≤ maxLen := by rw [ByteArray.size_append, hps]; unfold maxLen; omega
      have ENR := Lib.hid (Oct.numR_put n c hlt x)
      have ETR := Lib.hid (Oct.takeR_put n c x)
      have EL := Lib.hid (Oct.low_put n c hlt)
      have ES := Lib.hid (Oct.sgn_put n c hlt)
      have EF := Lib.hid (Oct.fits_sgn n c hlt ⟨hn1, hn2⟩)
      have EB := Lib.hid (Oct.below_low n c hlt ⟨hn1, hn2⟩)
      go_wp2_with fail
      refine (put_any n c _ hlt hn1 hn2).mono ?_
      rintro e w2 ⟨rfl, hb2⟩
      have M2 := Lib.hid (HMr.out.trans (Mod.of_below hb2) (by simp))
      clear hb2 HMr
      have HPS := Lib.hid hps
      have hps1 : (bs (Oct.putL n c)).size ≤ 8 := by omega
      clear hps
      go_wp2_with fail
      refine (HF.out _).mono ?_
      rintro e w3 ⟨rfl, rfl⟩
      go_wp2_with fail
      refine (read_any _ _ hbm).mono ?_
      rintro e w3 ⟨rfl, hx, m3⟩
      have M3 := Lib.hid (M2.out.trans m3 (by simp))
      have q3 : w.heap.size ≤ w2.heap.size := M2.out.size
      have q3' : w2.heap.size < w3.heap.size := hx.lt
      have HX := Lib.hid hx
      clear m3 hx M2
      generalize ebx : w2.heap.size = bx at *
      clear ebx
      go_wp2_with fail
      refine (HF.out _).mono ?_
      rintro e w4 ⟨rfl, rfl⟩
      go_wp2_with fail
      refine (read_any _ _ hbm).mono ?_
      rintro e w4 ⟨rfl, hy, m4⟩
      have M4 := Lib.hid (M3.out.trans m4 (by simp))
      have HX4 := Lib.hid (HX.out.kept m4 (by simp))
      have HY := Lib.hid hy
      have q4 : w3.heap.size < w4.heap.size := hy.lt
      clear m4 hy M3 HX
      generalize eby : w3.heap.size = bY at *
      clear eby
      have hl0 : (((bs (Oct.putL n c)).size : Int) != (c : Int)) = false := by rw [HPS.out]; simp
      go_wp2_with fail
      have hi := int_all bx _ 0 false c _ HX4.out
      rw [ENR.out] at hi
      refine hi.mono ?_
      rintro e w5 ⟨rfl, hx, m5⟩
      have M5 := Lib.hid (M4.out.trans m5 (by simp; omega))
      have HX5 := Lib.hid hx
      have HY5 := Lib.hid (HY.out.kept m5 (by simp; omega))
      clear m5 hx hi M4 HX4 HY
      go_wp2_with fail
      have hi := num_all bY _ 0 false c _ HY5.out
      rw [ENR.out] at hi
      refine hi.mono ?_
      rintro e w6 ⟨rfl, hy, m6⟩
      have M6 := Lib.hid (M5.out.trans m6 (by simp; omega))
      have HY6 := Lib.hid hy
      have HX6 := Lib.hid (HX5.out.kept m6 (by simp; omega))
      clear m6 hy hi M5 HX5 HY5
      have hsr := Oct.sgn_range n c
      have hlr := Oct.low_range n c
      generalize Oct.sgn (Oct.low n c) c = sg at *
      generalize Oct.low n c = lo at *
      go_upto_region 12 with fail
      go_cut [12] (fun f wx => f = .bool (Oct.fits n c) ∧ wx = w6)
      case first =>
        clear HF hbm ETR ENR EL ES EF EB HPS HX6 HY6 M6
        have hcs : c = 0 ∨ c = 1 ∨ c = 2 ∨ c = 3 ∨ c = 4 ∨ c = 5 ∨ c = 6 ∨ c = 7 ∨ c = 8 := by omega
        rcases hcs with rfl | rfl | rfl | rfl | rfl | rfl | rfl | rfl | rfl
        all_goals as_aux_lemma =>
          go_wp2_with fail
          all_goals
            go_meet
            refine ⟨?_, rfl⟩
            first | rfl | (apply congrArg Value.bool; rw [Bool.eq_iff_iff]; simp [Oct.fits]; done) | (apply congrArg Value.bool; rw [Bool.eq_iff_iff]; simp [Oct.fits]; omega)
      case rest =>
        obtain ⟨rfl, rfl⟩ := hcut
        go_upto_region 13 with fail
        go_cut [13] (fun f wx => f = .bool (Oct.below n c) ∧ wx = wc)
        case first =>
          clear HF hbm ETR ENR EL ES EF EB HPS HX6 HY6 M6
          generalize Oct.fits n c = fb at *
          have hcs : c = 0 ∨ c = 1 ∨ c = 2 ∨ c = 3 ∨ c = 4 ∨ c = 5 ∨ c = 6 ∨ c = 7 ∨ c = 8 := by omega
          rcases hcs with rfl | rfl | rfl | rfl | rfl | rfl | rfl | rfl | rfl
          all_goals as_aux_lemma =>
            go_wp2_with fail
            all_goals
              go_meet
              refine ⟨?_, rfl⟩
              first | rfl | (apply congrArg Value.bool; rw [Bool.eq_iff_iff]; simp [Oct.below]; done) | (apply congrArg Value.bool; rw [Bool.eq_iff_iff]; simp [Oct.below]; omega)
        case rest =>
          obtain ⟨rfl, rfl⟩ := hcut
          generalize Oct.fits n c = fb at *
          generalize Oct.below n c = bb at *
          have g1 : fb = true → (sg != n) = false := fun h => by rw [EF.out h]; simp
          have g2 : bb = true → (lo != n) = false := fun h => by rw [EB.out h]; simp
          have g3 : ((((bs (Oct.putL n c) ++ x).size : Int) - (c : Int)) != (x.size : Int)) = false := by rw [ByteArray.size_append, HPS.out]; simp; omega
          have g4 : (((bs (Oct.putL n c)).size : Int) + (x.size : Int) - (c : Int) != (x.size : Int)) = false := by rw [HPS.out]; simp; omega
          cases fb <;> cases bb
          · as_aux_lemma =>
            clear g1
            clear g2
            go_wp2_with fail
            refine (put_any sg c _ hlt hsr.1 hsr.2).mono ?_
            rintro e w7 ⟨rfl, hb7⟩
            rw [ES.out]
            have M7 := Lib.hid (M6.out.trans (Mod.of_below hb7) (by simp))
            have HX7 := Lib.hid (HX6.out.kept (Mod.of_below hb7) (by simp))
            have HY7 := Lib.hid (HY6.out.kept (Mod.of_below hb7) (by simp))
            clear hb7
            go_wp2_with fail
            refine (put_any lo c _ hlt hlr.1 hlr.2).mono ?_
            rintro e w8 ⟨rfl, hb8⟩
            rw [EL.out]
            have M8 := Lib.hid (M7.out.trans (Mod.of_below hb8) (by simp))
            have HX8 := Lib.hid (HX7.out.kept (Mod.of_below hb8) (by simp))
            have HY8 := Lib.hid (HY7.out.kept (Mod.of_below hb8) (by simp))
            clear hb8 M7 HX7 HY7
            go_wp2_with fail
            refine (at_any bx _ _ false _ HX8.out).mono ?_
            rintro e w9 ⟨rfl, rfl⟩
            go_wp2_with fail
            refine (left_any bY _ _ false _ HY8.out).mono ?_
            rintro e w9 ⟨rfl, z9, rfl⟩
            have M9 := Lib.hid (M8.out.drewN z9)
            have HX9 := Lib.hid (HX8.out.drewN z9)
            have HY9 := Lib.hid (HY8.out.drewN z9)
            clear M8 HX8 HY8
            generalize w8.drewN z9 = w9 at *
            go_wp2_with fail
            refine (HF.out _).mono ?_
            rintro e w10 ⟨rfl, rfl⟩
            go_wp2_with fail
            refine (failed_any bx _ _ false _ HX9.out).mono ?_
            rintro e w10 ⟨rfl, rfl⟩
            go_wp2_with fail
            refine (HF.out _).mono ?_
            rintro e w10 ⟨rfl, rfl⟩
            go_wp2_with fail
            have ht := Take_all bY _ _ false x.size _ HY9.out
            rw [ETR.out] at ht
            refine ht.mono ?_
            rintro e w10 ⟨rfl, hy10, m10⟩
            have M10 := Lib.hid (M9.out.trans m10 (by simp; omega))
            clear hy10 m10 ht
            go_wp2_with fail
            refine (HF.out _).mono ?_
            rintro e w11 ⟨rfl, rfl⟩
            go_wp2_with fail
            go_roundw
            case rel => exact ⟨c + 1, by omega, by go_num, M10.out⟩
            case measure => simp [intOf]; omega
          · as_aux_lemma =>
            clear g1
            have g2' := g2 rfl
            clear g2
            go_wp2_with fail
            refine (put_any sg c _ hlt hsr.1 hsr.2).mono ?_
            rintro e w7 ⟨rfl, hb7⟩
            rw [ES.out]
            have M7 := Lib.hid (M6.out.trans (Mod.of_below hb7) (by simp))
            have HX7 := Lib.hid (HX6.out.kept (Mod.of_below hb7) (by simp))
            have HY7 := Lib.hid (HY6.out.kept (Mod.of_below hb7) (by simp))
            clear hb7
            go_wp2_with fail
            refine (put_any lo c _ hlt hlr.1 hlr.2).mono ?_
            rintro e w8 ⟨rfl, hb8⟩
            rw [EL.out]
            have M8 := Lib.hid (M7.out.trans (Mod.of_below hb8) (by simp))
            have HX8 := Lib.hid (HX7.out.kept (Mod.of_below hb8) (by simp))
            have HY8 := Lib.hid (HY7.out.kept (Mod.of_below hb8) (by simp))
            clear hb8 M7 HX7 HY7
            go_wp2_with fail
            refine (at_any bx _ _ false _ HX8.out).mono ?_
            rintro e w9 ⟨rfl, rfl⟩
            go_wp2_with fail
            refine (left_any bY _ _ false _ HY8.out).mono ?_
            rintro e w9 ⟨rfl, z9, rfl⟩
            have M9 := Lib.hid (M8.out.drewN z9)
            have HX9 := Lib.hid (HX8.out.drewN z9)
            have HY9 := Lib.hid (HY8.out.drewN z9)
            clear M8 HX8 HY8
            generalize w8.drewN z9 = w9 at *
            go_wp2_with fail
            refine (HF.out _).mono ?_
            rintro e w10 ⟨rfl, rfl⟩
            go_wp2_with fail
            refine (failed_any bx _ _ false _ HX9.out).mono ?_
            rintro e w10 ⟨rfl, rfl⟩
            go_wp2_with fail
            refine (HF.out _).mono ?_
            rintro e w10 ⟨rfl, rfl⟩
            go_wp2_with fail
            have ht := Take_all bY _ _ false x.size _ HY9.out
            rw [ETR.out] at ht
            refine ht.mono ?_
            rintro e w10 ⟨rfl, hy10, m10⟩
            have M10 := Lib.hid (M9.out.trans m10 (by simp; omega))
            clear hy10 m10 ht
            go_wp2_with fail
            refine (HF.out _).mono ?_
            rintro e w11 ⟨rfl, rfl⟩
            go_wp2_with fail
            go_roundw
            case rel => exact ⟨c + 1, by omega, by go_num, M10.out⟩
            case measure => simp [intOf]; omega
          · as_aux_lemma =>
            have g1' := g1 rfl
            clear g1
            clear g2
            go_wp2_with fail
            refine (put_any sg c _ hlt hsr.1 hsr.2).mono ?_
            rintro e w7 ⟨rfl, hb7⟩
            rw [ES.out]
            have M7 := Lib.hid (M6.out.trans (Mod.of_below hb7) (by simp))
            have HX7 := Lib.hid (HX6.out.kept (Mod.of_below hb7) (by simp))
            have HY7 := Lib.hid (HY6.out.kept (Mod.of_below hb7) (by simp))
            clear hb7
            go_wp2_with fail
            refine (put_any lo c _ hlt hlr.1 hlr.2).mono ?_
            rintro e w8 ⟨rfl, hb8⟩
            rw [EL.out]
            have M8 := Lib.hid (M7.out.trans (Mod.of_below hb8) (by simp))
            have HX8 := Lib.hid (HX7.out.kept (Mod.of_below hb8) (by simp))
            have HY8 := Lib.hid (HY7.out.kept (Mod.of_below hb8) (by simp))
            clear hb8 M7 HX7 HY7
            go_wp2_with fail
            refine (at_any bx _ _ false _ HX8.out).mono ?_
            rintro e w9 ⟨rfl, rfl⟩
            go_wp2_with fail
            refine (left_any bY _ _ false _ HY8.out).mono ?_
            rintro e w9 ⟨rfl, z9, rfl⟩
            have M9 := Lib.hid (M8.out.drewN z9)
            have HX9 := Lib.hid (HX8.out.drewN z9)
            have HY9 := Lib.hid (HY8.out.drewN z9)
            clear M8 HX8 HY8
            generalize w8.drewN z9 = w9 at *
            go_wp2_with fail
            refine (HF.out _).mono ?_
            rintro e w10 ⟨rfl, rfl⟩
            go_wp2_with fail
            refine (failed_any bx _ _ false _ HX9.out).mono ?_
            rintro e w10 ⟨rfl, rfl⟩
            go_wp2_with fail
            refine (HF.out _).mono ?_
            rintro e w10 ⟨rfl, rfl⟩
            go_wp2_with fail
            have ht := Take_all bY _ _ false x.size _ HY9.out
            rw [ETR.out] at ht
            refine ht.mono ?_
            rintro e w10 ⟨rfl, hy10, m10⟩
            have M10 := Lib.hid (M9.out.trans m10 (by simp; omega))
            clear hy10 m10 ht
            go_wp2_with fail
            refine (HF.out _).mono ?_
            rintro e w11 ⟨rfl, rfl⟩
            go_wp2_with fail
            go_roundw
            case rel => exact ⟨c + 1, by omega, by go_num, M10.out⟩
            case measure => simp [intOf]; omega
          · as_aux_lemma =>
            have g1' := g1 rfl
            clear g1
            have g2' := g2 rfl
            clear g2
            go_wp2_with fail
            refine (put_any sg c _ hlt hsr.1 hsr.2).mono ?_
            rintro e w7 ⟨rfl, hb7⟩
            rw [ES.out]
            have M7 := Lib.hid (M6.out.trans (Mod.of_below hb7) (by simp))
            have HX7 := Lib.hid (HX6.out.kept (Mod.of_below hb7) (by simp))
            have HY7 := Lib.hid (HY6.out.kept (Mod.of_below hb7) (by simp))
            clear hb7
            go_wp2_with fail
            refine (put_any lo c _ hlt hlr.1 hlr.2).mono ?_
            rintro e w8 ⟨rfl, hb8⟩
            rw [EL.out]
            have M8 := Lib.hid (M7.out.trans (Mod.of_below hb8) (by simp))
            have HX8 := Lib.hid (HX7.out.kept (Mod.of_below hb8) (by simp))
            have HY8 := Lib.hid (HY7.out.kept (Mod.of_below hb8) (by simp))
            clear hb8 M7 HX7 HY7
            go_wp2_with fail
            refine (at_any bx _ _ false _ HX8.out).mono ?_
            rintro e w9 ⟨rfl, rfl⟩
            go_wp2_with fail
            refine (left_any bY _ _ false _ HY8.out).mono ?_
            rintro e w9 ⟨rfl, z9, rfl⟩
            have M9 := Lib.hid (M8.out.drewN z9)
            have HX9 := Lib.hid (HX8.out.drewN z9)
            have HY9 := Lib.hid (HY8.out.drewN z9)
            clear M8 HX8 HY8
            generalize w8.drewN z9 = w9 at *
            go_wp2_with fail
            refine (HF.out _).mono ?_
            rintro e w10 ⟨rfl, rfl⟩
            go_wp2_with fail
            refine (failed_any bx _ _ false _ HX9.out).mono ?_
            rintro e w10 ⟨rfl, rfl⟩
            go_wp2_with fail
            refine (HF.out _).mono ?_
            rintro e w10 ⟨rfl, rfl⟩
            go_wp2_with fail
            have ht := Take_all bY _ _ false x.size _ HY9.out
            rw [ETR.out] at ht
            refine ht.mono ?_
            rintro e w10 ⟨rfl, hy10, m10⟩
            have M10 := Lib.hid (M9.out.trans m10 (by simp; omega))
            clear hy10 m10 ht
            go_wp2_with fail
            refine (HF.out _).mono ?_
            rintro e w11 ⟨rfl, rfl⟩
            go_wp2_with fail
            go_roundw
            case rel => exact ⟨c + 1, by omega, by go_num, M10.out⟩
            case measure => simp [intOf]; omega
    · go_wp2_with fail
      go_ret
      exact ⟨rfl, HMr.out.to_below⟩
end Go.Proofs.Ytdgebfdjlbcogaa
