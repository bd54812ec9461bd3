/- The walk of OctetTexts. -/
import Derived.Test.YtdgebfdjlbcogaaOctShown
import Derived.Test.YtdgebfdjlbcogaaOctTexts0
import Derived.Deep.RegionHeld3
namespace Go.Proofs.Ytdgebfdjlbcogaa
open Go.RowKit

/-- A slice of strings that came in: no elements; or its elements' cells. -/
def Strs (w : World) (oa : Option Addr) (n : Nat) (ss : List ByteArray) : Prop :=
  n = ss.length ∧ n ≤ maxLen ∧ (∀ s ∈ ss, s.size ≤ maxLen) ∧ (0 < n → ∃ b off, oa = some ⟨b, off, none⟩ ∧ b < w.heap.size ∧ ∀ i (h : i < ss.length), w.cell? ⟨b, off + i, none⟩ = some (.string ss[i]))

namespace Oct
def fewL (s : ByteArray) : List UInt8 := (fewB s).data.toList
theorem fewL_length (s : ByteArray) : (fewL s).length ≤ 200 := by have := fewB_size s; unfold fewL; rw [len_data]; exact this
theorem bs_fewL (s : ByteArray) : bs (fewL s) = fewB s := bs_of _
/-- The texts of the first k strings, one behind the other. -/
def catTo (ss : List ByteArray) (k : Nat) : List UInt8 := cat ((ss.take k).map fewL)
theorem catTo_succ (ss : List ByteArray) (k : Nat) (h : k < ss.length) : catTo ss (k + 1) = catTo ss k ++ enc (fewL ss[k]) := by
  unfold catTo
  rw [List.take_succ_eq_append_getElem h, List.map_append, cat_append]
  simp [cat]
theorem catTo_length (ss : List ByteArray) (k : Nat) : (catTo ss k).length ≤ 202 * k := by
  induction k with
  | zero => simp [catTo, cat]
  | succ k ih =>
    by_cases h : k < ss.length
    · rw [catTo_succ ss k h, List.length_append, enc_length]
      have := fewL_length ss[k]
      omega
    · have : catTo ss (k + 1) = catTo ss k := by unfold catTo; rw [List.take_of_length_le (by omega), List.take_of_length_le (by omega)]
      rw [this]; omega
theorem catTo_split (ss : List ByteArray) (k m : Nat) (h : k ≤ m) : ∃ C, catTo ss m = catTo ss k ++ C := by
  refine ⟨cat (((ss.take m).drop k).map fewL), ?_⟩
  unfold catTo
  rw [← cat_append, ← List.map_append]
  congr 2
  rw [show ss.take k = (ss.take m).take k by rw [List.take_take]; congr 1; omega]
  simp
theorem textS_few (s : ByteArray) : textS (fewB s) = bs (enc (fewL s)) := by
  have h := fewB_size s
  unfold textS
  rw [if_pos (by omega)]
  have := putS_nat ((fewB s).size : Int) 2 (by omega)
  rw [show ((2 : Nat) : Int) = 2 from rfl] at this
  rw [this]
  apply bs_ext
  rw [ByteArray.data_append, Array.toList_append, bs_data, bs_data]
  unfold enc fewL
  rw [len_data]
theorem bs_append (a b : List UInt8) : bs a ++ bs b = bs (a ++ b) := by
  apply bs_ext
  rw [ByteArray.data_append, Array.toList_append, bs_data, bs_data, bs_data]
/-- Reading the k-th of m texts. -/
theorem catTo_read (ss : List ByteArray) (k m : Nat) (hk : k < m) (hm : k < ss.length) :
    textR (bs (catTo ss m)) (catTo ss k).length false = (fewB ss[k], (catTo ss (k + 1)).length, false) := by
  obtain ⟨C, hC⟩ := catTo_split ss (k + 1) m hk
  have hl := fewL_length ss[k]
  rw [hC, catTo_succ ss k hm, textR_at _ _ _ (by omega), bs_fewL, List.length_append]
/-- All of it, but the last byte. -/
def cutTo (ss : List ByteArray) (m : Nat) (x : ByteArray) : List UInt8 := catTo ss m ++ (enc (fewL x)).take ((fewL x).length + 1)
theorem cut_eq (ss : List ByteArray) (m : Nat) (h : m < ss.length) :
    (bs (catTo ss (m + 1))).extract 0 ((bs (catTo ss (m + 1))).size - 1) = bs (cutTo ss m ss[m]) := by
  apply bs_ext
  rw [ext_data, List.drop_zero, bs_data, bs_data, bs_size, catTo_succ ss m h, List.length_append, enc_length]
  unfold cutTo
  rw [show (catTo ss m).length + ((fewL ss[m]).length + 2) - 1 = (catTo ss m).length + ((fewL ss[m]).length + 1) by omega, List.take_append, List.take_of_length_le (by omega)]
  simp
theorem cut_read (ss : List ByteArray) (k m : Nat) (x : ByteArray) (hk : k < m) (hm : k < ss.length) :
    textR (bs (cutTo ss m x)) (catTo ss k).length false = (fewB ss[k], (catTo ss (k + 1)).length, false) := by
  obtain ⟨C, hC⟩ := catTo_split ss (k + 1) m hk
  have hl := fewL_length ss[k]
  unfold cutTo
  rw [hC, catTo_succ ss k hm, List.append_assoc, textR_at _ _ _ (by omega), bs_fewL, List.length_append]
theorem cut_last (ss : List ByteArray) (m : Nat) (x : ByteArray) : textR (bs (cutTo ss m x)) (catTo ss m).length false = (⟨#[]⟩, (catTo ss m).length, true) := by
  have hl := fewL_length x
  exact textR_less _ _ (by omega)
theorem cut_size (ss : List ByteArray) (m : Nat) (x : ByteArray) : (bs (cutTo ss m x)).size ≤ (catTo ss m).length + 202 := by
  unfold cutTo
  have hl := fewL_length x
  rw [bs_size, List.length_append, List.length_take, enc_length]; omega
theorem cat_len (ss : List ByteArray) (m : Nat) (h : m < ss.length) : (bs (catTo ss (m + 1))).size = (catTo ss m).length + (fewB ss[m]).size + 2 := by
  rw [bs_size, catTo_succ ss m h, List.length_append, enc_length]
  unfold fewL
  rw [len_data]; omega
end Oct

set_option maxHeartbeats 4000000 in
theorem texts_walk (oa : Option Addr) (n cap : Nat) (ss : List ByteArray) (w : World) (hst : Strs w oa n ss) :
    Calls Try.prog 7 #[.slice oa n cap] w fun e w' => e = .returned (.bool true) ∧ Below w.heap.size w w' := by
  obtain ⟨hn, hnm, hsz, hcells⟩ := hst
  unfold maxLen at hnm
  have HC := Lib.hid hcells
  have HN := Lib.hid hn
  have HS := Lib.hid hsz
  clear hcells hn hsz
  go_enter Try.func7, Try.ntmps7
  go_wp2_with fail
  refine (shown_any w).mono ?_
  rintro e w1 ⟨rfl, hb1⟩
  have M1 := Lib.hid (Mod.of_below hb1)
  have q1 := hb1.size
  clear hb1
  by_cases h10 : n ≤ 10
  · go_wp2_with fail

    go_loopw [4, 6] (fun t i wr => ∃ k : Nat, k ≤ n ∧ i = .int .i64 k ∧ t = .string (bs (Oct.catTo ss k)) ∧ Mod [] w wr) (fun _ i _ => n - (intOf i).toNat)
    case atStart => exact ⟨0, Nat.zero_le _, rfl, rfl, M1.out⟩
    case round =>
      obtain ⟨k, hk, rfl, rfl, Mr⟩ := hrel
      have HMr := Lib.hid Mr
      clear Mr M1
      have hcl := Oct.catTo_length ss k
      by_cases hlt : k < n
      · have hks : k < ss.length := by have := HN.out; omega
        obtain ⟨b, off, rfl, hbw, hc⟩ := HC.out (by omega)
        have hc' := (HMr.out.cell (p := ⟨b, off + k, none⟩) hbw (by simp)).trans (hc k hks)
        have hsk := HS.out _ (List.getElem_mem hks)
        have H := Lib.hid (Oct.catTo_succ ss k hks)
        have H2 := Lib.hid (Oct.textS_few ss[k])
        have hfs := Oct.fewB_size ss[k]
        have hel := Oct.enc_length (Oct.fewL ss[k])
        have hfl := Oct.fewL_length ss[k]
        clear hc
        generalize ss[k] = x at *
        have hbl : (bs (Oct.catTo ss k)).size ≤ 2020 := by rw [bs_size]; omega
        have hbe : (bs (Oct.enc (Oct.fewL x))).size ≤ 202 := by rw [bs_size]; omega
        have HA := Lib.hid (Oct.bs_append (Oct.catTo ss k) (Oct.enc (Oct.fewL x)))
        generalize bs (Oct.catTo ss k) = T at *
        go_wp2_with fail
        refine (few_any _ _ hsk).mono ?_
        rintro e w2 ⟨rfl, rfl⟩
        go_wp2_with fail
        refine (text_all _ _ (by unfold maxLen; omega)).mono ?_
        rintro e w2 ⟨rfl, hb2⟩
        rw [H2.out]
        generalize bs (Oct.enc (Oct.fewL x)) = E at *
        go_wp2_with fail
        go_roundw
        case rel => exact ⟨k + 1, by omega, by go_num, by rw [HA.out, H.out], HMr.out.trans (Mod.of_below hb2) (by simp)⟩
        case measure => simp [intOf]; omega
      · obtain rfl : n = k := by omega
        have hTl : (bs (Oct.catTo ss n)).size ≤ 2020 := by rw [bs_size]; omega
        have hTm : (bs (Oct.catTo ss n)).size ≤ maxLen := by unfold maxLen; omega
        go_wp2_with fail
        refine (read_any _ _ hTm).mono ?_
        rintro e w2 ⟨rfl, hr, m2⟩
        have M2 := Lib.hid (HMr.out.trans m2 (by simp))
        have q2 : w.heap.size ≤ wr.heap.size := HMr.out.size
        have hR := Lib.hid hr
        clear hr m2 HMr
        generalize ebr : wr.heap.size = br at *
        clear ebr
        go_wp2_with fail
        go_loopw [8] (fun i wr => ∃ k : Nat, k ≤ n ∧ i = .int .i64 k ∧ Rd wr br (bs (Oct.catTo ss n)) (Oct.catTo ss k).length false ∧ Mod [] w wr) (fun i _ => n - (intOf i).toNat)
        case atStart => exact ⟨0, Nat.zero_le _, rfl, hR.out, M2.out⟩
        case round =>
          obtain ⟨k, hk, rfl, hRr, Mr⟩ := hrel
          have HMr := Lib.hid Mr
          have HRr := Lib.hid hRr
          clear Mr M2 hR hRr
          by_cases hlt : k < n
          · have hks : k < ss.length := by have := HN.out; omega
            obtain ⟨b, off, rfl, hbw, hc⟩ := HC.out (by omega)
            have hc' := (HMr.out.cell (p := ⟨b, off + k, none⟩) hbw (by simp)).trans (hc k hks)
            have hsk := HS.out _ (List.getElem_mem hks)
            have H := Lib.hid (Oct.catTo_read ss k n hlt hks)
            clear hc
            have ht := fun w' (h : Rd w' br (bs (Oct.catTo ss n)) (Oct.catTo ss k).length false) => Text_all br _ _ false w' h
            simp only [H.out] at ht
            have HF := Lib.hid (fun w' => few_any ss[k] w' hsk)
            have HT := Lib.hid ht
            clear ht H
            generalize Oct.fewB ss[k] = y at *
            generalize ss[k] = x at *
            have hi0 : (0 : Int) ≤ (k : Int) := by omega
            have hi1 : (k : Int) < (n : Int) := by omega
            go_wp2_with fail
            go_region_held3 (fun w' => w'.cell? ⟨b, off + k, none⟩ = some (.string x)) (first | exact hc' | exact (m8.cell (p := ⟨b, off + k, none⟩) (Nat.lt_of_lt_of_le hbw HMr.out.size) (by simp; omega)).trans hc') (first | (go_at_call 24; refine (HT.out _ (by first | exact HRr.out | exact HRr.out.drew)).mono ?_; rintro e w8 ⟨rfl, hR8, m8⟩) | (go_at_call 13; refine (HF.out _).mono ?_; rintro e w9 ⟨rfl, rfl⟩) | (go_at_call 23; refine (failed_any br _ _ false _ hR8).mono ?_; rintro e w9 ⟨rfl, rfl⟩))
            have hM8 : Mod [] w w8 := by first | exact HMr.out.trans m8 (by simp; omega) | exact HMr.out.drew.trans m8 (by simp; omega)
            have HM8 := Lib.hid hM8
            have HR8 := Lib.hid hR8
            clear m8 hR8 hM8
            go_wp2_with fail
            go_roundw
            case rel => exact ⟨k + 1, by omega, by go_num, by first | exact HR8.out | exact HR8.out.drew, by first | exact HM8.out | exact HM8.out.drew⟩
            case measure => simp [intOf]; omega
          · obtain rfl : n = k := by omega
            have hsz : (Oct.catTo ss n).length = (bs (Oct.catTo ss n)).size := (bs_size _).symm
            rw [hsz] at HRr
            clear hsz
            have dl : ((((bs (Oct.catTo ss n)).size : Int) - (bs (Oct.catTo ss n)).size) != 0) = false := by simp
            have dl' : ((((bs (Oct.catTo ss n)).size : Int) - (bs (Oct.catTo ss n)).size) == 0) = true := by simp
            have da : ((((bs (Oct.catTo ss n)).size : Int)) != (bs (Oct.catTo ss n)).size) = false := by simp
            have da' : ((((bs (Oct.catTo ss n)).size : Int)) == (bs (Oct.catTo ss n)).size) = true := by simp
            by_cases h0 : n = 0
            · have h0' : ((n : Int) == 0) = true := by simp [h0]
              clear h0
              go_wp2_with fail
              refine (left_any br _ _ false _ HRr.out).mono ?_
              rintro e w3 ⟨rfl, z3, rfl⟩
              have HR3 := Lib.hid (HRr.out.drewN z3)
              have M3 := Lib.hid (HMr.out.drewN z3)
              clear HRr HMr
              generalize wr.drewN z3 = w3 at *
              go_wp2_with fail
              refine (at_any br _ _ false _ HR3.out).mono ?_
              rintro e w4 ⟨rfl, rfl⟩
              go_wp2_with fail
              refine (left_any br _ _ false _ HR3.out).mono ?_
              rintro e w4 ⟨rfl, z4, rfl⟩
              have HR4 := Lib.hid (HR3.out.drewN z4)
              have M4 := Lib.hid (M3.out.drewN z4)
              clear HR3 M3
              generalize w3.drewN z4 = w4 at *
              go_wp2_with fail
              refine (at_any br _ _ false _ HR4.out).mono ?_
              rintro e w5 ⟨rfl, rfl⟩
              go_wp2_with fail
              go_ret
              exact ⟨rfl, M4.out.to_below⟩
            · have h0' : ((n : Int) == 0) = false := by simp [h0]
              go_wp2_with fail
              refine (left_any br _ _ false _ HRr.out).mono ?_
              rintro e w3 ⟨rfl, z3, rfl⟩
              have HR3 := Lib.hid (HRr.out.drewN z3)
              have M3 := Lib.hid (HMr.out.drewN z3)
              clear HRr HMr
              generalize wr.drewN z3 = w3 at *
              go_wp2_with fail
              refine (at_any br _ _ false _ HR3.out).mono ?_
              rintro e w4 ⟨rfl, rfl⟩
              obtain ⟨m, hm⟩ : ∃ m, n = m + 1 := ⟨n - 1, by omega⟩
              have hms : m < ss.length := by have := HN.out; omega
              have E1 := Lib.hid (Oct.cut_eq ss m hms)
              have E2 := Lib.hid (Oct.cat_len ss m hms)
              have hc2 := Oct.catTo_length ss m
              have hcs := Oct.cut_size ss m ss[m]
              have hT1 : 1 ≤ (bs (Oct.catTo ss n)).size := by have := E2.out; rw [← hm] at this; omega
              rw [← hm] at E1 E2
              have hm10 : m + 1 ≤ 10 := by omega
              have hm11 : m + 1 ≤ n := by omega
              have hm12 : n ≤ m + 1 := by omega
              have HM := Lib.hid hm
              clear hm
              go_wp2_with fail
              rw [E1.out]
              refine (read_any _ _ (by unfold maxLen; omega)).mono ?_
              rintro e w5 ⟨rfl, hr, m5⟩
              have M5 := Lib.hid (M3.out.trans m5 (by simp))
              have q5 : w.heap.size ≤ w3.heap.size := M3.out.size
              have hR5 := Lib.hid hr
              clear hr m5 M3 HR3
              generalize ebc : w3.heap.size = bc at *
              clear ebc
              go_wp2_with fail
              go_loopw [10] (fun i wr => ∃ k : Nat, k ≤ m ∧ i = .int .i64 k ∧ Rd wr bc (bs (Oct.cutTo ss m ss[m])) (Oct.catTo ss k).length false ∧ Mod [] w wr) (fun i _ => m - (intOf i).toNat)
              case atStart => exact ⟨0, Nat.zero_le _, rfl, hR5.out, M5.out⟩
              case round =>
                obtain ⟨k, hk, rfl, hRr, Mr⟩ := hrel
                have HMr := Lib.hid Mr
                have HRr := Lib.hid hRr
                clear Mr M5 hR5 hRr
                by_cases hlt : k < m
                · have hks : k < ss.length := by have := HN.out; omega
                  have ht := Text_all bc _ _ false _ HRr.out
                  rw [Oct.cut_read ss k m ss[m] hlt hks] at ht
                  have HT := Lib.hid ht
                  clear ht
                  generalize Oct.fewB ss[k] = y at *
                  go_wp2_with fail
                  refine HT.out.mono ?_
                  rintro e w6 ⟨rfl, hR6, m6⟩
                  have HR6 := Lib.hid hR6
                  have M6 := Lib.hid (HMr.out.trans m6 (by simp; omega))
                  clear hR6 m6 HT
                  go_wp2_with fail
                  go_roundw
                  case rel => exact ⟨k + 1, by omega, by go_num, HR6.out, M6.out⟩
                  case measure => simp [intOf]; omega
                · obtain rfl : m = k := by omega
                  have ht := Text_all bc _ _ false _ HRr.out
                  rw [Oct.cut_last ss m ss[m]] at ht
                  have HT := Lib.hid ht
                  clear ht
                  go_wp2_with fail
                  refine (at_any bc _ _ false _ HRr.out).mono ?_
                  rintro e w6 ⟨rfl, rfl⟩
                  go_wp2_with fail
                  refine HT.out.mono ?_
                  rintro e w6 ⟨rfl, hR6, m6⟩
                  have HR6 := Lib.hid hR6
                  have M6 := Lib.hid (HMr.out.trans m6 (by simp; omega))
                  clear hR6 m6 HT HRr HMr
                  go_wp2_with fail
                  refine (failed_any bc _ _ true _ HR6.out).mono ?_
                  rintro e w7 ⟨rfl, rfl⟩
                  go_wp2_with fail
                  refine (at_any bc _ _ true _ HR6.out).mono ?_
                  rintro e w7 ⟨rfl, rfl⟩
                  obtain ⟨b, off, rfl, hbw, hc⟩ := HC.out (by omega)
                  have hc' := (M6.out.cell (p := ⟨b, off + m, none⟩) hbw (by simp)).trans (hc m hms)
                  have hsk := HS.out _ (List.getElem_mem hms)
                  have ei : ((n : Int) - 1).toNat = m := by have := HM.out; omega
                  have ei2 : (n : Int) - 1 = (m : Int) := by have := HM.out; omega
                  clear hc
                  go_wp2_with fail
                  refine (few_any _ _ hsk).mono ?_
                  rintro e w7 ⟨rfl, rfl⟩
                  have hfs := Oct.fewB_size ss[m]
                  have hlast : (((Oct.catTo ss m).length : Int) == ((bs (Oct.catTo ss n)).size : Int) - (Oct.fewB ss[m]).size - 2) = true := by have := E2.out; rw [beq_iff_eq]; omega
                  go_wp2_with fail
                  go_ret
                  exact ⟨rfl, M6.out.to_below⟩
  · have h10' : 10 < n := by omega
    clear h10
    go_wp2_with fail

    go_loopw [4, 6] (fun t i wr => ∃ k : Nat, k ≤ 10 ∧ i = .int .i64 k ∧ t = .string (bs (Oct.catTo ss k)) ∧ Mod [] w wr) (fun _ i _ => 10 - (intOf i).toNat)
    case atStart => exact ⟨0, Nat.zero_le _, rfl, rfl, M1.out⟩
    case round =>
      obtain ⟨k, hk, rfl, rfl, Mr⟩ := hrel
      have HMr := Lib.hid Mr
      clear Mr M1
      have hcl := Oct.catTo_length ss k
      by_cases hlt : k < 10
      · have hks : k < ss.length := by have := HN.out; omega
        obtain ⟨b, off, rfl, hbw, hc⟩ := HC.out (by omega)
        have hc' := (HMr.out.cell (p := ⟨b, off + k, none⟩) hbw (by simp)).trans (hc k hks)
        have hsk := HS.out _ (List.getElem_mem hks)
        have H := Lib.hid (Oct.catTo_succ ss k hks)
        have H2 := Lib.hid (Oct.textS_few ss[k])
        have hfs := Oct.fewB_size ss[k]
        have hel := Oct.enc_length (Oct.fewL ss[k])
        have hfl := Oct.fewL_length ss[k]
        clear hc
        generalize ss[k] = x at *
        have hbl : (bs (Oct.catTo ss k)).size ≤ 2020 := by rw [bs_size]; omega
        have hbe : (bs (Oct.enc (Oct.fewL x))).size ≤ 202 := by rw [bs_size]; omega
        have HA := Lib.hid (Oct.bs_append (Oct.catTo ss k) (Oct.enc (Oct.fewL x)))
        generalize bs (Oct.catTo ss k) = T at *
        go_wp2_with fail
        refine (few_any _ _ hsk).mono ?_
        rintro e w2 ⟨rfl, rfl⟩
        go_wp2_with fail
        refine (text_all _ _ (by unfold maxLen; omega)).mono ?_
        rintro e w2 ⟨rfl, hb2⟩
        rw [H2.out]
        generalize bs (Oct.enc (Oct.fewL x)) = E at *
        go_wp2_with fail
        go_roundw
        case rel => exact ⟨k + 1, by omega, by go_num, by rw [HA.out, H.out], HMr.out.trans (Mod.of_below hb2) (by simp)⟩
        case measure => simp [intOf]; omega
      · obtain rfl : 10 = k := by omega
        have hTl : (bs (Oct.catTo ss 10)).size ≤ 2020 := by rw [bs_size]; omega
        have hTm : (bs (Oct.catTo ss 10)).size ≤ maxLen := by unfold maxLen; omega
        go_wp2_with fail
        refine (read_any _ _ hTm).mono ?_
        rintro e w2 ⟨rfl, hr, m2⟩
        have M2 := Lib.hid (HMr.out.trans m2 (by simp))
        have q2 : w.heap.size ≤ wr.heap.size := HMr.out.size
        have hR := Lib.hid hr
        clear hr m2 HMr
        generalize ebr : wr.heap.size = br at *
        clear ebr
        go_wp2_with fail
        go_loopw [8] (fun i wr => ∃ k : Nat, k ≤ 10 ∧ i = .int .i64 k ∧ Rd wr br (bs (Oct.catTo ss 10)) (Oct.catTo ss k).length false ∧ Mod [] w wr) (fun i _ => 10 - (intOf i).toNat)
        case atStart => exact ⟨0, Nat.zero_le _, rfl, hR.out, M2.out⟩
        case round =>
          obtain ⟨k, hk, rfl, hRr, Mr⟩ := hrel
          have HMr := Lib.hid Mr
          have HRr := Lib.hid hRr
          clear Mr M2 hR hRr
          by_cases hlt : k < 10
          · have hks : k < ss.length := by have := HN.out; omega
            obtain ⟨b, off, rfl, hbw, hc⟩ := HC.out (by omega)
            have hc' := (HMr.out.cell (p := ⟨b, off + k, none⟩) hbw (by simp)).trans (hc k hks)
            have hsk := HS.out _ (List.getElem_mem hks)
            have H := Lib.hid (Oct.catTo_read ss k 10 hlt hks)
            clear hc
            have ht := fun w' (h : Rd w' br (bs (Oct.catTo ss 10)) (Oct.catTo ss k).length false) => Text_all br _ _ false w' h
            simp only [H.out] at ht
            have HF := Lib.hid (fun w' => few_any ss[k] w' hsk)
            have HT := Lib.hid ht
            clear ht H
            generalize Oct.fewB ss[k] = y at *
            generalize ss[k] = x at *
            have hi0 : (0 : Int) ≤ (k : Int) := by omega
            have hi1 : (k : Int) < (n : Int) := by omega
            go_wp2_with fail
            go_region_held3 (fun w' => w'.cell? ⟨b, off + k, none⟩ = some (.string x)) (first | exact hc' | exact (m8.cell (p := ⟨b, off + k, none⟩) (Nat.lt_of_lt_of_le hbw HMr.out.size) (by simp; omega)).trans hc') (first | (go_at_call 24; refine (HT.out _ (by first | exact HRr.out | exact HRr.out.drew)).mono ?_; rintro e w8 ⟨rfl, hR8, m8⟩) | (go_at_call 13; refine (HF.out _).mono ?_; rintro e w9 ⟨rfl, rfl⟩) | (go_at_call 23; refine (failed_any br _ _ false _ hR8).mono ?_; rintro e w9 ⟨rfl, rfl⟩))
            have hM8 : Mod [] w w8 := by first | exact HMr.out.trans m8 (by simp; omega) | exact HMr.out.drew.trans m8 (by simp; omega)
            have HM8 := Lib.hid hM8
            have HR8 := Lib.hid hR8
            clear m8 hR8 hM8
            go_wp2_with fail
            go_roundw
            case rel => exact ⟨k + 1, by omega, by go_num, by first | exact HR8.out | exact HR8.out.drew, by first | exact HM8.out | exact HM8.out.drew⟩
            case measure => simp [intOf]; omega
          · obtain rfl : 10 = k := by omega
            have hsz : (Oct.catTo ss 10).length = (bs (Oct.catTo ss 10)).size := (bs_size _).symm
            rw [hsz] at HRr
            clear hsz
            have dl : ((((bs (Oct.catTo ss 10)).size : Int) - (bs (Oct.catTo ss 10)).size) != 0) = false := by simp
            have dl' : ((((bs (Oct.catTo ss 10)).size : Int) - (bs (Oct.catTo ss 10)).size) == 0) = true := by simp
            have da : ((((bs (Oct.catTo ss 10)).size : Int)) != (bs (Oct.catTo ss 10)).size) = false := by simp
            have da' : ((((bs (Oct.catTo ss 10)).size : Int)) == (bs (Oct.catTo ss 10)).size) = true := by simp
            go_wp2_with fail
            refine (left_any br _ _ false _ HRr.out).mono ?_
            rintro e w3 ⟨rfl, z3, rfl⟩
            have HR3 := Lib.hid (HRr.out.drewN z3)
            have M3 := Lib.hid (HMr.out.drewN z3)
            clear HRr HMr
            generalize wr.drewN z3 = w3 at *
            go_wp2_with fail
            refine (at_any br _ _ false _ HR3.out).mono ?_
            rintro e w4 ⟨rfl, rfl⟩
            obtain ⟨m, hm⟩ : ∃ m, 10 = m + 1 := ⟨10 - 1, by omega⟩
            have hms : m < ss.length := by have := HN.out; omega
            have E1 := Lib.hid (Oct.cut_eq ss m hms)
            have E2 := Lib.hid (Oct.cat_len ss m hms)
            have hc2 := Oct.catTo_length ss m
            have hcs := Oct.cut_size ss m ss[m]
            have hT1 : 1 ≤ (bs (Oct.catTo ss 10)).size := by have := E2.out; rw [← hm] at this; omega
            rw [← hm] at E1 E2
            have hm10 : m + 1 ≤ 10 := by omega
            have hm11 : m + 1 ≤ 10 := by omega
            have hm12 : 10 ≤ m + 1 := by omega
            have HM := Lib.hid hm
            clear hm
            go_wp2_with fail
            rw [E1.out]
            refine (read_any _ _ (by unfold maxLen; omega)).mono ?_
            rintro e w5 ⟨rfl, hr, m5⟩
            have M5 := Lib.hid (M3.out.trans m5 (by simp))
            have q5 : w.heap.size ≤ w3.heap.size := M3.out.size
            have hR5 := Lib.hid hr
            clear hr m5 M3 HR3
            generalize ebc : w3.heap.size = bc at *
            clear ebc
            go_wp2_with fail
            go_loopw [10] (fun i wr => ∃ k : Nat, k ≤ m ∧ i = .int .i64 k ∧ Rd wr bc (bs (Oct.cutTo ss m ss[m])) (Oct.catTo ss k).length false ∧ Mod [] w wr) (fun i _ => m - (intOf i).toNat)
            case atStart => exact ⟨0, Nat.zero_le _, rfl, hR5.out, M5.out⟩
            case round =>
              obtain ⟨k, hk, rfl, hRr, Mr⟩ := hrel
              have HMr := Lib.hid Mr
              have HRr := Lib.hid hRr
              clear Mr M5 hR5 hRr
              by_cases hlt : k < m
              · have hks : k < ss.length := by have := HN.out; omega
                have ht := Text_all bc _ _ false _ HRr.out
                rw [Oct.cut_read ss k m ss[m] hlt hks] at ht
                have HT := Lib.hid ht
                clear ht
                generalize Oct.fewB ss[k] = y at *
                go_wp2_with fail
                refine HT.out.mono ?_
                rintro e w6 ⟨rfl, hR6, m6⟩
                have HR6 := Lib.hid hR6
                have M6 := Lib.hid (HMr.out.trans m6 (by simp; omega))
                clear hR6 m6 HT
                go_wp2_with fail
                go_roundw
                case rel => exact ⟨k + 1, by omega, by go_num, HR6.out, M6.out⟩
                case measure => simp [intOf]; omega
              · obtain rfl : m = k := by omega
                have ht := Text_all bc _ _ false _ HRr.out
                rw [Oct.cut_last ss m ss[m]] at ht
                have HT := Lib.hid ht
                clear ht
                go_wp2_with fail
                refine (at_any bc _ _ false _ HRr.out).mono ?_
                rintro e w6 ⟨rfl, rfl⟩
                go_wp2_with fail
                refine HT.out.mono ?_
                rintro e w6 ⟨rfl, hR6, m6⟩
                have HR6 := Lib.hid hR6
                have M6 := Lib.hid (HMr.out.trans m6 (by simp; omega))
                clear hR6 m6 HT HRr HMr
                go_wp2_with fail
                refine (failed_any bc _ _ true _ HR6.out).mono ?_
                rintro e w7 ⟨rfl, rfl⟩
                go_wp2_with fail
                refine (at_any bc _ _ true _ HR6.out).mono ?_
                rintro e w7 ⟨rfl, rfl⟩
                obtain ⟨b, off, rfl, hbw, hc⟩ := HC.out (by omega)
                have hc' := (M6.out.cell (p := ⟨b, off + m, none⟩) hbw (by simp)).trans (hc m hms)
                have hsk := HS.out _ (List.getElem_mem hms)
                have ei : ((10 : Int) - 1).toNat = m := by have := HM.out; omega
                have ei2 : (10 : Int) - 1 = (m : Int) := by have := HM.out; omega
                clear hc
                go_wp2_with fail
                refine (few_any _ _ hsk).mono ?_
                rintro e w7 ⟨rfl, rfl⟩
                have hfs := Oct.fewB_size ss[m]
                have hlast : (((Oct.catTo ss m).length : Int) == ((bs (Oct.catTo ss 10)).size : Int) - (Oct.fewB ss[m]).size - 2) = true := by have := E2.out; rw [beq_iff_eq]; omega
                go_wp2_with fail
                go_ret
                exact ⟨rfl, M6.out.to_below⟩
end Go.Proofs.Ytdgebfdjlbcogaa
