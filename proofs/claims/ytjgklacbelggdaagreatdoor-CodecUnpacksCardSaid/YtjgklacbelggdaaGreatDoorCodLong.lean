/- CodecLong: the walk. -/
import Derived.Test.YtjgklacbelggdaaGreatDoorCodShown
import Derived.Laws.MakeOwn
namespace Go.Proofs.YtjgklacbelggdaaGreatDoor
open Go.RowKit
set_option linter.unusedVariables false

/-- So many zeros, made and read as a string. -/
theorem make_zeros (w : World) (n : Nat) (hn : n ≤ 281474976710656) : ∃ cs, (Instr.makeSlice 28 (.int .i64 (n : Int)) (.int .i64 (n : Int))).run Tryz.prog w = .ok (.slice (some ⟨w.heap.size, 0, none⟩) n n) (w.alloc (.cells cs 5)) ∧
    (convert 28 9 (.slice (some ⟨w.heap.size, 0, none⟩) n n)).run Tryz.prog (w.alloc (.cells cs 5)) = .ok (.string (bs (List.replicate n 0))) (w.alloc (.cells cs 5)) := by
  obtain ⟨i0, hi, hz0, hz1, hz2⟩ := info_parts Tryz.info_u8
  have h := run_make (P := Tryz.prog) w 28 5 i0 (.int .u8 0) Tryz.underlying28 hi hz0 .i64 .i64 (n : Int) (n : Int) (by omega) (Int.le_refl _) (by rw [hz2]; omega) (by omega)
  rw [Int.toNat_natCast, hz1, Nat.mul_one] at h
  refine ⟨_, h, conv_new w 28 9 5 n n (List.replicate n 0) _ 5 (by kernel_rfl) (by kernel_rfl) (by kernel_rfl) (by simp) ?_⟩
  apply List.ext_getElem
  · simp [size_madeCells]
  · intro i h1 h2
    simp [madeCells, bcell, Nat.mod_one, Value.cells]

theorem cells8 (c : Nat) (h : c < 4294967296) : #[Value.int .u8 ((c : Int) / 16777216), .int .u8 ((c : Int) / 65536 % 256), .int .u8 ((c : Int) / 256 % 256), .int .u8 ((c : Int) % 256), .int .u8 0, .int .u8 0, .int .u8 0, .int .u8 0] = ((Cod.b4 c ++ [0, 0, 0, 0]).map bcell).toArray := by
  have h1 : ∀ x : Nat, bcell (UInt8.ofNat x) = .int .u8 ((x : Int) % 256) := fun x => by
    rw [bcell, UInt8.toNat_ofNat']
    congr 1
  have h2 : bcell 0 = .int .u8 0 := rfl
  simp only [Cod.b4, List.cons_append, List.nil_append, List.map_cons, List.map_nil, h1, h2]
  rw [show ((c / 16777216 : Nat) : Int) % 256 = (c : Int) / 16777216 by omega, show ((c / 65536 : Nat) : Int) % 256 = (c : Int) / 65536 % 256 by omega, show ((c / 256 : Nat) : Int) % 256 = (c : Int) / 256 % 256 by omega]
theorem and16 (n : Int) : bits .and .i64 n 65535 = n % 65536 := by
  have h : (BitVec.ofInt 64 65535).toNat = 2 ^ 16 - 1 := by decide
  have key : (BitVec.ofInt 64 n &&& BitVec.ofInt 64 65535).toNat = (n % ((2 ^ 64 : Nat) : Int)).toNat % 2 ^ 16 := by
    rw [BitVec.toNat_and, BitVec.toNat_ofInt, h, Nat.and_two_pow_sub_one_eq_mod]
  show IntKind.i64.wrap ((BitVec.ofInt 64 n &&& BitVec.ofInt 64 65535).toNat : Nat) = n % 65536
  rw [key, IntKind.wrap_i64]
  omega

set_option maxRecDepth 4000 in
set_option maxHeartbeats 2000000 in
theorem long_walk (n : Int) (c : Nat) (hc : c < 4294967296) (w : World) (h : @Ev.LaidIn Cod.tagsVal w) :
    Calls Tryz.prog 8 #[.int .i64 n, .int .u32 c] w fun e w' => e = .returned (.bool true) ∧ Below w.heap.size w w' := by
  have HS := Lib.hid (shown_true w h)
  have e1 := and16 n
  obtain ⟨m, hm1, hm2, hm3⟩ : ∃ m : Nat, n % 65536 % 1000 = (m : Int) ∧ m < 1000 ∧ Int.tmod (n % 65536) 1000 = (m : Int) := by
    refine ⟨(n % 65536 % 1000).toNat, by omega, by omega, ?_⟩
    rw [Int.tmod_eq_emod_of_nonneg (by omega)]
    omega
  clear h
  go_enter Tryz.func8, Tryz.ntmps8
  go_wp2_with fail
  refine HS.out.mono ?_
  rintro e w1 ⟨rfl, hb1⟩
  have HM := Lib.hid (Mod.of_below hb1)
  clear hb1
  obtain ⟨c2, hc2, hc3, hc4⟩ : ∃ c2 : Nat, c2 = (if c ≤ 1048576 then c + 1048577 else c) ∧ 1048576 < c2 ∧ c2 < 4294967296 := ⟨_, rfl, by split <;> omega, by split <;> omega⟩
  obtain ⟨cs, hmk, hcv⟩ := make_zeros w1 (1048576 + (1 + m)) (by omega)
  have hk : (1048576 : Int) + (1 + (m : Int)) = ((1048576 + (1 + m) : Nat) : Int) := by omega
  have HZ : Hid (1048576 < 1048576 + (1 + m)) := by show 1048576 < 1048576 + (1 + m); omega
  have hk2 : wrap64 ((1048576 : Int) + (1 + (m : Int))) = ((1048576 + (1 + m) : Nat) : Int) := by unfold wrap64; omega
  have hk3 : wrap64 (1 + (m : Int)) = 1 + (m : Int) := by unfold wrap64; omega
  generalize 1048576 + (1 + m) = k at *
  by_cases hle : c ≤ 1048576
  case' pos =>
    have d1 : (c : Int) ≤ 1048576 := by omega
    have d2 : ((c : Int) + 1048576 + 1) = (c2 : Int) := by rw [if_pos hle] at hc2; omega
    have hc5 : c2 < 4294967296 := hc4
    clear hc
  case' neg =>
    have d1 : ¬ (c : Int) ≤ 1048576 := by omega
    have d2 : c2 = c := by rw [if_neg hle] at hc2; omega
    subst d2
  all_goals
    have HC2 := Lib.hid hc3
    have HC3 := Lib.hid hc4
    clear hc2 hle hc3 hc4
    go_wp2_with fail
    have hP := pack_all (bs (List.replicate k 0)) (w1.alloc (.cells cs 5))
    rw [show Cod.packS (bs (List.replicate k 0)) = bs [] from by unfold Cod.packS; rw [if_neg (by rw [bs_size, List.length_replicate]; exact Nat.not_le.2 HZ.out)]] at hP
    rw [show bs [] = (⟨#[]⟩ : ByteArray) from rfl] at hP
    refine hP.mono ?_
    rintro e w2 ⟨rfl, hm2⟩
    have HM2 := Lib.hid ((HM.out.alloc (.cells cs 5)).then hm2)
    clear hP hm2 hmk hcv d1
    try clear d2
    have hcell := cells8 c2 HC3.out
    have hcv := conv_new (P := Tryz.prog) w2 28 9 5 8 8 (Cod.b4 c2 ++ [0, 0, 0, 0]) #[Value.int .u8 ((c2 : Int) / 16777216), .int .u8 ((c2 : Int) / 65536 % 256), .int .u8 ((c2 : Int) / 256 % 256), .int .u8 ((c2 : Int) % 256), .int .u8 0, .int .u8 0, .int .u8 0, .int .u8 0] 5 (by kernel_rfl) (by kernel_rfl) (by kernel_rfl) rfl (by rw [hcell]; rfl)
    clear hcell
    go_wp2_with fail
    have hU := unpack_any (bs (Cod.b4 c2 ++ [0, 0, 0, 0])) (by show (8 : Nat) ≤ _; omega) (w2.alloc (.cells #[Value.int .u8 ((c2 : Int) / 16777216), .int .u8 ((c2 : Int) / 65536 % 256), .int .u8 ((c2 : Int) / 256 % 256), .int .u8 ((c2 : Int) % 256), .int .u8 0, .int .u8 0, .int .u8 0, .int .u8 0] 5))
    rw [Cod.unS_many (S := bs (Cod.b4 c2 ++ [0, 0, 0, 0])) (by show 4 ≤ (8 : Nat); omega) (by rw [bs_data, Cod.n4_b4 _ HC3.out]; exact HC2.out)] at hU
    rw [show (bs [], (2 : Int)) = ((⟨#[]⟩ : ByteArray), (2 : Int)) from rfl] at hU
    refine hU.mono ?_
    rintro e w3 ⟨rfl, hm3⟩
    have HM3 := Lib.hid ((HM2.out.alloc (.cells #[Value.int .u8 ((c2 : Int) / 16777216), .int .u8 ((c2 : Int) / 65536 % 256), .int .u8 ((c2 : Int) / 256 % 256), .int .u8 ((c2 : Int) % 256), .int .u8 0, .int .u8 0, .int .u8 0, .int .u8 0] 5)).then hm3)
    obtain ⟨q, hq1, hq2⟩ : ∃ q : Nat, Int.tmod (1 + (m : Int)) 4 = (q : Int) ∧ q < 4 := by
      refine ⟨(1 + m) % 4, ?_, by omega⟩
      rw [Int.tmod_eq_emod_of_nonneg (by omega)]
      omega
    have hcv2 : (convert 28 9 (.slice (some ⟨w2.heap.size, 0, none⟩) q 8)).run Tryz.prog w3 = .ok (.string (bs ((Cod.b4 c2 ++ [0, 0, 0, 0]).take q))) w3 := by
      have hlen : ((Cod.b4 c2 ++ [0, 0, 0, 0]).take q).length = q := by rw [List.length_take]; exact Nat.min_eq_left (by show q ≤ 8; omega)
      have h9 := conv_bytes (P := Tryz.prog) w3 28 9 5 ⟨w2.heap.size, 0, none⟩ 8 ((Cod.b4 c2 ++ [0, 0, 0, 0]).take q) (by kernel_rfl) (by kernel_rfl) (by kernel_rfl) (fun j u hj => by
        have hadd : (⟨w2.heap.size, 0, none⟩ : Addr).add j = ⟨w2.heap.size, j, none⟩ := by unfold Addr.add; split <;> simp_all
        rw [hadd, hm3.cell (p := ⟨w2.heap.size, j, none⟩) (by simp) (by simp), World.cell?_alloc_new, cells8 c2 HC3.out]
        rw [List.getElem?_take] at hj
        split at hj
        · rw [List.getElem?_toArray, List.getElem?_map, hj]; rfl
        · cases hj)
      rw [hlen] at h9
      exact h9
    have hsh : Cod.unS (bs ((Cod.b4 c2 ++ [0, 0, 0, 0]).take q)) = (bs [], 10) := Cod.unS_short (by rw [bs_size, List.length_take]; omega)
    have hU2 := unpack_any (bs ((Cod.b4 c2 ++ [0, 0, 0, 0]).take q)) (by rw [bs_size, List.length_take]; omega) w3
    rw [hsh, show (bs [], (10 : Int)) = ((⟨#[]⟩ : ByteArray), (10 : Int)) from rfl] at hU2
    have HU2 := Lib.hid hU2
    clear hU hm3 hcv hsh hU2
    go_wp2_with fail
    refine HU2.out.mono ?_
    rintro e w4 ⟨rfl, hm4⟩
    have HM4 := Lib.hid (HM3.out.then hm4)
    clear hm4 hcv2
    go_wp2_with fail
    go_ret
    exact ⟨rfl, HM4.out.to_below⟩

theorem long_walk2 (n c : Int) (w : World) (h : @Ev.LaidIn Cod.tagsVal w) (hn : -9223372036854775808 ≤ n ∧ n ≤ 9223372036854775807) (hc : 0 ≤ c ∧ c ≤ 4294967295) :
    Calls Tryz.prog 8 #[.int .i64 n, .int .u32 c] w fun e w' => e = .returned (.bool true) ∧ Below w.heap.size w w' := by
  obtain ⟨k, rfl⟩ := Int.eq_ofNat_of_zero_le hc.1
  exact long_walk n k (by omega) w h
end Go.Proofs.YtjgklacbelggdaaGreatDoor
