/-
  The document's print: a number's digits, a bool.
  The document's print: rows of numbers, of instructions.
-/
import Derived.Test.YtaloembfekdkoaaGKit
import Derived.Test.YtaloembfekdkoaaGBase
import Derived.Test.YtaloembfekdkoaaData

namespace Go.Proofs.Ytaloembfekdkoaa
open Go.RowKit
set_option linter.unusedVariables false
set_option maxRecDepth 100000
def Pr.loop : Nat → Nat → List UInt8 → List UInt8
  | 0, _, s => s
  | f + 1, k, s => if k = 0 ∧ s ≠ [] then s else Pr.loop f (k / 10) (UInt8.ofNat (48 + k % 10) :: s)
def Pr.digL (n : Int) : List UInt8 := (if n < 0 then [45] else []) ++ Pr.loop 20 n.natAbs [] ++ [32]
def Pr.dig (n : Int) : ByteArray := bs (Pr.digL n)
theorem Pr.loop_len : ∀ (f k : Nat) (s : List UInt8), (Pr.loop f k s).length ≤ s.length + f
  | 0, _, s => by simp [Pr.loop]
  | f + 1, k, s => by
    unfold Pr.loop
    split
    · omega
    · have := Pr.loop_len f (k / 10) (UInt8.ofNat (48 + k % 10) :: s)
      simp only [List.length_cons] at this
      omega
theorem Pr.dig_size (n : Int) : (Pr.dig n).size ≤ 22 := by
  unfold Pr.dig Pr.digL
  rw [bs_size]
  have := Pr.loop_len 20 n.natAbs []
  simp only [List.length_append, List.length_cons, List.length_nil] at *
  split <;> simp <;> omega
theorem Pr.loop_end (f : Nat) (s : List UInt8) (h : s ≠ []) : Pr.loop f 0 s = s := by
  cases f with
  | zero => rfl
  | succ f => unfold Pr.loop; rw [if_pos ⟨rfl, h⟩]
def Pr.yes (b : Bool) : ByteArray := if b then ⟨#[49, 32]⟩ else ⟨#[48, 32]⟩
theorem yes_any (b : Bool) (w : World) : Calls Try.prog 19 #[.bool b] w fun e w' => e = .returned (.string (Pr.yes b)) ∧ Mod [] w w' := by
  cases b
  · go_enter Try.func19, Try.ntmps19
    go_wp2_with fail
    go_ret
    exact ⟨rfl, Mod.refl _ _⟩
  · go_enter Try.func19, Try.ntmps19
    go_wp2_with fail
    go_ret
    exact ⟨rfl, Mod.refl _ _⟩
theorem bs_cons (c : UInt8) (l : List UInt8) : bs [c] ++ bs l = bs (c :: l) := by
  apply ByteArray.ext
  simp [bs]
set_option maxHeartbeats 4000000 in
theorem digits_any (n : Int) (w : World) (hn : I64 n) : Calls Try.prog 18 #[.int .i64 n] w fun e w' => e = .returned (.string (Pr.dig n)) ∧ Mod [] w w' := by
  obtain ⟨fin, hfin⟩ : ∃ fin, Pr.loop 20 n.natAbs [] = fin := ⟨_, rfl⟩
  have HFIN := Lib.hid hfin
  have HN := Lib.hid hn
  have e0 : (⟨#[]⟩ : ByteArray) = bs [] := rfl
  clear hfin hn
  go_enter Try.func18, Try.ntmps18
  go_wp2_with fail
  go_loopg [3, 4] 20 (fun gk s3 s4 wr => ∃ (k : Int) (l : List UInt8), s3 = .string (bs l) ∧ s4 = .int .i64 k ∧ Hid (k.natAbs < 10 ^ gk ∧ (gk = 0 → l ≠ []) ∧ l.length + gk ≤ 20 ∧ Pr.loop gk k.natAbs l = fin ∧ I64 k) ∧ Hid (Mod [] w wr))
  case atStart => exact ⟨n, [], rfl, rfl, ⟨by have := HN.out; unfold I64 at this; omega, by omega, by simp, HFIN.out, HN.out⟩, Mod.refl _ _⟩
  case round =>
    obtain ⟨k, l, rfl, rfl, HI, HM⟩ := hrel
    obtain ⟨h1, h2, h3, h4, h5⟩ := HI.out
    by_cases hd : k = 0 ∧ l ≠ []
    · obtain ⟨rfl, hl⟩ := hd
      have hq : ((bs l).toList == (bs []).toList) = false := by
        rw [beq_eq_false_iff_ne]
        intro he
        apply hl
        simpa [bs] using he
      have hfl : fin = l := by rw [← h4]; exact Pr.loop_end gk l hl
      have HD := Lib.hid (show ∀ b : Bool, b = decide (n < 0) → (if b = true then bs [45] ++ bs l ++ bs [32] else bs l ++ bs [32]) = Pr.dig n from fun b hb => by
        unfold Pr.dig Pr.digL
        rw [HFIN.out, hfl, hb]
        by_cases hn : n < 0
        · rw [if_pos hn, if_pos (decide_eq_true hn)]
          apply ByteArray.ext; simp [bs]
        · rw [if_neg hn, if_neg (by simpa using hn)]
          apply ByteArray.ext; simp [bs])
      have z1 : ¬ 9223372036854775807 < 1 + (bs l).size := by rw [bs_size]; omega
      have z2 : ¬ 9223372036854775807 < 1 + (bs l).size + 1 := by rw [bs_size]; omega
      have z3 : ¬ 9223372036854775807 < (bs l).size + 1 := by rw [bs_size]; omega
      rw [show bs [45] = (⟨#[45]⟩ : ByteArray) from rfl, show bs [32] = (⟨#[32]⟩ : ByteArray) from rfl] at *
      by_cases hn : n < 0
      · have n1 : decide (n < 0) = true := decide_eq_true hn
        clear h1 h2 h3 h4 h5 hfl hl HI
        go_wp2_with fail
        go_ret
        exact ⟨by rw [← HD.out true n1.symm]; rfl, HM.out⟩
      · have n1 : decide (n < 0) = false := decide_eq_false hn
        clear h1 h2 h3 h4 h5 hfl hl HI
        go_wp2_with fail
        go_ret
        exact ⟨by rw [← HD.out false n1.symm]; rfl, HM.out⟩
    · have hgk : gk ≠ 0 := fun h0 => by
        subst h0
        exact hd ⟨by simp at h1; omega, h2 rfl⟩
      obtain ⟨g', rfl⟩ : ∃ g', gk = g' + 1 := ⟨gk - 1, by omega⟩
      have hq : (((k == 0) = false)) ∨ (k = 0 ∧ l = []) := by
        by_cases h : k = 0
        · right
          refine ⟨h, ?_⟩
          cases l with
          | nil => rfl
          | cons x r => exact absurd ⟨h, by simp⟩ hd
        · left
          simpa using h
      have hstep : Pr.loop g' (k.natAbs / 10) (UInt8.ofNat (48 + k.natAbs % 10) :: l) = fin := by
        rw [← h4]
        show _ = (if k.natAbs = 0 ∧ l ≠ [] then l else _)
        rw [if_neg (fun h => hd ⟨by omega, h.2⟩)]
      obtain ⟨c, hc⟩ : ∃ c : Nat, k.natAbs % 10 = c := ⟨_, rfl⟩
      have hc10 : c < 10 := by omega
      obtain ⟨q, hqq⟩ : ∃ q : Int, Int.tdiv k 10 = q := ⟨_, rfl⟩
      have hqa : q.natAbs = k.natAbs / 10 := by rw [← hqq, Int.natAbs_tdiv]; rfl
      have hr : Int.tmod k 10 = if k < 0 then -(c : Int) else (c : Int) := by
        by_cases h : k < 0
        · rw [if_pos h]
          have : Int.tmod k 10 = -(Int.tmod (-k) 10) := by rw [Int.neg_tmod]; simp
          rw [this, Int.tmod_eq_emod_of_nonneg (by omega)]
          omega
        · rw [if_neg h, Int.tmod_eq_emod_of_nonneg (by omega)]
          omega
      have hu : (UInt8.ofNat (48 + c)).toNat = 48 + c := by rw [UInt8.toNat_ofNat']; omega
      have hcv := conv_new (P := Try.prog) wr 118 9 5 1 1 [UInt8.ofNat (48 + c)] #[.int .u8 (48 + (c : Int))] 5 (by kernel_rfl) (by kernel_rfl) (by kernel_rfl) rfl (by simp [bcell]; omega)
      have HST := Lib.hid (show q.natAbs < 10 ^ g' ∧ (g' = 0 → (UInt8.ofNat (48 + c) :: l) ≠ []) ∧ (UInt8.ofNat (48 + c) :: l).length + g' ≤ 20 ∧ Pr.loop g' q.natAbs (UInt8.ofNat (48 + c) :: l) = fin ∧ I64 q from
        ⟨by rw [hqa]; rw [Nat.pow_succ] at h1; omega, by simp, by simp only [List.length_cons]; omega, by rw [hqa, ← hc]; exact hstep, by unfold I64 at *; omega⟩)
      have z1 : ¬ 9223372036854775807 < (bs [UInt8.ofNat (48 + c)]).size + (bs l).size := by rw [bs_size, bs_size]; simp; omega
      have wq : wrap64 q = q := by have := HST.out.2.2.2.2; unfold I64 at this; unfold wrap64; omega
      have HWQ := Lib.hid wq
      have HM2 := Lib.hid (HM.out.alloc (.cells #[.int .u8 (48 + (c : Int))] 5))
      clear h1 h2 h3 h4 h5 HI hstep hc hqa hd hgk hu wq
      generalize UInt8.ofNat (48 + c) = y at *
      rcases hq with hk0 | ⟨rfl, rfl⟩
      · have hk1 : (k != 0) = true := by simpa using hk0
        by_cases hn : k < 0
        · rw [if_pos hn] at hr
          by_cases hcz : c = 0
          · subst hcz
            simp only [Int.natCast_zero, Int.neg_zero, Int.add_zero] at hr hcv HM2
            go_wp2_with fail
            go_roundg g'
            case measure => omega
            case rel => exact ⟨q, y :: l, by rw [bs_cons], by rw [HWQ.out], HST.out, HM2.out⟩
          · go_wp2_with fail
            go_roundg g'
            case measure => omega
            case rel => exact ⟨q, y :: l, by rw [bs_cons], by rw [HWQ.out], HST.out, HM2.out⟩
        · rw [if_neg hn] at hr
          go_wp2_with fail
          go_roundg g'
          case measure => omega
          case rel => exact ⟨q, y :: l, by rw [bs_cons], by rw [HWQ.out], HST.out, HM2.out⟩
      · simp only [show ¬ ((0 : Int) < 0) from by omega, if_false] at hr
        go_wp2_with fail
        go_roundg g'
        case measure => omega
        case rel => exact ⟨q, [y], by rw [bs_cons], by rw [HWQ.out], HST.out, HM2.out⟩
end Go.Proofs.Ytaloembfekdkoaa

namespace Go.Proofs.Ytaloembfekdkoaa
open Go.RowKit
set_option linter.unusedVariables false
set_option maxRecDepth 100000
def Pr.run {α : Type} (f : ByteArray → α → ByteArray) (s : ByteArray) (l : List α) : ByteArray := l.foldl f s
theorem Pr.run_take {α : Type} (f : ByteArray → α → ByteArray) (s : ByteArray) (l : List α) (i : Nat) (h : i < l.length) : Pr.run f s (l.take (i + 1)) = f (Pr.run f s (l.take i)) l[i] := by
  unfold Pr.run
  rw [List.take_succ_eq_append_getElem h, List.foldl_append]
  rfl
theorem Pr.run_size {α : Type} (f : ByteArray → α → ByteArray) (c : Nat) (hf : ∀ s x, (f s x).size ≤ s.size + c) : ∀ (l : List α) (s : ByteArray), (Pr.run f s l).size ≤ s.size + c * l.length
  | [], s => by simp [Pr.run]
  | x :: l, s => by
    have h1 := Pr.run_size f c hf l (f s x)
    have h2 := hf s x
    show (Pr.run f (f s x) l).size ≤ _
    rw [List.length_cons, Nat.mul_add]
    omega
theorem Pr.take_size {α : Type} (f : ByteArray → α → ByteArray) (c : Nat) (hf : ∀ s x, (f s x).size ≤ s.size + c) (l : List α) (s : ByteArray) (i : Nat) : (Pr.run f s (l.take i)).size ≤ s.size + c * l.length :=
  Nat.le_trans (Pr.run_size f c hf (l.take i) s) (Nat.add_le_add_left (Nat.mul_le_mul_left c (by rw [List.length_take]; exact Nat.min_le_right _ _)) _)
def Pr.rowF (s : ByteArray) (x : Int) : ByteArray := s ++ Pr.dig x
def Pr.row (l : List Int) : ByteArray := Pr.run Pr.rowF (Pr.dig l.length) l
def Pr.codeF (s : ByteArray) (x : DIns) : ByteArray := s ++ Pr.dig x.op ++ Pr.dig x.a
def Pr.code (l : List DIns) : ByteArray := Pr.run Pr.codeF (Pr.dig l.length) l
theorem Pr.rowF_size (s : ByteArray) (x : Int) : (Pr.rowF s x).size ≤ s.size + 22 := by
  unfold Pr.rowF; rw [ByteArray.size_append]; have := Pr.dig_size x; omega
theorem Pr.codeF_size (s : ByteArray) (x : DIns) : (Pr.codeF s x).size ≤ s.size + 44 := by
  unfold Pr.codeF; rw [ByteArray.size_append, ByteArray.size_append]; have := Pr.dig_size x.op; have := Pr.dig_size x.a; omega
theorem Pr.row_size (l : List Int) : (Pr.row l).size ≤ 22 + 22 * l.length := Nat.le_trans (Pr.run_size _ 22 Pr.rowF_size l _) (Nat.add_le_add_right (Pr.dig_size _) _)
theorem Pr.code_size (l : List DIns) : (Pr.code l).size ≤ 22 + 44 * l.length := Nat.le_trans (Pr.run_size _ 44 Pr.codeF_size l _) (Nat.add_le_add_right (Pr.dig_size _) _)
set_option maxHeartbeats 4000000 in
theorem prow_any (oa : Option Addr) (n cap : Nat) (l : List Int) (B : Nat) (w : World) (h : Rows 1 RInt B w (.slice oa n cap) l) (hl : l.length * 8 ≤ 140737488351232) : Calls Try.prog 20 #[.slice oa n cap] w fun e w' => e = .returned (.string (Pr.row l)) ∧ Mod [] w w' := by
  obtain rfl : n = l.length := by obtain ⟨_, _, he, _⟩ := h; simp at he; omega
  have HR := Lib.hid h
  have HL := Lib.hid hl
  have HDL := Lib.hid (fun W => digits_any (l.length : Int) W (by unfold I64; omega))
  have HFIN := Lib.hid (show Pr.run Pr.rowF (Pr.dig l.length) (l.take l.length) = Pr.row l by rw [List.take_length]; rfl)
  have HS := Lib.hid (fun i => Pr.take_size Pr.rowF 22 Pr.rowF_size l (Pr.dig l.length) i)
  have HDS := Lib.hid (Pr.dig_size (l.length : Int))
  have H0 := Lib.hid (show Pr.run Pr.rowF (Pr.dig l.length) (l.take 0) = Pr.dig l.length from rfl)
  have HST := Lib.hid (fun i hi => Pr.run_take Pr.rowF (Pr.dig (l.length : Int)) l i hi)
  generalize Pr.row l = fin at *
  clear h hl
  go_enter Try.func20, Try.ntmps20
  go_wp2_with fail
  refine (HDL.out w).mono ?_
  rintro e w1 ⟨rfl, m1⟩
  have HM := Lib.hid m1
  clear m1
  go_wp2_with fail
  go_loopg [3, 4] l.length (fun gk s3 s4 wr => ∃ i : Nat, s3 = .string (Pr.run Pr.rowF (Pr.dig (l.length : Int)) (l.take i)) ∧ s4 = .int .i64 (i : Int) ∧ Hid (i + gk = l.length) ∧ Hid (Mod [] w wr))
  case atStart => exact ⟨0, by rw [H0.out], rfl, by show 0 + l.length = l.length; omega, HM.out⟩
  case round =>
    obtain ⟨i, rfl, rfl, hi, HI⟩ := hrel
    clear HM
    by_cases hin : i < l.length
    case neg =>
      obtain rfl : i = l.length := by have := hi.out; omega
      have k1 : decide ((l.length : Int) < (l.length : Int)) = false := decide_eq_false (by omega)
      go_wp2_with fail
      go_ret
      exact ⟨by rw [← HFIN.out]; rfl, HI.out⟩
    have k1 : decide ((i : Int) < (l.length : Int)) = true := decide_eq_true (by omega)
    have k2 : (0 : Int) ≤ i := by omega
    have k3 : (i : Int) < (l.length : Int) := by omega
    obtain ⟨a, rfl, -, cs, -, hc0, -, rfl, hx⟩ := (HR.out.mod RInt.stay HI.out).at i hin
    have c0 := hc0 (by decide)
    simp only [List.getElem?_cons_zero, Nat.mul_one] at c0
    have ei : IntKind.i64.wrap ((i : Int) + 1) = (i : Int) + 1 := IntWalk.i64_in _ (by have := HL.out; omega)
    have HNX := Lib.hid (HST.out i hin)
    have z1 : ¬ 9223372036854775807 < (Pr.run Pr.rowF (Pr.dig (l.length : Int)) (l.take i)).size + (Pr.dig l[i]).size := by
      have h1 := HS.out i
      have h2 := HDS.out
      have h3 := Pr.dig_size l[i]
      have h4 := HL.out
      omega
    unfold Pr.rowF at HNX
    change Hid (Pr.run Pr.rowF (Pr.dig (l.length : Int)) (l.take (i + 1)) = Pr.run Pr.rowF (Pr.dig (l.length : Int)) (l.take i) ++ Pr.dig l[i]) at HNX
    generalize Pr.run Pr.rowF (Pr.dig (l.length : Int)) (l.take i) = si at *
    have HX := Lib.hid (fun W => digits_any l[i] W hx)
    generalize Pr.dig l[i] = dx at *
    generalize l[i] = x at *
    clear hc0 hx hin
    go_wp2_with fail
    refine (HX.out wr).mono ?_
    rintro e w2 ⟨rfl, m2⟩
    have HM2 := Lib.hid (HI.out.then m2)
    clear c0 m2
    go_wp2_with fail
    go_roundg (gk - 1)
    case measure => have := hi.out; omega
    case rel => exact ⟨i + 1, by rw [HNX.out], by rw [Int.natCast_add]; rfl, by have := hi.out; show i + 1 + (gk - 1) = l.length; omega, HM2.out⟩
set_option maxHeartbeats 4000000 in
theorem pcode_any (oa : Option Addr) (n cap : Nat) (l : List DIns) (B : Nat) (w : World) (h : Rows 2 RIns B w (.slice oa n cap) l) (hl : l.length * 16 ≤ 140737488351232) : Calls Try.prog 21 #[.slice oa n cap] w fun e w' => e = .returned (.string (Pr.code l)) ∧ Mod [] w w' := by
  obtain rfl : n = l.length := by obtain ⟨_, _, he, _⟩ := h; simp at he; omega
  have HR := Lib.hid h
  have HL := Lib.hid hl
  have HDL := Lib.hid (fun W => digits_any (l.length : Int) W (by unfold I64; omega))
  have HFIN := Lib.hid (show Pr.run Pr.codeF (Pr.dig l.length) (l.take l.length) = Pr.code l by rw [List.take_length]; rfl)
  have HS := Lib.hid (fun i => Pr.take_size Pr.codeF 44 Pr.codeF_size l (Pr.dig l.length) i)
  have HDS := Lib.hid (Pr.dig_size (l.length : Int))
  have H0 := Lib.hid (show Pr.run Pr.codeF (Pr.dig l.length) (l.take 0) = Pr.dig l.length from rfl)
  have HST := Lib.hid (fun i hi => Pr.run_take Pr.codeF (Pr.dig (l.length : Int)) l i hi)
  generalize Pr.code l = fin at *
  clear h hl
  go_enter Try.func21, Try.ntmps21
  go_wp2_with fail
  refine (HDL.out w).mono ?_
  rintro e w1 ⟨rfl, m1⟩
  have HM := Lib.hid m1
  clear m1
  go_wp2_with fail
  go_loopg [3, 4] l.length (fun gk s3 s4 wr => ∃ i : Nat, s3 = .string (Pr.run Pr.codeF (Pr.dig (l.length : Int)) (l.take i)) ∧ s4 = .int .i64 (i : Int) ∧ Hid (i + gk = l.length) ∧ Hid (Mod [] w wr))
  case atStart => exact ⟨0, by rw [H0.out], rfl, by show 0 + l.length = l.length; omega, HM.out⟩
  case round =>
    obtain ⟨i, rfl, rfl, hi, HI⟩ := hrel
    clear HM
    by_cases hin : i < l.length
    case neg =>
      obtain rfl : i = l.length := by have := hi.out; omega
      have k1 : decide ((l.length : Int) < (l.length : Int)) = false := decide_eq_false (by omega)
      go_wp2_with fail
      go_ret
      exact ⟨by rw [← HFIN.out]; rfl, HI.out⟩
    have k1 : decide ((i : Int) < (l.length : Int)) = true := decide_eq_true (by omega)
    have k2 : (0 : Int) ≤ i := by omega
    have k3 : (i : Int) < (l.length : Int) := by omega
    obtain ⟨a, rfl, -, cs, -, hc0, hcj, rfl, hx, hy⟩ := (HR.out.mod RIns.stay HI.out).at i hin
    have c0 := hc0 (by decide)
    have c1 := hcj 1 (by decide) (by decide)
    simp only [List.getElem?_cons_zero, List.getElem?_cons_succ] at c0 c1
    have Y0 : ∀ W, Mod [] wr W → W.cell? (a.add (i * 2)) = some (.int .i64 (l[i]).op) := fun W m => cell_stays m c0
    have Y1 : ∀ W, Mod [] wr W → W.cell? ⟨(a.add (i * 2)).block, (a.add (i * 2)).off + 1, none⟩ = some (.int .i64 (l[i]).a) := fun W m => cell_stays m c1
    have ei : IntKind.i64.wrap ((i : Int) + 1) = (i : Int) + 1 := IntWalk.i64_in _ (by have := HL.out; omega)
    have HNX := Lib.hid (HST.out i hin)
    have z0 := HS.out i
    have h2 := HDS.out
    have h3 := Pr.dig_size (l[i]).op
    have h4 := Pr.dig_size (l[i]).a
    have h5 := HL.out
    have z1 : ¬ 9223372036854775807 < (Pr.run Pr.codeF (Pr.dig (l.length : Int)) (l.take i)).size + (Pr.dig (l[i]).op).size := by omega
    have z2 : ¬ 9223372036854775807 < (Pr.run Pr.codeF (Pr.dig (l.length : Int)) (l.take i)).size + (Pr.dig (l[i]).op).size + (Pr.dig (l[i]).a).size := by omega
    change Hid (Pr.run Pr.codeF (Pr.dig (l.length : Int)) (l.take (i + 1)) = Pr.run Pr.codeF (Pr.dig (l.length : Int)) (l.take i) ++ Pr.dig (l[i]).op ++ Pr.dig (l[i]).a) at HNX
    clear z0 h2 h3 h4 h5 c0 c1 hc0 hcj
    generalize Pr.run Pr.codeF (Pr.dig (l.length : Int)) (l.take i) = si at *
    have HX := Lib.hid (fun W => digits_any (l[i]).op W hx)
    have HY := Lib.hid (fun W => digits_any (l[i]).a W hy)
    generalize Pr.dig (l[i]).op = dx at *
    generalize Pr.dig (l[i]).a = dy at *
    generalize (l[i]).op = x at *
    generalize (l[i]).a = y at *
    clear hx hy hin
    go_upto_region 5 with fail
    refine wp_region_mask 15 [true, true, true, true, true, true, true, true, true, true, true, true, true, true, true] [] (by kernel_rfl) (by kernel_rfl) (by simp) ?_
    simp only [pickM]
    iterate 6
     refine steady_go (a' := ?_) (by kernel_rfl) ?_ (fun w' hw' K Q hK => ?_) ?_
     rotate_left 2
     · go_wp2_with fail; exact hK _ (Mod.refl _ _)
     rotate_left
     · rfl
    refine steady_go (a' := ?_) (by kernel_rfl) ?_ (fun w' hw' K Q hK => ?_) ?_
    rotate_left 2
    · go_wp2_with fail
      refine ((calls_mod HX.out) _ hw').mono ?_
      rintro e w'' ⟨rfl, m''⟩
      go_wp2_with fail
      exact hK _ m''
    rotate_left
    · rfl
    iterate 6
     refine steady_go (a' := ?_) (by kernel_rfl) ?_ (fun w' hw' K Q hK => ?_) ?_
     rotate_left 2
     · go_wp2_with fail; exact hK _ (Mod.refl _ _)
     rotate_left
     · rfl
    refine steady_go (a' := ?_) (by kernel_rfl) ?_ (fun w' hw' K Q hK => ?_) ?_
    rotate_left 2
    · go_wp2_with fail
      refine ((calls_mod HY.out) _ hw').mono ?_
      rintro e w'' ⟨rfl, m''⟩
      go_wp2_with fail
      exact hK _ m''
    rotate_left
    · rfl
    refine steady_go (a' := ?_) (by kernel_rfl) ?_ (fun w' hw' K Q hK => ?_) ?_
    rotate_left 2
    · go_wp2_with fail; exact hK _ (Mod.refl _ _)
    rotate_left
    · rfl
    refine steady_done ?_
    refine lates_end (fun w' hw' _ => ?_)
    simp only [List.drop_succ_cons, List.drop_zero]
    have HM2 := Lib.hid (HI.out.then hw')
    clear Y0 Y1 hw' HX HY
    go_wp2_with fail
    go_roundg (gk - 1)
    case measure => have := hi.out; omega
    case rel => exact ⟨i + 1, by rw [HNX.out], by rw [Int.natCast_add]; rfl, by have := hi.out; show i + 1 + (gk - 1) = l.length; omega, HM2.out⟩
end Go.Proofs.Ytaloembfekdkoaa
