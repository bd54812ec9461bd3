/- Text and Int of a reader. -/
import Derived.Test.YtoidfnknckfjhaaGreatDoorOctRd2
namespace Go.Proofs.YtoidfnknckfjhaaGreatDoor
open Go.RowKit

namespace Oct
/-- What Text tells, and where the reader is behind it. -/
def textR (s : ByteArray) (p : Nat) (f : Bool) : ByteArray × Nat × Bool :=
  if f = false ∧ p + 2 ≤ s.size ∧ p + 2 + be (s.extract p (p + 2)).data.toList ≤ s.size then
    (s.extract (p + 2) (p + 2 + be (s.extract p (p + 2)).data.toList), p + 2 + be (s.extract p (p + 2)).data.toList, false)
  else (⟨#[]⟩, p, true)
theorem num_be (s : ByteArray) (h : s.size ≤ 7) : num s = be s.data.toList := by
  unfold num
  have h1 := be_lt s.data.toList
  have h2 : s.data.toList.length = s.size := by simp [ByteArray.size_data]
  rw [h2] at h1
  have h3 : 256 ^ s.size ≤ 256 ^ 7 := Nat.pow_le_pow_right (by omega) h
  have h4 : (256 : Nat) ^ 7 = 72057594037927936 := by decide
  rw [h4] at h3
  generalize 256 ^ s.size = q at *
  unfold wrap64
  omega
theorem be_two (s : ByteArray) (h : s.size ≤ 2) : be s.data.toList < 65536 := by
  have h1 := be_lt s.data.toList
  have h2 : s.data.toList.length = s.size := by simp [ByteArray.size_data]
  rw [h2] at h1
  have h3 : 256 ^ s.size ≤ 256 ^ 2 := Nat.pow_le_pow_right (by omega) h
  omega
end Oct

theorem box1 {w w1 : World} {o1 : Value} {t1 : TypeId} {l : List Nat} (hl : ∀ x ∈ l, x < w.heap.size) (m : Mod l (w.alloc (.cells #[o1] t1)) w1) :
    w1.cell? ⟨w.heap.size, 0, none⟩ = some o1 ∧ w1.frozen? ⟨w.heap.size, 0, none⟩ = false ∧ w.heap.size < w1.heap.size := by
  have h2 : w.heap.size + 1 ≤ w1.heap.size := by have := m.size; simpa using this
  refine ⟨?_, ?_, by omega⟩
  · rw [m.cell (p := ⟨w.heap.size, 0, none⟩) (by simp) (fun h => by have := hl _ h; simp at this)]; simp
  · rw [m.frozen (p := ⟨w.heap.size, 0, none⟩) (by simp) (fun h => by have := hl _ h; simp at this)]; simp

set_option maxHeartbeats 400000 in
theorem Text_nil (w : World) :
    Calls Tryz.prog 108 #[.pointer none] w fun e w' => e = .returned (.string ⟨#[]⟩) ∧ Mod [] w w' := by
  go_enter Tryz.func108, Tryz.ntmps108
  go_wp2_with (first | (go_at_call 34; refine (failed_nil _).mono ?_; rintro e w' ⟨rfl, rfl⟩) | go_in)
  refine bodyPost_ret (results_none rfl _ _ _) rfl ?_
  go_wp2_with fail
  go_ret
  exact ⟨rfl, (Mod.refl _ _).alloc _⟩

set_option maxHeartbeats 400000 in
theorem Text_failed (b : Nat) (s : ByteArray) (p : Nat) (w : World) (h : Rd w b s p true) :
    Calls Tryz.prog 108 #[.pointer (some ⟨b, 0, none⟩)] w fun e w' => e = .returned (.string ⟨#[]⟩) ∧ Rd w' b s p true ∧ Mod [b] w w' := by
  go_enter Tryz.func108, Tryz.ntmps108
  go_wp2_with (first | (go_at_call 34; refine (failed_any b s p true _ (h.alloc _)).mono ?_; rintro e w' ⟨rfl, rfl⟩) | go_in)
  refine bodyPost_ret (results_none rfl _ _ _) rfl ?_
  go_wp2_with fail
  go_ret
  exact ⟨rfl, h.alloc _, (Mod.refl _ _).alloc _⟩

set_option maxHeartbeats 1000000 in
theorem Text_short (b : Nat) (s : ByteArray) (p : Nat) (w : World) (h : Rd w b s p false) (hn : s.size < p + 2) :
    Calls Tryz.prog 108 #[.pointer (some ⟨b, 0, none⟩)] w fun e w' => e = .returned (.string ⟨#[]⟩) ∧ Rd w' b s p true ∧ Mod [b] w w' := by
  have H1 := Lib.hid (h.alloc (.cells #[.string ⟨#[]⟩] 9))
  have M0 := Lib.hid ((Mod.refl [b] w).alloc (.cells #[.string ⟨#[]⟩] 9))
  obtain ⟨c0, c1, c2, z1, z2, lt, le, big⟩ := H1.out
  have hlt := h.lt
  go_enter Tryz.func108, Tryz.ntmps108
  go_wp2_with fail
  go_enter Tryz.func75, Tryz.ntmps75
  go_wp2_with fail
  refine (failed_any b s p false _ H1.out).mono ?_
  rintro e w' ⟨rfl, rfl⟩
  go_wp2_with fail
  go_enter Tryz.func229, Tryz.ntmps229
  go_wp2_with fail
  refine (take_no b s p false 2 _ H1.out (by omega)).mono ?_
  rintro e w1 ⟨rfl, hR, hM⟩
  obtain ⟨k2, k3, k4⟩ := box1 (by simp) hM
  clear c0 c1 c2 z1 z2 lt
  have M1 := Lib.hid (M0.out.trans hM (by simp))
  have HR := Lib.hid hR
  obtain ⟨c0, c1, c2, z1, z2, lt, -, -⟩ := hR
  clear hM
  go_wp2_with fail
  go_end0
  go_wp2_with fail
  go_ret
  exact ⟨rfl, (HR.out.at p le).fail true, (M1.out.setCell (by simp) _).setCell (by simp) _⟩

set_option maxHeartbeats 1000000 in
theorem Text_cut (b : Nat) (s : ByteArray) (p : Nat) (w : World) (h : Rd w b s p false) (h2 : p + 2 ≤ s.size) (hn : s.size < p + 2 + Oct.be (s.extract p (p + 2)).data.toList) :
    Calls Tryz.prog 108 #[.pointer (some ⟨b, 0, none⟩)] w fun e w' => e = .returned (.string ⟨#[]⟩) ∧ Rd w' b s p true ∧ Mod [b] w w' := by
  have H1 := Lib.hid (h.alloc (.cells #[.string ⟨#[]⟩] 9))
  have M0 := Lib.hid ((Mod.refl [b] w).alloc (.cells #[.string ⟨#[]⟩] 9))
  obtain ⟨c0, c1, c2, z1, z2, lt, le, big⟩ := H1.out
  have hlt := h.lt
  have hxs : (s.extract p (p + 2)).size ≤ 7 := by rw [ByteArray.size_extract]; omega
  have EN := Lib.hid (Oct.num_be _ hxs)
  have hm := Oct.be_two _ (show (s.extract p (p + 2)).size ≤ 2 by rw [ByteArray.size_extract]; omega)
  go_enter Tryz.func108, Tryz.ntmps108
  go_wp2_with fail
  go_enter Tryz.func75, Tryz.ntmps75
  go_wp2_with fail
  refine (failed_any b s p false _ H1.out).mono ?_
  rintro e w' ⟨rfl, rfl⟩
  go_wp2_with fail
  go_enter Tryz.func229, Tryz.ntmps229
  go_wp2_with fail
  refine (take_yes b s p false 2 _ H1.out h2).mono ?_
  rintro e w1 ⟨rfl, hR, hM⟩
  obtain ⟨k2, k3, k4⟩ := box1 (by simp; exact hlt) hM
  clear c0 c1 c2 z1 z2 lt
  have M1 := Lib.hid (M0.out.then hM)
  have HR := Lib.hid hR
  clear hM hR
  generalize s.extract p (p + 2) = x at *
  go_wp2_with fail
  refine (number_any _ _ (by unfold maxLen; omega)).mono ?_
  rintro e w2 ⟨rfl, rfl⟩
  rw [EN.out]
  generalize Oct.be x.data.toList = m at *
  go_wp2_with fail
  refine (take_no b s (p + 2) false m _ HR.out (by omega)).mono ?_
  rintro e w2 ⟨rfl, hR2, hM2⟩
  have q2 := (hM2.cell (p := ⟨w.heap.size, 0, none⟩) k4 (by simp)).trans k2
  have q3 := (hM2.frozen (p := ⟨w.heap.size, 0, none⟩) k4 (by simp)).trans k3
  clear k2 k3
  have M2 := Lib.hid (M1.out.trans hM2 (by simp))
  have HR2 := Lib.hid hR2
  obtain ⟨c0, c1, c2, z1, z2, lt, -, -⟩ := hR2
  clear hM2
  go_wp2_with fail
  go_end0
  go_wp2_with fail
  go_ret
  exact ⟨rfl, (((HR2.out.other _ (by simp; omega)).at p le).fail true), ((M2.out.setNew (by simp) _).setCell (by simp) _).setCell (by simp) _⟩

set_option maxHeartbeats 1000000 in
theorem Text_ok (b : Nat) (s : ByteArray) (p : Nat) (w : World) (h : Rd w b s p false) (h2 : p + 2 ≤ s.size) (hn : p + 2 + Oct.be (s.extract p (p + 2)).data.toList ≤ s.size) :
    Calls Tryz.prog 108 #[.pointer (some ⟨b, 0, none⟩)] w fun e w' => e = .returned (.string (s.extract (p + 2) (p + 2 + Oct.be (s.extract p (p + 2)).data.toList))) ∧ Rd w' b s (p + 2 + Oct.be (s.extract p (p + 2)).data.toList) false ∧ Mod [b] w w' := by
  have H1 := Lib.hid (h.alloc (.cells #[.string ⟨#[]⟩] 9))
  have M0 := Lib.hid ((Mod.refl [b] w).alloc (.cells #[.string ⟨#[]⟩] 9))
  obtain ⟨c0, c1, c2, z1, z2, lt, le, big⟩ := H1.out
  have hlt := h.lt
  have hxs : (s.extract p (p + 2)).size ≤ 7 := by rw [ByteArray.size_extract]; omega
  have EN := Lib.hid (Oct.num_be _ hxs)
  have hm := Oct.be_two _ (show (s.extract p (p + 2)).size ≤ 2 by rw [ByteArray.size_extract]; omega)
  go_enter Tryz.func108, Tryz.ntmps108
  go_wp2_with fail
  go_enter Tryz.func75, Tryz.ntmps75
  go_wp2_with fail
  refine (failed_any b s p false _ H1.out).mono ?_
  rintro e w' ⟨rfl, rfl⟩
  go_wp2_with fail
  go_enter Tryz.func229, Tryz.ntmps229
  go_wp2_with fail
  refine (take_yes b s p false 2 _ H1.out h2).mono ?_
  rintro e w1 ⟨rfl, hR, hM⟩
  obtain ⟨k2, k3, k4⟩ := box1 (by simp; exact hlt) hM
  clear c0 c1 c2 z1 z2 lt
  have M1 := Lib.hid (M0.out.then hM)
  have HR := Lib.hid hR
  clear hM hR
  generalize ex : s.extract p (p + 2) = x at *
  have EX := Lib.hid ex
  clear ex
  go_wp2_with fail
  refine (number_any _ _ (by unfold maxLen; omega)).mono ?_
  rintro e w2 ⟨rfl, rfl⟩
  rw [EN.out]
  generalize em : Oct.be x.data.toList = m at *
  have EM := Lib.hid em
  clear em
  go_wp2_with fail
  refine (take_yes b s (p + 2) false m _ HR.out hn).mono ?_
  rintro e w2 ⟨rfl, hR2, hM2⟩
  have q2 := (hM2.cell (p := ⟨w.heap.size, 0, none⟩) k4 (by simp; omega)).trans k2
  have q3 := (hM2.frozen (p := ⟨w.heap.size, 0, none⟩) k4 (by simp; omega)).trans k3
  have M2 := Lib.hid (M1.out.then hM2)
  have HR2 := Lib.hid hR2
  clear hM2 k2 k3 hR2
  generalize ey : s.extract (p + 2) (p + 2 + m) = y at *
  have EY := Lib.hid ey
  clear ey
  go_wp2_with fail
  go_end0
  go_wp2_with fail
  go_ret
  rw [EX.out, EM.out, EY.out]
  exact ⟨rfl, HR2.out.other _ (by simp; omega), M2.out.setNew (by simp) _⟩

theorem Text_all (b : Nat) (s : ByteArray) (p : Nat) (f : Bool) (w : World) (h : Rd w b s p f) :
    Calls Tryz.prog 108 #[.pointer (some ⟨b, 0, none⟩)] w fun e w' => e = .returned (.string (Oct.textR s p f).1) ∧ Rd w' b s (Oct.textR s p f).2.1 (Oct.textR s p f).2.2 ∧ Mod [b] w w' := by
  unfold Oct.textR
  by_cases hc : f = false ∧ p + 2 ≤ s.size ∧ p + 2 + Oct.be (s.extract p (p + 2)).data.toList ≤ s.size
  · rw [if_pos hc]
    obtain ⟨rfl, h0, hs⟩ := hc
    exact Text_ok b s p w h h0 hs
  · rw [if_neg hc]
    cases f with
    | true => exact Text_failed b s p w h
    | false =>
      by_cases h2 : p + 2 ≤ s.size
      · exact Text_cut b s p w h h2 (by simp only [true_and, not_and, Nat.not_le] at hc; exact hc h2)
      · exact Text_short b s p w h (by omega)

/-! Int -/
namespace Oct
/-- A number of n bytes, with its sign. -/
def sgn (v n : Int) : Int := if 1 ≤ n ∧ n < 8 ∧ v / 2 ^ (8 * n.toNat - 1) = 1 then wrap64 (v - wrap64 (2 ^ (8 * n.toNat))) else v
end Oct

set_option maxHeartbeats 1000000 in
theorem int_all (b : Nat) (s : ByteArray) (p : Nat) (f : Bool) (n : Int) (w : World) (h : Rd w b s p f) :
    Calls Tryz.prog 236 #[.pointer (some ⟨b, 0, none⟩), .int .i64 n] w fun e w' => e = .returned (.int .i64 (Oct.sgn (Oct.numR s p f n).1 n)) ∧ Rd w' b s (Oct.numR s p f n).2.1 (Oct.numR s p f n).2.2 ∧ Mod [b] w w' := by
  go_enter Tryz.func236, Tryz.ntmps236
  go_wp2_with fail
  refine (num_all b s p f n _ h).mono ?_
  rintro e w1 ⟨rfl, hR, hM⟩
  generalize ev : (Oct.numR s p f n).1 = v at *
  have EV := Lib.hid ev
  clear ev
  by_cases h1 : 1 ≤ n
  · by_cases h8 : n < 8
    · have d1 : decide (n < 1) = false := by simp; omega
      have d2 : decide (8 ≤ n) = false := by simp; omega
      obtain ⟨k, rfl⟩ := Int.eq_ofNat_of_zero_le (show 0 ≤ n by omega)
      by_cases hv : v / 2 ^ (8 * k - 1) = 1
      · have hv' : (v / 2 ^ (8 * k - 1) == 1) = true := by simpa using hv
        have HS := Lib.hid (show Oct.sgn v k = wrap64 (v - wrap64 (2 ^ (8 * k))) by unfold Oct.sgn; rw [Int.toNat_natCast, if_pos ⟨h1, h8, hv⟩])
        clear hv
        go_wp2_with fail
        go_ret
        exact ⟨ret_int (by rw [EV.out, HS.out]), hR, hM⟩
      · have hv' : (v / 2 ^ (8 * k - 1) == 1) = false := by simpa using hv
        have HS := Lib.hid (show Oct.sgn v k = v by unfold Oct.sgn; rw [Int.toNat_natCast, if_neg (fun h => hv h.2.2)])
        clear hv
        go_wp2_with fail
        go_ret
        exact ⟨ret_int (by rw [EV.out, HS.out]), hR, hM⟩
    · have d1 : decide (n < 1) = false := by simp; omega
      have d2 : decide (8 ≤ n) = true := by simp; omega
      have HS := Lib.hid (show Oct.sgn v n = v by unfold Oct.sgn; rw [if_neg (fun h => h8 h.2.1)])
      go_wp2_with fail
      go_ret
      exact ⟨ret_int (by rw [EV.out, HS.out]), hR, hM⟩
  · have d1 : decide (n < 1) = true := by simp; omega
    have HS := Lib.hid (show Oct.sgn v n = v by unfold Oct.sgn; rw [if_neg (fun h => h1 h.1)])
    go_wp2_with fail
    go_ret
    exact ⟨ret_int (by rw [EV.out, HS.out]), hR, hM⟩

set_option maxHeartbeats 400000 in
theorem int_nil (n : Int) (w : World) :
    Calls Tryz.prog 236 #[.pointer none, .int .i64 n] w fun e w' => e = .returned (.int .i64 0) ∧ Mod [] w w' := by
  by_cases h1 : 1 ≤ n
  · by_cases h8 : n < 8
    · have d1 : decide (n < 1) = false := by simp; omega
      have d2 : decide (8 ≤ n) = false := by simp; omega
      obtain ⟨k, rfl⟩ := Int.eq_ofNat_of_zero_le (show 0 ≤ n by omega)
      have hz : ((0 : Int) / 2 ^ (8 * k - 1) == 1) = false := by simp
      go_enter Tryz.func236, Tryz.ntmps236
      go_wp2_with fail
      refine (num_nil _ _).mono ?_
      rintro e w1 ⟨rfl, hM⟩
      go_wp2_with fail
      go_ret
      exact ⟨rfl, hM⟩
    · have d1 : decide (n < 1) = false := by simp; omega
      have d2 : decide (8 ≤ n) = true := by simp; omega
      go_enter Tryz.func236, Tryz.ntmps236
      go_wp2_with fail
      refine (num_nil _ _).mono ?_
      rintro e w1 ⟨rfl, hM⟩
      go_wp2_with fail
      go_ret
      exact ⟨rfl, hM⟩
  · have d1 : decide (n < 1) = true := by simp; omega
    go_enter Tryz.func236, Tryz.ntmps236
    go_wp2_with fail
    refine (num_nil _ _).mono ?_
    rintro e w1 ⟨rfl, hM⟩
    go_wp2_with fail
    go_ret
    exact ⟨rfl, hM⟩
end Go.Proofs.YtoidfnknckfjhaaGreatDoor
