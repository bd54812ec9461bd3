/- Num, Int, Take, Text of a reader. -/
import Derived.Test.YtoidfnknckfjhaaGreatDoorOctRd
namespace Go.Proofs.YtoidfnknckfjhaaGreatDoor
open Go.RowKit

theorem Rd.alloc {w : World} {b : Nat} {s : ByteArray} {p : Nat} {f : Bool} (h : Rd w b s p f) (o : Obj) : Rd (w.alloc o) b s p f := h.kept ((Mod.refl [] _).alloc _) (by simp)

set_option maxHeartbeats 400000 in
theorem num_failed (b : Nat) (s : ByteArray) (p : Nat) (n : Int) (w : World) (h : Rd w b s p true) :
    Calls Tryz.prog 14 #[.pointer (some ⟨b, 0, none⟩), .int .i64 n] w fun e w' => e = .returned (.int .i64 0) ∧ Rd w' b s p true ∧ Mod [b] w w' := by
  go_enter Tryz.func14, Tryz.ntmps14
  go_wp2_with (first | (go_at_call 34; refine (failed_any b s p true _ ((h.alloc _).alloc _)).mono ?_; rintro e w' ⟨rfl, rfl⟩) | go_in)
  refine bodyPost_ret (results_none rfl _ _ _) rfl ?_
  go_wp2_with fail
  go_ret
  exact ⟨rfl, (h.alloc _).alloc _, ((Mod.refl _ _).alloc _).alloc _⟩

set_option maxHeartbeats 400000 in
theorem num_large (b : Nat) (s : ByteArray) (p : Nat) (n : Int) (w : World) (h : Rd w b s p false) (hn : 8 < n) :
    Calls Tryz.prog 14 #[.pointer (some ⟨b, 0, none⟩), .int .i64 n] w fun e w' => e = .returned (.int .i64 0) ∧ Rd w' b s p true ∧ Mod [b] w w' := by
  have H1 := Lib.hid ((h.alloc (.cells #[.int .i64 n] 3)).alloc (.cells #[.int .i64 0] 2))
  have H2 := Lib.hid ((H1.out.at p h.le).fail true)
  obtain ⟨c0, c1, c2, z1, z2, lt, le, big⟩ := H1.out
  go_enter Tryz.func14, Tryz.ntmps14
  go_wp2_with (first | (go_at_call 34; refine (failed_any b s p false _ H1.out).mono ?_; rintro e w' ⟨rfl, rfl⟩) | go_in)
  go_end0
  go_wp2_with fail
  go_ret
  exact ⟨rfl, H2.out, ((((Mod.refl _ _).alloc _).alloc _).setCell (by simp) _).setCell (by simp) _⟩

theorem Rd.other {w : World} {b : Nat} {s : ByteArray} {p : Nat} {f : Bool} (h : Rd w b s p f) {a : Addr} (v : Value) (ha : a.block ≠ b) : Rd (w.setCell a v) b s p f :=
  h.kept ((Mod.refl [a.block] w).setCell (by simp) v) (by simp; omega)

/-- The two boxes of a call that have been made ahead of the reader's step stay. -/
theorem boxes {w w1 : World} {o1 : Value} {o2 : Value} {t1 t2 : TypeId} {l : List Nat} (hl : ∀ x ∈ l, x < w.heap.size) (m : Mod l ((w.alloc (.cells #[o1] t1)).alloc (.cells #[o2] t2)) w1) :
    w1.cell? ⟨w.heap.size, 0, none⟩ = some o1 ∧ w1.cell? ⟨w.heap.size + 1, 0, none⟩ = some o2 ∧ w1.frozen? ⟨w.heap.size + 1, 0, none⟩ = false ∧ w.heap.size + 1 < w1.heap.size := by
  have h2 : w.heap.size + 2 ≤ w1.heap.size := by have := m.size; simpa using this
  refine ⟨?_, ?_, ?_, by omega⟩
  · rw [m.cell (p := ⟨w.heap.size, 0, none⟩) (by simp; omega) (fun h => by have := hl _ h; simp at this)]; simp
  · rw [m.cell (p := ⟨w.heap.size + 1, 0, none⟩) (by simp) (fun h => by have := hl _ h; simp at this; omega)]; simp
  · rw [m.frozen (p := ⟨w.heap.size + 1, 0, none⟩) (by simp) (fun h => by have := hl _ h; simp at this; omega)]; simp

set_option maxHeartbeats 1000000 in
theorem num_short (b : Nat) (s : ByteArray) (p : Nat) (n : Int) (w : World) (h : Rd w b s p false) (h8 : n ≤ 8) (hn : n < 0 ∨ (s.size : Int) - p < n) :
    Calls Tryz.prog 14 #[.pointer (some ⟨b, 0, none⟩), .int .i64 n] w fun e w' => e = .returned (.int .i64 0) ∧ Rd w' b s p true ∧ Mod [b] w w' := by
  have H1 := Lib.hid ((h.alloc (.cells #[.int .i64 n] 3)).alloc (.cells #[.int .i64 0] 2))
  have HN := Lib.hid hn
  have M0 := Lib.hid (((Mod.refl [b] w).alloc (.cells #[.int .i64 n] 3)).alloc (.cells #[.int .i64 0] 2))
  obtain ⟨c0, c1, c2, z1, z2, lt, le, big⟩ := H1.out
  have hlt := h.lt
  clear hn
  go_enter Tryz.func14, Tryz.ntmps14
  go_wp2_with fail
  go_enter Tryz.func75, Tryz.ntmps75
  go_wp2_with fail
  refine (failed_any b s p false _ H1.out).mono ?_
  rintro e w' ⟨rfl, rfl⟩
  go_wp2_with fail
  go_enter Tryz.func77, Tryz.ntmps77
  go_wp2_with fail
  refine (take_no b s p false n _ H1.out HN.out).mono ?_
  rintro e w1 ⟨rfl, hR, hM⟩
  obtain ⟨k1, k2, k3, k4⟩ := boxes (by simp) hM
  clear c0 c1 c2 z1 z2 lt
  have M1 := Lib.hid (M0.out.trans hM (by simp))
  have HR := Lib.hid hR
  obtain ⟨c0, c1, c2, z1, z2, lt, -, -⟩ := hR
  clear hM
  go_wp2_with fail
  refine (number_any _ _ (by decide)).mono ?_
  rintro e w2 ⟨rfl, rfl⟩
  have e0 : Oct.num ⟨#[]⟩ = 0 := by decide +kernel
  go_wp2_with fail
  go_end0
  go_wp2_with fail
  go_ret
  exact ⟨rfl, (((HR.out.other _ (by simp; omega)).at p le).fail true), ((M1.out.setNew (by simp) _).setCell (by simp) _).setCell (by simp) _⟩

set_option maxHeartbeats 1000000 in
theorem num_ok (b : Nat) (s : ByteArray) (p n : Nat) (w : World) (h : Rd w b s p false) (h8 : n ≤ 8) (hn : p + n ≤ s.size) :
    Calls Tryz.prog 14 #[.pointer (some ⟨b, 0, none⟩), .int .i64 n] w fun e w' => e = .returned (.int .i64 (Oct.num (s.extract p (p + n)))) ∧ Rd w' b s (p + n) false ∧ Mod [b] w w' := by
  have H1 := Lib.hid ((h.alloc (.cells #[.int .i64 n] 3)).alloc (.cells #[.int .i64 0] 2))
  have M0 := Lib.hid (((Mod.refl [b] w).alloc (.cells #[.int .i64 n] 3)).alloc (.cells #[.int .i64 0] 2))
  obtain ⟨c0, c1, c2, z1, z2, lt, le, big⟩ := H1.out
  have hlt := h.lt
  have hx : (s.extract p (p + n)).size ≤ maxLen := by rw [ByteArray.size_extract]; unfold maxLen; omega
  go_enter Tryz.func14, Tryz.ntmps14
  go_wp2_with fail
  go_enter Tryz.func75, Tryz.ntmps75
  go_wp2_with fail
  refine (failed_any b s p false _ H1.out).mono ?_
  rintro e w' ⟨rfl, rfl⟩
  go_wp2_with fail
  go_enter Tryz.func77, Tryz.ntmps77
  go_wp2_with fail
  refine (take_yes b s p false n _ H1.out hn).mono ?_
  rintro e w1 ⟨rfl, hR, hM⟩
  obtain ⟨k1, k2, k3, k4⟩ := boxes (by simp; exact hlt) hM
  clear c0 c1 c2 z1 z2 lt
  have M1 := Lib.hid (M0.out.then hM)
  have HR := Lib.hid hR
  clear hM hR
  generalize ex : s.extract p (p + n) = x at *
  have EX := Lib.hid ex
  clear ex
  go_wp2_with fail
  refine (number_any _ _ hx).mono ?_
  rintro e w2 ⟨rfl, rfl⟩
  generalize em : Oct.num x = m at *
  have EM := Lib.hid em
  clear em
  go_wp2_with fail
  go_end0
  go_wp2_with fail
  go_ret
  exact ⟨ret_int (by rw [EX.out, EM.out]), HR.out.other _ (by simp; omega), M1.out.setNew (by simp) _⟩

namespace Oct
/-- What Num tells, and where the reader is behind it. -/
def numR (s : ByteArray) (p : Nat) (f : Bool) (n : Int) : Int × Nat × Bool :=
  if f = false ∧ 0 ≤ n ∧ n ≤ 8 ∧ (p : Int) + n ≤ s.size then (num (s.extract p (p + n.toNat)), p + n.toNat, false) else (0, p, true)
/-- What Take tells. -/
def takeR (s : ByteArray) (p : Nat) (f : Bool) (n : Int) : ByteArray × Nat × Bool :=
  if f = false ∧ 0 ≤ n ∧ (p : Int) + n ≤ s.size then (s.extract p (p + n.toNat), p + n.toNat, false) else (⟨#[]⟩, p, true)
end Oct

theorem num_all (b : Nat) (s : ByteArray) (p : Nat) (f : Bool) (n : Int) (w : World) (h : Rd w b s p f) :
    Calls Tryz.prog 14 #[.pointer (some ⟨b, 0, none⟩), .int .i64 n] w fun e w' => e = .returned (.int .i64 (Oct.numR s p f n).1) ∧ Rd w' b s (Oct.numR s p f n).2.1 (Oct.numR s p f n).2.2 ∧ Mod [b] w w' := by
  have hle := h.le
  unfold Oct.numR
  by_cases hc : f = false ∧ 0 ≤ n ∧ n ≤ 8 ∧ (p : Int) + n ≤ s.size
  · rw [if_pos hc]
    obtain ⟨rfl, h0, h8, hs⟩ := hc
    obtain ⟨k, rfl⟩ := Int.eq_ofNat_of_zero_le h0
    exact num_ok b s p k w h (by omega) (by omega)
  · rw [if_neg hc]
    cases f with
    | true => exact num_failed b s p n w h
    | false =>
      by_cases h8 : n ≤ 8
      · exact num_short b s p n w h h8 (by simp at hc; omega)
      · exact num_large b s p n w h (by omega)

set_option maxHeartbeats 400000 in
theorem num_nil (n : Int) (w : World) :
    Calls Tryz.prog 14 #[.pointer none, .int .i64 n] w fun e w' => e = .returned (.int .i64 0) ∧ Mod [] w w' := by
  go_enter Tryz.func14, Tryz.ntmps14
  go_wp2_with (first | (go_at_call 34; refine (failed_nil _).mono ?_; rintro e w' ⟨rfl, rfl⟩) | go_in)
  refine bodyPost_ret (results_none rfl _ _ _) rfl ?_
  go_wp2_with fail
  go_ret
  exact ⟨rfl, ((Mod.refl _ _).alloc _).alloc _⟩

/-! Take -/
set_option maxHeartbeats 400000 in
theorem Take_nil (n : Int) (w : World) :
    Calls Tryz.prog 13 #[.pointer none, .int .i64 n] w fun e w' => e = .returned (.string ⟨#[]⟩) ∧ Mod [] w w' := by
  go_enter Tryz.func13, Tryz.ntmps13
  go_wp2_with (first | (go_at_call 34; refine (failed_nil _).mono ?_; rintro e w' ⟨rfl, rfl⟩) | go_in)
  refine bodyPost_ret (results_none rfl _ _ _) rfl ?_
  go_wp2_with fail
  go_ret
  exact ⟨rfl, ((Mod.refl _ _).alloc _).alloc _⟩

set_option maxHeartbeats 400000 in
theorem Take_failed (b : Nat) (s : ByteArray) (p : Nat) (n : Int) (w : World) (h : Rd w b s p true) :
    Calls Tryz.prog 13 #[.pointer (some ⟨b, 0, none⟩), .int .i64 n] w fun e w' => e = .returned (.string ⟨#[]⟩) ∧ Rd w' b s p true ∧ Mod [b] w w' := by
  go_enter Tryz.func13, Tryz.ntmps13
  go_wp2_with (first | (go_at_call 34; refine (failed_any b s p true _ ((h.alloc _).alloc _)).mono ?_; rintro e w' ⟨rfl, rfl⟩) | go_in)
  refine bodyPost_ret (results_none rfl _ _ _) rfl ?_
  go_wp2_with fail
  go_ret
  exact ⟨rfl, (h.alloc _).alloc _, ((Mod.refl _ _).alloc _).alloc _⟩

set_option maxHeartbeats 1000000 in
theorem Take_short (b : Nat) (s : ByteArray) (p : Nat) (n : Int) (w : World) (h : Rd w b s p false) (hn : n < 0 ∨ (s.size : Int) - p < n) :
    Calls Tryz.prog 13 #[.pointer (some ⟨b, 0, none⟩), .int .i64 n] w fun e w' => e = .returned (.string ⟨#[]⟩) ∧ Rd w' b s p true ∧ Mod [b] w w' := by
  have H1 := Lib.hid ((h.alloc (.cells #[.int .i64 n] 3)).alloc (.cells #[.string ⟨#[]⟩] 9))
  have HN := Lib.hid hn
  have M0 := Lib.hid (((Mod.refl [b] w).alloc (.cells #[.int .i64 n] 3)).alloc (.cells #[.string ⟨#[]⟩] 9))
  obtain ⟨c0, c1, c2, z1, z2, lt, le, big⟩ := H1.out
  have hlt := h.lt
  clear hn
  go_enter Tryz.func13, Tryz.ntmps13
  go_wp2_with fail
  go_enter Tryz.func75, Tryz.ntmps75
  go_wp2_with fail
  refine (failed_any b s p false _ H1.out).mono ?_
  rintro e w' ⟨rfl, rfl⟩
  go_wp2_with fail
  go_enter Tryz.func76, Tryz.ntmps76
  go_wp2_with fail
  refine (take_no b s p false n _ H1.out HN.out).mono ?_
  rintro e w1 ⟨rfl, hR, hM⟩
  obtain ⟨k1, k2, k3, k4⟩ := boxes (by simp) hM
  clear c0 c1 c2 z1 z2 lt
  have M1 := Lib.hid (M0.out.trans hM (by simp))
  have HR := Lib.hid hR
  obtain ⟨c0, c1, c2, z1, z2, lt, -, -⟩ := hR
  clear hM
  go_wp2_with fail
  go_end0
  go_wp2_with fail
  go_ret
  exact ⟨rfl, (((HR.out.other _ (by simp; omega)).at p le).fail true), ((M1.out.setNew (by simp) _).setCell (by simp) _).setCell (by simp) _⟩

set_option maxHeartbeats 1000000 in
theorem Take_ok (b : Nat) (s : ByteArray) (p n : Nat) (w : World) (h : Rd w b s p false) (hn : p + n ≤ s.size) :
    Calls Tryz.prog 13 #[.pointer (some ⟨b, 0, none⟩), .int .i64 n] w fun e w' => e = .returned (.string (s.extract p (p + n))) ∧ Rd w' b s (p + n) false ∧ Mod [b] w w' := by
  have H1 := Lib.hid ((h.alloc (.cells #[.int .i64 n] 3)).alloc (.cells #[.string ⟨#[]⟩] 9))
  have M0 := Lib.hid (((Mod.refl [b] w).alloc (.cells #[.int .i64 n] 3)).alloc (.cells #[.string ⟨#[]⟩] 9))
  obtain ⟨c0, c1, c2, z1, z2, lt, le, big⟩ := H1.out
  have hlt := h.lt
  go_enter Tryz.func13, Tryz.ntmps13
  go_wp2_with fail
  go_enter Tryz.func75, Tryz.ntmps75
  go_wp2_with fail
  refine (failed_any b s p false _ H1.out).mono ?_
  rintro e w' ⟨rfl, rfl⟩
  go_wp2_with fail
  go_enter Tryz.func76, Tryz.ntmps76
  go_wp2_with fail
  refine (take_yes b s p false n _ H1.out hn).mono ?_
  rintro e w1 ⟨rfl, hR, hM⟩
  obtain ⟨k1, k2, k3, k4⟩ := boxes (by simp; exact hlt) hM
  clear c0 c1 c2 z1 z2 lt
  have M1 := Lib.hid (M0.out.then hM)
  have HR := Lib.hid hR
  clear hM hR
  generalize ex : s.extract p (p + n) = x at *
  have EX := Lib.hid ex
  clear ex
  go_wp2_with fail
  go_end0
  go_wp2_with fail
  go_ret
  exact ⟨ret_str (by rw [EX.out]), HR.out.other _ (by simp; omega), M1.out.setNew (by simp) _⟩

theorem Take_all (b : Nat) (s : ByteArray) (p : Nat) (f : Bool) (n : Int) (w : World) (h : Rd w b s p f) :
    Calls Tryz.prog 13 #[.pointer (some ⟨b, 0, none⟩), .int .i64 n] w fun e w' => e = .returned (.string (Oct.takeR s p f n).1) ∧ Rd w' b s (Oct.takeR s p f n).2.1 (Oct.takeR s p f n).2.2 ∧ Mod [b] w w' := by
  have hle := h.le
  unfold Oct.takeR
  by_cases hc : f = false ∧ 0 ≤ n ∧ (p : Int) + n ≤ s.size
  · rw [if_pos hc]
    obtain ⟨rfl, h0, hs⟩ := hc
    obtain ⟨k, rfl⟩ := Int.eq_ofNat_of_zero_le h0
    exact Take_ok b s p k w h (by omega)
  · rw [if_neg hc]
    cases f with
    | true => exact Take_failed b s p n w h
    | false => exact Take_short b s p n w h (by simp at hc; omega)
end Go.Proofs.YtoidfnknckfjhaaGreatDoor
