/- A reader in memory; Failed, Left, At, take, Read. -/
import Derived.Test.YtoidfnknckfjhaaGreatDoorOctNum
import Derived.Deep.QuietTactic
import Derived.BigQuiet
import Derived.RegionTactic
namespace Go.Proofs.YtoidfnknckfjhaaGreatDoor
open Go.RowKit

/-- Block b is a reader of the bytes s, that stands at p, and has failed or not. -/
structure Rd (w : World) (b : Nat) (s : ByteArray) (p : Nat) (f : Bool) : Prop where
  c0 : w.cell? ⟨b, 0, none⟩ = some (.string s)
  c1 : w.cell? ⟨b, 1, none⟩ = some (.int .i64 p)
  c2 : w.cell? ⟨b, 2, none⟩ = some (.bool f)
  z1 : w.frozen? ⟨b, 1, none⟩ = false
  z2 : w.frozen? ⟨b, 2, none⟩ = false
  lt : b < w.heap.size
  le : p ≤ s.size
  big : s.size ≤ 9223372036854775807

theorem Rd.kept {w w' : World} {b : Nat} {s : ByteArray} {p : Nat} {f : Bool} {l : List Nat} (h : Rd w b s p f) (m : Mod l w w') (hn : b ∉ l) : Rd w' b s p f :=
  ⟨(m.cell (p := ⟨b, 0, none⟩) h.lt hn).trans h.c0, (m.cell (p := ⟨b, 1, none⟩) h.lt hn).trans h.c1, (m.cell (p := ⟨b, 2, none⟩) h.lt hn).trans h.c2,
   (m.frozen (p := ⟨b, 1, none⟩) h.lt hn).trans h.z1, (m.frozen (p := ⟨b, 2, none⟩) h.lt hn).trans h.z2, Nat.lt_of_lt_of_le h.lt m.size, h.le, h.big⟩
theorem Rd.drew {w : World} {b : Nat} {s : ByteArray} {p : Nat} {f : Bool} (h : Rd w b s p f) : Rd w.drew b s p f := ⟨h.c0, h.c1, h.c2, h.z1, h.z2, h.lt, h.le, h.big⟩
theorem Rd.drewN {w : World} {b : Nat} {s : ByteArray} {p : Nat} {f : Bool} (n : Nat) (h : Rd w b s p f) : Rd (w.drewN n) b s p f := ⟨h.c0, h.c1, h.c2, h.z1, h.z2, h.lt, h.le, h.big⟩

set_option maxHeartbeats 400000 in
theorem failed_any (b : Nat) (s : ByteArray) (p : Nat) (f : Bool) (w : World) (h : Rd w b s p f) :
    Calls Tryz.prog 34 #[.pointer (some ⟨b, 0, none⟩)] w fun e w' => e = .returned (.bool f) ∧ w = w' := by
  obtain ⟨c0, c1, c2, z1, z2, lt, le, big⟩ := h
  go_enter Tryz.func34, Tryz.ntmps34
  go_wp2
  go_ret
  exact ⟨rfl, rfl⟩
set_option maxHeartbeats 400000 in
theorem failed_nil (w : World) :
    Calls Tryz.prog 34 #[.pointer none] w fun e w' => e = .returned (.bool true) ∧ w = w' := by
  go_enter Tryz.func34, Tryz.ntmps34
  go_wp2
  go_ret
  exact ⟨rfl, rfl⟩
set_option maxHeartbeats 400000 in
theorem left_any (b : Nat) (s : ByteArray) (p : Nat) (f : Bool) (w : World) (h : Rd w b s p f) :
    Calls Tryz.prog 35 #[.pointer (some ⟨b, 0, none⟩)] w fun e w' => e = .returned (.int .i64 ((s.size : Int) - p)) ∧ ∃ n, w' = w.drewN n := by
  obtain ⟨c0, c1, c2, z1, z2, lt, le, big⟩ := h
  go_enter Tryz.func35, Tryz.ntmps35
  go_wp2
  go_quiet (fail)
  go_wp2
  go_ret
  exact ⟨rfl, _, rfl⟩
set_option maxHeartbeats 400000 in
theorem left_nil (w : World) :
    Calls Tryz.prog 35 #[.pointer none] w fun e w' => e = .returned (.int .i64 0) ∧ w = w' := by
  go_enter Tryz.func35, Tryz.ntmps35
  go_wp2
  go_ret
  exact ⟨rfl, rfl⟩
set_option maxHeartbeats 400000 in
theorem read_any (s : ByteArray) (w : World) (hs : s.size ≤ maxLen) :
    Calls Tryz.prog 12 #[.string s] w fun e w' => e = .returned (.pointer (some ⟨w.heap.size, 0, none⟩)) ∧ Rd w' w.heap.size s 0 false ∧ Mod [] w w' := by
  go_enter Tryz.func12, Tryz.ntmps12
  go_wp2
  go_ret
  refine ⟨rfl, ⟨?_, ?_, ?_, ?_, ?_, ?_, Nat.zero_le _, hs⟩, (Mod.refl _ _).alloc _⟩ <;> simp

theorem Rd.at {w : World} {b : Nat} {s : ByteArray} {p : Nat} {f : Bool} (h : Rd w b s p f) (q : Nat) (hq : q ≤ s.size) : Rd (w.setCell ⟨b, 1, none⟩ (.int .i64 q)) b s q f :=
  ⟨(World.cell?_setCell_other w ⟨b, 1, none⟩ ⟨b, 0, none⟩ _ (by simp)).trans h.c0, World.cell?_setCell_same _ _ _ h.c1, (World.cell?_setCell_other w ⟨b, 1, none⟩ ⟨b, 2, none⟩ _ (by simp)).trans h.c2,
   (World.frozen?_setCell w ⟨b, 1, none⟩ ⟨b, 1, none⟩ _).trans h.z1, (World.frozen?_setCell w ⟨b, 1, none⟩ ⟨b, 2, none⟩ _).trans h.z2, by rw [setCell_size]; exact h.lt, hq, h.big⟩
theorem Rd.fail {w : World} {b : Nat} {s : ByteArray} {p : Nat} {f : Bool} (h : Rd w b s p f) (g : Bool) : Rd (w.setCell ⟨b, 2, none⟩ (.bool g)) b s p g :=
  ⟨(World.cell?_setCell_other w ⟨b, 2, none⟩ ⟨b, 0, none⟩ _ (by simp)).trans h.c0, (World.cell?_setCell_other w ⟨b, 2, none⟩ ⟨b, 1, none⟩ _ (by simp)).trans h.c1, World.cell?_setCell_same _ _ _ h.c2,
   (World.frozen?_setCell w ⟨b, 2, none⟩ ⟨b, 1, none⟩ _).trans h.z1, (World.frozen?_setCell w ⟨b, 2, none⟩ ⟨b, 2, none⟩ _).trans h.z2, by rw [setCell_size]; exact h.lt, h.le, h.big⟩

set_option maxHeartbeats 400000 in
theorem take_no (b : Nat) (s : ByteArray) (p : Nat) (f : Bool) (n : Int) (w : World) (h : Rd w b s p f) (hn : n < 0 ∨ (s.size : Int) - p < n) :
    Calls Tryz.prog 188 #[.pointer (some ⟨b, 0, none⟩), .int .i64 n] w fun e w' => e = .returned (.tuple #[.string ⟨#[]⟩, .bool false]) ∧ Rd w' b s p f ∧ Mod [] w w' := by
  rcases hn with hn | hn
  · have d1 : decide (n < 0) = true := by simpa using hn
    go_enter Tryz.func188, Tryz.ntmps188
    go_wp2_with fail
    go_ret2
    exact ⟨rfl, h, Mod.refl _ _⟩
  · have hle := h.le
    have d1 : decide (n < 0) = false := by simp; omega
    have d2 : decide ((s.size : Int) - p < n) = true := by simpa using hn
    go_enter Tryz.func188, Tryz.ntmps188
    go_wp2_with fail
    refine (left_any b s p f _ h).mono ?_
    rintro e w' ⟨rfl, m, rfl⟩
    go_wp2_with fail
    go_ret2
    exact ⟨rfl, h.drewN m, (Mod.refl _ _).drewN m⟩

set_option maxHeartbeats 400000 in
theorem take_yes (b : Nat) (s : ByteArray) (p : Nat) (f : Bool) (n : Nat) (w : World) (h : Rd w b s p f) (hn : p + n ≤ s.size) :
    Calls Tryz.prog 188 #[.pointer (some ⟨b, 0, none⟩), .int .i64 n] w fun e w' => e = .returned (.tuple #[.string (s.extract p (p + n)), .bool true]) ∧ Rd w' b s (p + n) f ∧ Mod [b] w w' := by
  have hle := h.le
  have d1 : decide ((n : Int) < 0) = false := by simp
  have d2 : decide ((s.size : Int) - p < n) = false := by simp; omega
  go_enter Tryz.func188, Tryz.ntmps188
  go_wp2_with fail
  refine (left_any b s p f _ h).mono ?_
  rintro e w' ⟨rfl, m, rfl⟩
  have h1 := h.drewN m
  have M1 : Mod [b] w (w.drewN m) := (Mod.refl _ _).drewN m
  generalize w.drewN m = w1 at *
  have h2 := h1.at (p + n) hn
  have M2 := Lib.hid (M1.setCell (p := ⟨b, 1, none⟩) (by simp) (.int .i64 ((p + n : Nat) : Int)))
  have hq : ((p + n : Nat) : Int) = (p : Int) + n := by omega
  rw [hq] at h2 M2
  have H2 := Lib.hid h2
  obtain ⟨a0, a1, a2, az1, az2, alt, ale, abig⟩ := h2
  obtain ⟨c0, c1, c2, z1, z2, lt, le, big⟩ := h1
  clear h d2 hq M1
  go_wp2_with fail
  go_quiet (fail)
  go_wp2_with fail
  go_ret2
  exact ⟨rfl, H2.out.drewN _, M2.out.drewN _⟩
end Go.Proofs.YtoidfnknckfjhaaGreatDoor
