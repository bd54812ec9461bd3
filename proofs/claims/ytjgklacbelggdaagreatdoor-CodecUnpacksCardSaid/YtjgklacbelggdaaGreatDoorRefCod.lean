/- The document's coder in memory: it is made; its middle. -/
import Derived.Test.YtjgklacbelggdaaGreatDoorCodNew
namespace Go.Proofs.YtjgklacbelggdaaGreatDoor
open Go.RowKit
set_option linter.unusedVariables false

namespace Cod
def chV (ch : Nat → Nat) : Array Value := tab 2048 fun k => .int .i64 (ch k)
def rcV (hb lo hi : Nat) : Array Value := #[.slice (some ⟨hb, 0, none⟩) 2048 2048, .int .i64 lo, .int .i64 hi]
theorem chV_at (ch : Nat → Nat) (k : Nat) (hk : k < 2048) : (chV ch)[k]? = some (.int .i64 (ch k)) := tab_get _ hk
theorem chV_set (ch : Nat → Nat) (k n : Nat) : (chV ch).setIfInBounds k (.int .i64 n) = chV (upd ch k n) := by
  unfold chV; rw [tab_set]
  refine tab_congr fun j hj => ?_
  unfold upd
  split <;> rfl
theorem chV_congr {ch ch' : Nat → Nat} (h : ∀ k, k < 2048 → ch k = ch' k) : chV ch = chV ch' := by
  unfold chV
  exact tab_congr fun j hj => by rw [h j hj]
/-- The coder's blocks, and what has been written since W: these two. -/
structure StR (W : World) (cb hb : Nat) (c : C) (w : World) : Prop where
  mod : Mod [cb, hb] W w
  blk : Blk w cb (rcV hb c.low c.high) 71
  chs : Blk w hb (chV c.ch) 3
theorem StR.ne {W : World} {cb hb : Nat} {c : C} {w : World} (h : StR W cb hb c w) : cb ≠ hb := Blk.ne h.blk h.chs (by decide)
theorem StR.stays {W : World} {cb hb : Nat} {c : C} {w w' : World} (h : StR W cb hb c w) (m : Mod [] w w') : StR W cb hb c w' :=
  ⟨h.mod.trans m (by simp), h.blk.kept m (by simp), h.chs.kept m (by simp)⟩
theorem StR.setLow {W : World} {cb hb : Nat} {c : C} {w : World} (h : StR W cb hb c w) (n : Nat) : StR W cb hb ⟨n, c.high, c.ch⟩ (w.setCell ⟨cb, 1, none⟩ (.int .i64 n)) :=
  ⟨h.mod.setCell (p := ⟨cb, 1, none⟩) (fun _ => by simp) _, h.blk.set 1 _, h.chs.other (a := ⟨cb, 1, none⟩) h.ne _⟩
theorem StR.setHigh {W : World} {cb hb : Nat} {c : C} {w : World} (h : StR W cb hb c w) (n : Nat) : StR W cb hb ⟨c.low, n, c.ch⟩ (w.setCell ⟨cb, 2, none⟩ (.int .i64 n)) :=
  ⟨h.mod.setCell (p := ⟨cb, 2, none⟩) (fun _ => by simp) _, h.blk.set 2 _, h.chs.other (a := ⟨cb, 2, none⟩) h.ne _⟩
theorem StR.setCh {W : World} {cb hb : Nat} {c : C} {w : World} (h : StR W cb hb c w) (k n : Nat) : StR W cb hb ⟨c.low, c.high, upd c.ch k n⟩ (w.setCell ⟨hb, k, none⟩ (.int .i64 n)) :=
  ⟨h.mod.setCell (p := ⟨hb, k, none⟩) (fun _ => by simp) _, h.blk.other (a := ⟨hb, k, none⟩) h.ne.symm _, by rw [← chV_set]; exact h.chs.set k _⟩
theorem StR.cells {W : World} {cb hb : Nat} {c : C} {w : World} (h : StR W cb hb c w) (k : Nat) (hk : k < 2048) : w.cell? ⟨cb, 0, none⟩ = some (.slice (some ⟨hb, 0, none⟩) 2048 2048) ∧ w.cell? ⟨cb, 1, none⟩ = some (.int .i64 c.low) ∧ w.cell? ⟨cb, 2, none⟩ = some (.int .i64 c.high) ∧ w.cell? ⟨hb, k, none⟩ = some (.int .i64 (c.ch k)) :=
  ⟨h.blk.cell 0, h.blk.cell 1, h.blk.cell 2, (h.chs.cell k).trans (chV_at _ k hk)⟩
theorem StR.free {W : World} {cb hb : Nat} {c : C} {w : World} (h : StR W cb hb c w) (k : Nat) : w.frozen? ⟨cb, 1, none⟩ = false ∧ w.frozen? ⟨cb, 2, none⟩ = false ∧ w.frozen? ⟨hb, k, none⟩ = false :=
  ⟨h.blk.frozen 1, h.blk.frozen 2, h.chs.frozen k⟩
theorem wrap_in {x : Int} (h1 : -9223372036854775808 ≤ x) (h2 : x ≤ 9223372036854775807) : wrap64 x = x := by unfold wrap64; omega
theorem tdiv_nat (a b : Nat) : ((a : Int)).tdiv (b : Int) = ((a / b : Nat) : Int) := by
  rw [Int.tdiv_eq_ediv_of_nonneg (by omega)]; rfl
theorem tmod_nat (a b : Nat) : ((a : Int)).tmod (b : Int) = ((a % b : Nat) : Int) := by
  rw [Int.tmod_eq_emod_of_nonneg (by omega)]; rfl
/-- The middle, as the document reckons it. -/
theorem numR {c : C} (hc : Wf c) (k : Nat) : wrap64 ((c.low : Int) + wrap64 (wrap64 ((wrap64 ((c.high : Int) - c.low)).tdiv 4096) * (c.ch k : Int))) = (mid c k : Int) := by
  have h1 := mid_lt hc k
  have h2 := hc.hi
  have h4 := hc.le
  have h5 : mid c k = c.low + (c.high - c.low) / 4096 * c.ch k := rfl
  have s1 : wrap64 ((c.high : Int) - c.low) = ((c.high - c.low : Nat) : Int) := by rw [wrap_in (by omega) (by omega)]; omega
  have s2 := tdiv_nat (c.high - c.low) 4096
  rw [s1, show (4096 : Int) = ((4096 : Nat) : Int) from rfl, s2]
  have s3 : (c.high - c.low) / 4096 < 4294967296 := by omega
  generalize (c.high - c.low) / 4096 = d at *
  rw [wrap_in (x := (d : Int)) (by omega) (by omega), ← Int.natCast_mul]
  generalize d * c.ch k = q at *
  rw [wrap_in (x := (q : Int)) (by omega) (by omega), wrap_in (by omega) (by omega)]
  omega
/-- The numbers of a turn. -/
theorem numsR {c : C} (hc : Wf c) (k : Nat) : wrap64 ((mid c k : Int) + 1) = ((mid c k + 1 : Nat) : Int) ∧
    wrap64 ((c.ch k : Int) + wrap64 ((wrap64 (4096 - (c.ch k : Int))).tdiv 32)) = ((c.ch k + (4096 - c.ch k) / 32 : Nat) : Int) ∧
    wrap64 ((c.ch k : Int) - wrap64 ((c.ch k : Int) / 32)) = ((c.ch k - c.ch k / 32 : Nat) : Int) := by
  have h1 := mid_lt hc k
  have h2 := hc.hi
  have h3 := hc.ch k
  refine ⟨by rw [wrap_in (by omega) (by omega)]; omega, ?_, ?_⟩
  · have s1 : wrap64 (4096 - (c.ch k : Int)) = ((4096 - c.ch k : Nat) : Int) := by rw [wrap_in (by omega) (by omega)]; omega
    rw [s1, show (32 : Int) = ((32 : Nat) : Int) from rfl, tdiv_nat]
    have h6 : (4096 - c.ch k) / 32 ≤ 4096 := by omega
    generalize (4096 - c.ch k) / 32 = y at *
    rw [wrap_in (x := (y : Int)) (by omega) (by omega), wrap_in (by omega) (by omega)]
    omega
  · rw [show (c.ch k : Int) / 32 = ((c.ch k / 32 : Nat) : Int) from rfl]
    rw [wrap_in (x := ((c.ch k / 32 : Nat) : Int)) (by omega) (by omega), wrap_in (by omega) (by omega)]
    omega
/-- The numbers of a shift. -/
theorem numsR2 {c : C} (hk : Wk c) : wrap64 (wrap64 ((c.low : Int) % 16777216) * 256) = ((shift c).low : Int) ∧ wrap64 (wrap64 (wrap64 ((c.high : Int) % 16777216) * 256) + 255) = ((shift c).high : Int) := by
  have h1 := hk.le
  have h2 := hk.hi
  rw [show (c.low : Int) % 16777216 = ((c.low % 16777216 : Nat) : Int) from rfl, show (c.high : Int) % 16777216 = ((c.high % 16777216 : Nat) : Int) from rfl]
  simp only [shift]
  have e1 : c.low % 16777216 < 16777216 := by omega
  have e2 : c.high % 16777216 < 16777216 := by omega
  generalize c.low % 16777216 = x at *
  generalize c.high % 16777216 = y at *
  rw [wrap_in (x := (x : Int)) (by omega) (by omega), wrap_in (x := (y : Int)) (by omega) (by omega), wrap_in (x := (x : Int) * 256) (by omega) (by omega), wrap_in (x := (y : Int) * 256) (by omega) (by omega), wrap_in (by omega) (by omega)]
  omega
end Cod

set_option maxHeartbeats 1000000 in
theorem middle_any (W : World) (cb hb : Nat) (c : Cod.C) (hc : Cod.Wf c) (k : Nat) (hk : k < 2048) (w : World) (h : Cod.StR W cb hb c w) :
    Calls Tryz.prog 28 #[.pointer (some ⟨cb, 0, none⟩), .int .i64 k] w fun e w' => e = .returned (.int .i64 (Cod.mid c k)) ∧ Mod [] w w' := by
  obtain ⟨a0, a1, a2, a3⟩ := h.cells k hk
  have HN := Lib.hid (Cod.numR hc k)
  clear h hc
  go_enter Tryz.func28, Tryz.ntmps28
  go_wp2_with fail
  go_quiet (fail)
  go_wp2_with fail
  go_ret
  exact ⟨ret_int HN.out, (Mod.refl _ _).drewN _⟩
end Go.Proofs.YtjgklacbelggdaaGreatDoor
