/- What Decode of chapter 10 answers where there is no directory. -/
import Derived.Test.YtoidfnknckfjhaaGreatDoorTabDir
namespace Go.Proofs.YtoidfnknckfjhaaGreatDoor
open Go.RowKit
set_option linter.unusedVariables false

set_option maxRecDepth 100000 in
set_option maxHeartbeats 4000000 in
theorem dec_no (s : ByteArray) (n : Int) (hn : n ≠ 0) (w : World) (hd : ∀ W', Mod [] w W' → Calls Tryz.prog 6 #[.string s] W' fun e w' => e = .returned (.tuple #[.slice none 0 0, .int .i64 n]) ∧ Mod [] W' w') :
    Calls Tryz.prog 5 #[.string s] w fun e w' => e = .returned (.tuple #[.agg #[.int .i64 0, .slice none 0 0, .slice none 0 0, .slice none 0 0, .slice none 0 0, .slice none 0 0, .slice none 0 0, .slice none 0 0, .slice none 0 0], .int .i64 n]) ∧ Mod [] w w' := by
  have HD := Lib.hid hd
  have hn1 : (n != 0) = true := by simpa using hn
  clear hd hn
  go_enter Tryz.func5, Tryz.ntmps5
  go_wp2_with fail
  refine (HD.out _ ((Mod.refl [] w).alloc _)).mono ?_
  rintro e w2 ⟨rfl, hm2⟩
  have HB : Hid (Blk w2 w.heap.size #[.int .i64 0, .slice none 0 0, .slice none 0 0, .slice none 0 0, .slice none 0 0, .slice none 0 0, .slice none 0 0, .slice none 0 0, .slice none 0 0] 33) := (Blk.new w #[.int .i64 0, .slice none 0 0, .slice none 0 0, .slice none 0 0, .slice none 0 0, .slice none 0 0, .slice none 0 0, .slice none 0 0, .slice none 0 0] 33).kept hm2 (by simp)
  have HM : Hid (Mod [] w w2) := ((Mod.refl [] w).alloc (.cells #[.int .i64 0, .slice none 0 0, .slice none 0 0, .slice none 0 0, .slice none 0 0, .slice none 0 0, .slice none 0 0, .slice none 0 0, .slice none 0 0] 33)).then hm2
  have HF : Hid (w.heap.size ≤ w.heap.size) := Nat.le_refl _
  clear hm2 HD
  generalize hfb : w.heap.size = fb at HB HF ⊢
  have HFB := Lib.hid hfb
  clear hfb HF
  have a0 : w2.cell? ⟨fb, 0, none⟩ = some (.int .i64 0) := HB.out.cell 0
  have z0 : w2.frozen? ⟨fb, 0, none⟩ = false := HB.out.frozen 0
  have a1 : w2.cell? ⟨fb, 1, none⟩ = some (.slice none 0 0) := HB.out.cell 1
  have z1 : w2.frozen? ⟨fb, 1, none⟩ = false := HB.out.frozen 1
  have a2 : w2.cell? ⟨fb, 2, none⟩ = some (.slice none 0 0) := HB.out.cell 2
  have z2 : w2.frozen? ⟨fb, 2, none⟩ = false := HB.out.frozen 2
  have a3 : w2.cell? ⟨fb, 3, none⟩ = some (.slice none 0 0) := HB.out.cell 3
  have z3 : w2.frozen? ⟨fb, 3, none⟩ = false := HB.out.frozen 3
  have a4 : w2.cell? ⟨fb, 4, none⟩ = some (.slice none 0 0) := HB.out.cell 4
  have z4 : w2.frozen? ⟨fb, 4, none⟩ = false := HB.out.frozen 4
  have a5 : w2.cell? ⟨fb, 5, none⟩ = some (.slice none 0 0) := HB.out.cell 5
  have z5 : w2.frozen? ⟨fb, 5, none⟩ = false := HB.out.frozen 5
  have a6 : w2.cell? ⟨fb, 6, none⟩ = some (.slice none 0 0) := HB.out.cell 6
  have z6 : w2.frozen? ⟨fb, 6, none⟩ = false := HB.out.frozen 6
  have a7 : w2.cell? ⟨fb, 7, none⟩ = some (.slice none 0 0) := HB.out.cell 7
  have z7 : w2.frozen? ⟨fb, 7, none⟩ = false := HB.out.frozen 7
  have a8 : w2.cell? ⟨fb, 8, none⟩ = some (.slice none 0 0) := HB.out.cell 8
  have z8 : w2.frozen? ⟨fb, 8, none⟩ = false := HB.out.frozen 8
  have HN : ∀ (wq : World) (i : Nat) (v : Value), Mod [] w wq → Mod [] w (wq.setCell ⟨fb, i, none⟩ v) := fun wq i v h => h.setNew (p := ⟨fb, i, none⟩) (by show w.heap.size ≤ fb; rw [HFB.out]; exact Nat.le_refl _) v
  have HNN := Lib.hid HN
  clear HN
  go_wp2_with fail
  have HBf : Hid (Blk (((((((((w2.setCell ⟨fb, 0, none⟩ (.int .i64 0)).setCell ⟨fb, 1, none⟩ (.slice none 0 0)).setCell ⟨fb, 2, none⟩ (.slice none 0 0)).setCell ⟨fb, 3, none⟩ (.slice none 0 0)).setCell ⟨fb, 4, none⟩ (.slice none 0 0)).setCell ⟨fb, 5, none⟩ (.slice none 0 0)).setCell ⟨fb, 6, none⟩ (.slice none 0 0)).setCell ⟨fb, 7, none⟩ (.slice none 0 0)).setCell ⟨fb, 8, none⟩ (.slice none 0 0)) fb #[.int .i64 0, .slice none 0 0, .slice none 0 0, .slice none 0 0, .slice none 0 0, .slice none 0 0, .slice none 0 0, .slice none 0 0, .slice none 0 0] 33) := (((((((((HB.out.set 0 _).set 1 _).set 2 _).set 3 _).set 4 _).set 5 _).set 6 _).set 7 _).set 8 _)
  have HMf : Hid (Mod [] w (((((((((w2.setCell ⟨fb, 0, none⟩ (.int .i64 0)).setCell ⟨fb, 1, none⟩ (.slice none 0 0)).setCell ⟨fb, 2, none⟩ (.slice none 0 0)).setCell ⟨fb, 3, none⟩ (.slice none 0 0)).setCell ⟨fb, 4, none⟩ (.slice none 0 0)).setCell ⟨fb, 5, none⟩ (.slice none 0 0)).setCell ⟨fb, 6, none⟩ (.slice none 0 0)).setCell ⟨fb, 7, none⟩ (.slice none 0 0)).setCell ⟨fb, 8, none⟩ (.slice none 0 0))) := (HNN.out _ 8 _ (HNN.out _ 7 _ (HNN.out _ 6 _ (HNN.out _ 5 _ (HNN.out _ 4 _ (HNN.out _ 3 _ (HNN.out _ 2 _ (HNN.out _ 1 _ (HNN.out _ 0 _ HM.out)))))))))
  clear HB HM a0 a1 a2 a3 a4 a5 a6 a7 a8 z0 z1 z2 z3 z4 z5 z6 z7 z8
  generalize (((((((((w2.setCell ⟨fb, 0, none⟩ (.int .i64 0)).setCell ⟨fb, 1, none⟩ (.slice none 0 0)).setCell ⟨fb, 2, none⟩ (.slice none 0 0)).setCell ⟨fb, 3, none⟩ (.slice none 0 0)).setCell ⟨fb, 4, none⟩ (.slice none 0 0)).setCell ⟨fb, 5, none⟩ (.slice none 0 0)).setCell ⟨fb, 6, none⟩ (.slice none 0 0)).setCell ⟨fb, 7, none⟩ (.slice none 0 0)).setCell ⟨fb, 8, none⟩ (.slice none 0 0)) = wf at *
  have f0 : wf.cell? ⟨fb, 0, none⟩ = some (.int .i64 0) := HBf.out.cell 0
  have f1 : wf.cell? ⟨fb, 1, none⟩ = some (.slice none 0 0) := HBf.out.cell 1
  have f2 : wf.cell? ⟨fb, 2, none⟩ = some (.slice none 0 0) := HBf.out.cell 2
  have f3 : wf.cell? ⟨fb, 3, none⟩ = some (.slice none 0 0) := HBf.out.cell 3
  have f4 : wf.cell? ⟨fb, 4, none⟩ = some (.slice none 0 0) := HBf.out.cell 4
  have f5 : wf.cell? ⟨fb, 5, none⟩ = some (.slice none 0 0) := HBf.out.cell 5
  have f6 : wf.cell? ⟨fb, 6, none⟩ = some (.slice none 0 0) := HBf.out.cell 6
  have f7 : wf.cell? ⟨fb, 7, none⟩ = some (.slice none 0 0) := HBf.out.cell 7
  have f8 : wf.cell? ⟨fb, 8, none⟩ = some (.slice none 0 0) := HBf.out.cell 8
  refine bodyPost_ret (by simp [results, Tryz.results5, go_sem, f0, f1, f2, f3, f4, f5, f6, f7, f8]; try rfl) rfl ?_
  exact ⟨rfl, HMf.out⟩
end Go.Proofs.YtoidfnknckfjhaaGreatDoor
