/- What Directory and Decode of chapter 10 answer of bytes that are too many, too few, or begin as no font's do. -/
import Derived.Test.YtoidfnknckfjhaaGreatDoorOctRd3
import Derived.Test.YtoidfnknckfjhaaGreatDoorOctPut
import Derived.Test.YtoidfnknckfjhaaGreatDoorRing
import Derived.Test.YtoidfnknckfjhaaGreatDoorTabCa
namespace Go.Proofs.YtoidfnknckfjhaaGreatDoor
open Go.RowKit
set_option linter.unusedVariables false

theorem tabhead_any (w : World) : Calls Tryz.prog 11 #[] w fun e w' => e = .returned (.string (bs [70, 76, 69, 85, 0, 1, 0, 10])) ∧ Mod [] w w' := by
  have e1 : Oct.putS 1 2 = bs [0, 1] := by kernel_rfl
  have e2 : Oct.putS 10 2 = bs [0, 10] := by kernel_rfl
  have E1 := Lib.hid e1
  have E2 := Lib.hid e2
  clear e1 e2
  go_enter Tryz.func11, Tryz.ntmps11
  go_wp2_with fail
  refine (put_all _ _ _ (by omega)).mono ?_
  rintro e w1 ⟨rfl, hb1⟩
  have HM := Lib.hid (Mod.of_below hb1)
  clear hb1
  rw [E1.out]
  go_wp2_with fail
  refine (put_all _ _ _ (by omega)).mono ?_
  rintro e w2 ⟨rfl, hb2⟩
  have HM2 := Lib.hid (HM.out.then (Mod.of_below hb2))
  clear hb2
  rw [E2.out]
  go_wp2_with fail
  go_ret
  exact ⟨rfl, HM2.out⟩

set_option maxRecDepth 100000 in
set_option maxHeartbeats 2000000 in
theorem dir_many (s : ByteArray) (hs : 1048576 < s.size) (w : World) : Calls Tryz.prog 6 #[.string s] w fun e w' => e = .returned (.tuple #[.slice none 0 0, .int .i64 2]) ∧ Mod [] w w' := by
  have h1 : (1048576 : Int) < (s.size : Int) := by omega
  go_enter Tryz.func6, Tryz.ntmps6
  go_wp2_with fail
  go_ret2
  exact ⟨rfl, Mod.refl _ _⟩
set_option maxRecDepth 100000 in
set_option maxHeartbeats 2000000 in
theorem dir_short (s : ByteArray) (hs : s.size < 8) (w : World) : Calls Tryz.prog 6 #[.string s] w fun e w' => e = .returned (.tuple #[.slice none 0 0, .int .i64 10]) ∧ Mod [] w w' := by
  have h1 : ¬ (1048576 : Int) < (s.size : Int) := by omega
  have h2 : (s.size : Int) < 8 := by omega
  go_enter Tryz.func6, Tryz.ntmps6
  go_wp2_with fail
  go_ret2
  exact ⟨rfl, Mod.refl _ _⟩
set_option maxRecDepth 100000 in
set_option maxHeartbeats 2000000 in
theorem dir_form (s : ByteArray) (h8 : 8 ≤ s.size) (hs : s.size ≤ 1048576) (hh : s.data.toList.take 8 ≠ [70, 76, 69, 85, 0, 1, 0, 10]) (w : World) : Calls Tryz.prog 6 #[.string s] w fun e w' => e = .returned (.tuple #[.slice none 0 0, .int .i64 11]) ∧ Mod [] w w' := by
  have h1 : ¬ (1048576 : Int) < (s.size : Int) := by omega
  have h2 : ¬ (s.size : Int) < 8 := by omega
  have h3 : (8 : Int) ≤ (s.size : Int) := by omega
  have e : s.extract 0 8 = bs (s.data.toList.take 8) := bs_ext (by rw [ByteArray.data_extract, Array.toList_extract, bs_data]; simp)
  have hk : ((s.extract 0 8).toList == (bs [70, 76, 69, 85, 0, 1, 0, 10]).toList) = false := by
    rw [e, ByteArray.toList_eq, ByteArray.toList_eq, bs_data, bs_data]
    simpa using hh
  have HH := Lib.hid (fun w' (_ : Mod [] w w') => tabhead_any w')
  clear hh e
  go_enter Tryz.func6, Tryz.ntmps6
  go_wp2_with fail
  refine wp_region_mask 4 [true, true, true, true] [] (by kernel_rfl) (by kernel_rfl) (by simp) ?_
  simp only [pickM]
  refine steady_go (a' := ?_) (by kernel_rfl) ?_ (fun w' hw' K Q hK => ?_) ?_
  rotate_left 2
  · go_wp2_with fail; exact hK _ (Mod.refl _ _)
  rotate_left
  · rfl
  refine steady_go (a' := ?_) (by kernel_rfl) ?_ (fun w' hw' K Q hK => ?_) ?_
  rotate_left 2
  · go_wp2_with fail; exact hK _ (Mod.refl _ _)
  rotate_left
  · rfl
  refine steady_go (a' := ?_) (by kernel_rfl) ?_ (fun w' hw' K Q hK => ?_) ?_
  rotate_left 2
  · go_wp2_with fail
    refine ((HH.out) _ hw').mono ?_
    rintro e w'' ⟨rfl, m''⟩
    go_wp2_with fail
    exact hK _ m''
  rotate_left
  · rfl
  refine steady_go (a' := ?_) (by kernel_rfl) ?_ (fun w' hw' K Q hK => ?_) ?_
  rotate_left 2
  · go_wp2_with fail; exact hK _ (Mod.refl _ _)
  rotate_left
  · rfl
  refine steady_done ?_
  refine lates_end (fun w' hw' _ => ?_)
  simp only [List.drop_succ_cons, List.drop_zero]
  have HW := Lib.hid hw'
  clear hw'
  go_wp2_with fail
  go_ret2
  exact ⟨rfl, HW.out⟩

namespace Tab
/-- The head of a font's bytes, and bytes 0. -/
def begun (k : Nat) : List UInt8 := [70, 76, 69, 85, 0, 1, 0, 10] ++ List.replicate k 0
theorem begun_length (k : Nat) : (begun k).length = k + 8 := by simp [begun]
theorem begun_head (k : Nat) : (bs (begun k)).extract 0 8 = bs [70, 76, 69, 85, 0, 1, 0, 10] := bs_ext (by rw [ByteArray.data_extract, Array.toList_extract, bs_data, bs_data]; simp [begun])
theorem begun_rest (k : Nat) (hk : 160 ≤ k) : (bs (begun k)).extract 8 168 = bs (List.replicate 160 0) := bs_ext (by
  rw [ByteArray.data_extract, Array.toList_extract, bs_data, bs_data, List.extract_eq_take_drop]
  show (List.replicate k (0 : UInt8)).take 160 = _
  rw [List.take_replicate, Nat.min_eq_left hk])
end Tab

theorem pad_zero (w : World) : Calls Tryz.prog 15 #[.int .i64 0] w fun e w' => e = .returned (.int .i64 0) ∧ w = w' := by
  go_enter Tryz.func15, Tryz.ntmps15
  go_wp2
  go_ret
  exact ⟨rfl, rfl⟩

set_option maxRecDepth 100000 in
set_option maxHeartbeats 4000000 in
theorem dir_begins (k : Nat) (hk : 160 ≤ k) (hk2 : k + 8 ≤ 1048576) (w : World) (hg : Blk w 0 Tab.tagCells 64) :
    Calls Tryz.prog 6 #[.string (bs (Tab.begun k))] w fun e w' => e = .returned (.tuple #[.slice none 0 0, .int .i64 11]) ∧ Mod [] w w' := by
  have hsz : (bs (Tab.begun k)).size = k + 8 := Tab.begun_length k
  have e8 := Tab.begun_head k
  have e168 := Tab.begun_rest k hk
  generalize bs (Tab.begun k) = s at *
  obtain ⟨R, hR⟩ : ∃ R, R = bs (List.replicate 160 0) := ⟨_, rfl⟩
  rw [← hR] at e168
  have r0 : R.extract 0 4 = bs [0, 0, 0, 0] := by rw [hR]; kernel_rfl
  have r1 : (Oct.num (R.extract 4 8) : Int) = 0 := by rw [hR]; kernel_rfl
  have r2 : (Oct.num (R.extract 8 12) : Int) = 0 := by rw [hR]; kernel_rfl
  have r3 : (Oct.num (R.extract 12 16) : Int) = 0 := by rw [hR]; kernel_rfl
  have rs : R.size = 160 := by rw [hR]; kernel_rfl
  clear hR
  have h1 : ¬ (1048576 : Int) < (s.size : Int) := by omega
  have h2 : ¬ (s.size : Int) < 8 := by omega
  have h3 : (8 : Int) ≤ (s.size : Int) := by omega
  have h4 : ¬ (s.size : Int) < 168 := by omega
  have h5 : (168 : Int) ≤ (s.size : Int) := by omega
  have hk8 : ((s.extract 0 8).toList == (bs [70, 76, 69, 85, 0, 1, 0, 10]).toList) = true := by rw [e8]; simp
  have HH := Lib.hid (fun w' (_ : Mod [] w w') => tabhead_any w')
  have HG := Lib.hid hg
  have R0 := Lib.hid r0
  have R1 := Lib.hid r1
  have R2 := Lib.hid r2
  have R3 := Lib.hid r3
  have HRS := Lib.hid rs
  have HK := Lib.hid hsz
  clear hk hk2 e8 hg r0 r1 r2 r3 rs hsz
  go_enter Tryz.func6, Tryz.ntmps6
  go_wp2_with fail
  refine wp_region_mask 4 [true, true, true, true] [] (by kernel_rfl) (by kernel_rfl) (by simp) ?_
  simp only [pickM]
  refine steady_go (a' := ?_) (by kernel_rfl) ?_ (fun w' hw' K Q hK => ?_) ?_
  rotate_left 2
  · go_wp2_with fail; exact hK _ (Mod.refl _ _)
  rotate_left
  · rfl
  refine steady_go (a' := ?_) (by kernel_rfl) ?_ (fun w' hw' K Q hK => ?_) ?_
  rotate_left 2
  · go_wp2_with fail; exact hK _ (Mod.refl _ _)
  rotate_left
  · rfl
  refine steady_go (a' := ?_) (by kernel_rfl) ?_ (fun w' hw' K Q hK => ?_) ?_
  rotate_left 2
  · go_wp2_with fail
    refine ((HH.out) _ hw').mono ?_
    rintro e w'' ⟨rfl, m''⟩
    go_wp2_with fail
    exact hK _ m''
  rotate_left
  · rfl
  refine steady_go (a' := ?_) (by kernel_rfl) ?_ (fun w' hw' K Q hK => ?_) ?_
  rotate_left 2
  · go_wp2_with fail; exact hK _ (Mod.refl _ _)
  rotate_left
  · rfl
  refine steady_done ?_
  refine lates_end (fun w' hw' _ => ?_)
  simp only [List.drop_succ_cons, List.drop_zero]
  have HW := Lib.hid hw'
  clear hw' HH
  go_wp2_with fail
  refine (read_any R _ (by rw [HRS.out]; decide)).mono ?_
  rintro e w2 ⟨rfl, hrd, hm2⟩
  have HM := Lib.hid (HW.out.then hm2)
  have HRD := Lib.hid hrd
  have hB := HG.out.kept (HW.out.then hm2) (by simp)
  obtain ⟨tg, htg⟩ : ∃ tg : ByteArray, tg = ⟨#[97, 120, 105, 115]⟩ := ⟨_, rfl⟩
  have hneq : ((bs [0, 0, 0, 0]).toList == tg.toList) = false := by rw [htg]; kernel_rfl
  have c0 : w2.cell? ⟨0, 0, none⟩ = some (.string tg) := by rw [htg]; exact hB.cell 0
  clear htg
  have c1 : w2.cell? ⟨0, 1, none⟩ = some (.string ⟨#[99, 104, 97, 114]⟩) := hB.cell 1
  have c2 : w2.cell? ⟨0, 2, none⟩ = some (.string ⟨#[99, 111, 100, 101]⟩) := hB.cell 2
  have c3 : w2.cell? ⟨0, 3, none⟩ = some (.string ⟨#[102, 101, 97, 116]⟩) := hB.cell 3
  have c4 : w2.cell? ⟨0, 4, none⟩ = some (.string ⟨#[103, 108, 121, 102]⟩) := hB.cell 4
  have c5 : w2.cell? ⟨0, 5, none⟩ = some (.string ⟨#[104, 97, 110, 103]⟩) := hB.cell 5
  have c6 : w2.cell? ⟨0, 6, none⟩ = some (.string ⟨#[104, 101, 97, 100]⟩) := hB.cell 6
  have c7 : w2.cell? ⟨0, 7, none⟩ = some (.string ⟨#[108, 111, 111, 107]⟩) := hB.cell 7
  have c8 : w2.cell? ⟨0, 8, none⟩ = some (.string ⟨#[109, 111, 118, 101]⟩) := hB.cell 8
  have c9 : w2.cell? ⟨0, 9, none⟩ = some (.string ⟨#[110, 97, 109, 101]⟩) := hB.cell 9
  clear hB
  have HRB : Hid (w.heap.size ≤ w'.heap.size) := HW.out.size
  clear hrd hm2 HW
  generalize w'.heap.size = rb at *
  go_wp2_with fail
  clear c0 c1 c2 c3 c4 c5 c6 c7 c8 c9
  go_loopg [5, 6, 32] 1 (fun gk v5 i6 i32 wr => v5 = .slice none 0 0 ∧ i6 = .int .i64 168 ∧ i32 = .int .i64 0 ∧ Hid (Rd wr rb R 0 false ∧ Mod [] w wr))
  case atStart => exact ⟨rfl, rfl, rfl, HRD.out, HM.out⟩
  case round =>
    obtain ⟨rfl, rfl, rfl, HR⟩ := hrel
    clear HRD HM
    have hidx : (Instr.index 64 (.agg #[.string tg, .string ⟨#[99, 104, 97, 114]⟩, .string ⟨#[99, 111, 100, 101]⟩, .string ⟨#[102, 101, 97, 116]⟩, .string ⟨#[103, 108, 121, 102]⟩, .string ⟨#[104, 97, 110, 103]⟩, .string ⟨#[104, 101, 97, 100]⟩, .string ⟨#[108, 111, 111, 107]⟩, .string ⟨#[109, 111, 118, 101]⟩, .string ⟨#[110, 97, 109, 101]⟩]) (.int .i64 0)).run Tryz.prog wr = .ok (.string tg) wr := by kernel_rfl
    go_wp2_with fail
    have hT := Take_ok rb R 0 4 wr HR.out.1 (by rw [HRS.out]; decide)
    rw [R0.out] at hT
    refine hT.mono ?_
    rintro e w3 ⟨rfl, hrd3, hm3⟩
    have hrb : ∀ x ∈ [rb], x < w.heap.size → x ∈ ([] : List Nat) := fun x hx hlt => by
      have h1 := HRB.out
      simp only [List.mem_cons, List.mem_nil_iff, or_false] at hx
      subst hx; omega
    have HRb := Lib.hid hrb
    have HR3 : Hid (Rd w3 rb R 4 false ∧ Mod [] w w3) := ⟨hrd3, HR.out.2.trans hm3 hrb⟩
    clear hT hrd3 hm3 HR hrb
    go_wp2_with fail
    have HE3 : Hid (Rd (w3.alloc (.cells #[.string (bs [0, 0, 0, 0]), .int .i64 0, .int .i64 0, .int .u32 0] 54)) rb R 4 false ∧ Mod [] w (w3.alloc (.cells #[.string (bs [0, 0, 0, 0]), .int .i64 0, .int .i64 0, .int .u32 0] 54)) ∧ Blk (w3.alloc (.cells #[.string (bs [0, 0, 0, 0]), .int .i64 0, .int .i64 0, .int .u32 0] 54)) w3.heap.size #[.string (bs [0, 0, 0, 0]), .int .i64 0, .int .i64 0, .int .u32 0] 54) :=
      ⟨HR3.out.1.alloc _, HR3.out.2.alloc _, Blk.new _ _ _⟩
    have HEB : Hid (w.heap.size ≤ w3.heap.size ∧ rb < w3.heap.size) := ⟨HR3.out.2.size, HR3.out.1.lt⟩
    clear HR3 hidx
    generalize w3.alloc (.cells #[.string (bs [0, 0, 0, 0]), .int .i64 0, .int .i64 0, .int .u32 0] 54) = w4 at *
    generalize w3.heap.size = eb at *
    have hN := num_ok rb R 4 4 w4 HE3.out.1 (by decide) (by rw [HRS.out]; decide)
    rw [R1.out] at hN
    refine hN.mono ?_
    rintro e w5 ⟨rfl, hrd5, hm5⟩
    have hne : eb ∉ [rb] := fun h => by
      have h1 := HEB.out
      simp only [List.mem_cons, List.mem_nil_iff, or_false] at h
      omega
    have HNE := Lib.hid hne
    have HE5 : Hid (Rd w5 rb R 8 false ∧ Mod [] w w5 ∧ Blk w5 eb #[.string (bs [0, 0, 0, 0]), .int .i64 0, .int .i64 0, .int .u32 0] 54) := ⟨hrd5, HE3.out.2.1.trans hm5 HRb.out, HE3.out.2.2.kept hm5 hne⟩
    clear hN hrd5 hm5 HE3 hne
    have a3 : w5.cell? ⟨eb, 3, none⟩ = some (.int .u32 0) := HE5.out.2.2.cell 3
    have z3 : w5.frozen? ⟨eb, 3, none⟩ = false := HE5.out.2.2.frozen 3
    have HX : ∀ (wq : World) (p i : Nat) (v : Value), (#[Value.string (bs [0, 0, 0, 0]), .int .i64 0, .int .i64 0, .int .u32 0] : Array Value).setIfInBounds i v = #[.string (bs [0, 0, 0, 0]), .int .i64 0, .int .i64 0, .int .u32 0] →
        (Rd wq rb R p false ∧ Mod [] w wq ∧ Blk wq eb #[.string (bs [0, 0, 0, 0]), .int .i64 0, .int .i64 0, .int .u32 0] 54) →
        (Rd (wq.setCell ⟨eb, i, none⟩ v) rb R p false ∧ Mod [] w (wq.setCell ⟨eb, i, none⟩ v) ∧ Blk (wq.setCell ⟨eb, i, none⟩ v) eb #[.string (bs [0, 0, 0, 0]), .int .i64 0, .int .i64 0, .int .u32 0] 54) := fun wq p i v hv h => by
      have h1 := HEB.out
      refine ⟨h.1.other v (a := ⟨eb, i, none⟩) (by show eb ≠ rb; omega), h.2.1.setNew (p := ⟨eb, i, none⟩) h1.1 v, ?_⟩
      have h2 := h.2.2.set i v
      rw [hv] at h2
      exact h2
    have HXX := Lib.hid HX
    have HE6 := Lib.hid (HX w5 8 3 (.int .u32 0) rfl HE5.out)
    clear HX HE5
    go_wp2_with fail
    generalize w5.setCell ⟨eb, 3, none⟩ (.int .u32 0) = w6 at *
    clear a3 z3
    have hN := num_ok rb R 8 4 w6 HE6.out.1 (by decide) (by rw [HRS.out]; decide)
    rw [R2.out] at hN
    refine hN.mono ?_
    rintro e w7 ⟨rfl, hrd7, hm7⟩
    have HE7 : Hid (Rd w7 rb R 12 false ∧ Mod [] w w7 ∧ Blk w7 eb #[.string (bs [0, 0, 0, 0]), .int .i64 0, .int .i64 0, .int .u32 0] 54) := ⟨hrd7, HE6.out.2.1.trans hm7 HRb.out, HE6.out.2.2.kept hm7 HNE.out⟩
    clear hN hrd7 hm7 HE6
    have a1 : w7.cell? ⟨eb, 1, none⟩ = some (.int .i64 0) := HE7.out.2.2.cell 1
    have z1 : w7.frozen? ⟨eb, 1, none⟩ = false := HE7.out.2.2.frozen 1
    have HE8 := Lib.hid (HXX.out w7 12 1 (.int .i64 0) rfl HE7.out)
    clear HE7
    go_wp2_with fail
    generalize w7.setCell ⟨eb, 1, none⟩ (.int .i64 0) = w8 at *
    clear a1 z1
    have hN := num_ok rb R 12 4 w8 HE8.out.1 (by decide) (by rw [HRS.out]; decide)
    rw [R3.out] at hN
    refine hN.mono ?_
    rintro e w9 ⟨rfl, hrd9, hm9⟩
    have HE9 : Hid (Rd w9 rb R 16 false ∧ Mod [] w w9 ∧ Blk w9 eb #[.string (bs [0, 0, 0, 0]), .int .i64 0, .int .i64 0, .int .u32 0] 54) := ⟨hrd9, HE8.out.2.1.trans hm9 HRb.out, HE8.out.2.2.kept hm9 HNE.out⟩
    clear hN hrd9 hm9 HE8
    have a2 : w9.cell? ⟨eb, 2, none⟩ = some (.int .i64 0) := HE9.out.2.2.cell 2
    have z2 : w9.frozen? ⟨eb, 2, none⟩ = false := HE9.out.2.2.frozen 2
    have HE10 := Lib.hid (HXX.out w9 16 2 (.int .i64 0) rfl HE9.out)
    have b0 : (w9.setCell ⟨eb, 2, none⟩ (.int .i64 0)).cell? ⟨eb, 0, none⟩ = some (.string (bs [0, 0, 0, 0])) := HE10.out.2.2.cell 0
    have b2 : (w9.setCell ⟨eb, 2, none⟩ (.int .i64 0)).cell? ⟨eb, 2, none⟩ = some (.int .i64 0) := HE10.out.2.2.cell 2
    clear HE9
    go_wp2_with fail
    refine (pad_zero _).mono ?_
    rintro e w10 ⟨rfl, rfl⟩
    go_wp2_with fail
    go_ret2
    exact ⟨rfl, HE10.out.2.1⟩
end Go.Proofs.YtoidfnknckfjhaaGreatDoor
