/- vary: row, of each type. Printed by gen_vcopy.py. -/
import Derived.Test.YtaloembfekdkoaaGKit
namespace Go.Proofs.Ytaloembfekdkoaa
open Go.RowKit
set_option linter.unusedVariables false
set_option maxRecDepth 100000
def CopyRes (w : World) (t : TypeId) (cs : List Value) (n : Nat) (e : Ending) (w' : World) : Prop :=
  ∃ v, e = .returned v ∧ Mod [] w w' ∧ ((n = 0 ∧ v = .slice none 0 0) ∨ ∃ b, v = .slice (some ⟨b, 0, none⟩) n n ∧ w.heap.size ≤ b ∧ Blk w' b cs.toArray t)
theorem Try.rowinfo_Int : (Try.prog.info? 3).map (fun i => (i.zero, i.size, i.bytes)) = some (some (.int .i64 0), 1, 8) := by kernel_rfl
theorem Try.rowsize_Int : (Try.prog.info? 3).map (·.size) = some 1 := by kernel_rfl
set_option maxHeartbeats 1000000 in
theorem row_Int (oa : Option Addr) (n cap : Nat) (cs : List Value) (w : World) (hlen : cs.length = n * 1) (hc : ∀ j u, cs[j]? = some u → ∃ a : Addr, oa = some a ∧ w.cell? (a.add j) = some u) (h1 : ∀ u ∈ cs, u.oneCell' = true) (hn : n * 8 ≤ 140737488351232) :
    Calls Try.prog 15 #[.slice oa n cap] w (CopyRes w 3 cs n) := by
  by_cases h0 : n = 0
  · subst h0
    go_enter Try.func15, Try.ntmps15
    go_wp2_with fail
    go_ret
    exact ⟨_, rfl, Mod.refl _ _, .inl ⟨rfl, rfl⟩⟩
  · have hne : ((n : Int) == 0) = false := by simpa using h0
    have hne' : ¬ ((n : Int) = 0) := by omega
    obtain ⟨i0, hi, hz0, hz1, hz2⟩ := info_parts Try.rowinfo_Int
    have hmk := fun W => run_make (P := Try.prog) W 29 3 i0 (.int .i64 0) Try.underlying29 hi hz0 .i64 .i64 (n : Int) (n : Int) (by omega) (by omega) (by rw [hz2]; omega) (by omega)
    rw [hz1] at hmk
    simp only [Int.toNat_natCast] at hmk
    generalize hmc : madeCells (.int .i64 0 : Value).cells (n * 1) = mc at hmk
    have HSZ : Hid (mc.size = n * 1) := by rw [← hmc]; exact size_made _ _
    have HC := Lib.hid hc
    have H1 := Lib.hid h1
    have HL := Lib.hid hlen
    obtain ⟨a, rfl⟩ : ∃ a, oa = some a := by obtain ⟨a, e, _⟩ := hc 0 _ (List.getElem?_eq_getElem (show 0 < cs.length by omega)); exact ⟨a, e⟩
    clear hc h1 hlen hmc h0
    go_enter Try.func15, Try.ntmps15
    go_upto_region 4 with fail
    have B := Lib.hid (Blk.new w mc 3)
    have M := Lib.hid ((Mod.refl [] w).alloc (.cells mc 3))
    have HC2 := Lib.hid (fun j u (h : cs[j]? = some u) => by obtain ⟨a', e, h2⟩ := HC.out j u h; cases e; exact cell_stays M.out h2)
    have hcp := run_copy_new (P := Try.prog) (w.alloc (.cells mc 3)) 29 29 3 3 w.heap.size n n a cap 1 mc 3 cs Try.underlying29 Try.rowsize_Int B.out HL.out HSZ.out HC2.out H1.out
    have B2 := Lib.hid (setRow_blk B.out cs.toArray)
    have M2 := Lib.hid (setRow_mod M.out (Nat.le_refl _) cs.toArray)
    generalize (w.alloc (.cells mc 3)).setRow w.heap.size cs.toArray = w2 at *
    clear B M HC HC2 hmk
    go_wp2_with fail
    go_ret
    exact ⟨_, rfl, M2.out, .inr ⟨_, rfl, Nat.le_refl _, B2.out⟩⟩
theorem Try.rowinfo_Char : (Try.prog.info? 59).map (fun i => (i.zero, i.size, i.bytes)) = some (some (.agg #[.int .i64 0, .int .i64 0]), 2, 16) := by kernel_rfl
theorem Try.rowsize_Char : (Try.prog.info? 59).map (·.size) = some 2 := by kernel_rfl
set_option maxHeartbeats 1000000 in
theorem row_Char (oa : Option Addr) (n cap : Nat) (cs : List Value) (w : World) (hlen : cs.length = n * 2) (hc : ∀ j u, cs[j]? = some u → ∃ a : Addr, oa = some a ∧ w.cell? (a.add j) = some u) (h1 : ∀ u ∈ cs, u.oneCell' = true) (hn : n * 16 ≤ 140737488351232) :
    Calls Try.prog 11 #[.slice oa n cap] w (CopyRes w 59 cs n) := by
  by_cases h0 : n = 0
  · subst h0
    go_enter Try.func11, Try.ntmps11
    go_wp2_with fail
    go_ret
    exact ⟨_, rfl, Mod.refl _ _, .inl ⟨rfl, rfl⟩⟩
  · have hne : ((n : Int) == 0) = false := by simpa using h0
    have hne' : ¬ ((n : Int) = 0) := by omega
    obtain ⟨i0, hi, hz0, hz1, hz2⟩ := info_parts Try.rowinfo_Char
    have hmk := fun W => run_make (P := Try.prog) W 23 59 i0 (.agg #[.int .i64 0, .int .i64 0]) Try.underlying23 hi hz0 .i64 .i64 (n : Int) (n : Int) (by omega) (by omega) (by rw [hz2]; omega) (by omega)
    rw [hz1] at hmk
    simp only [Int.toNat_natCast] at hmk
    generalize hmc : madeCells (.agg #[.int .i64 0, .int .i64 0] : Value).cells (n * 2) = mc at hmk
    have HSZ : Hid (mc.size = n * 2) := by rw [← hmc]; exact size_made _ _
    have HC := Lib.hid hc
    have H1 := Lib.hid h1
    have HL := Lib.hid hlen
    obtain ⟨a, rfl⟩ : ∃ a, oa = some a := by obtain ⟨a, e, _⟩ := hc 0 _ (List.getElem?_eq_getElem (show 0 < cs.length by omega)); exact ⟨a, e⟩
    clear hc h1 hlen hmc h0
    go_enter Try.func11, Try.ntmps11
    go_upto_region 4 with fail
    have B := Lib.hid (Blk.new w mc 59)
    have M := Lib.hid ((Mod.refl [] w).alloc (.cells mc 59))
    have HC2 := Lib.hid (fun j u (h : cs[j]? = some u) => by obtain ⟨a', e, h2⟩ := HC.out j u h; cases e; exact cell_stays M.out h2)
    have hcp := run_copy_new (P := Try.prog) (w.alloc (.cells mc 59)) 23 23 3 59 w.heap.size n n a cap 2 mc 59 cs Try.underlying23 Try.rowsize_Char B.out HL.out HSZ.out HC2.out H1.out
    have B2 := Lib.hid (setRow_blk B.out cs.toArray)
    have M2 := Lib.hid (setRow_mod M.out (Nat.le_refl _) cs.toArray)
    generalize (w.alloc (.cells mc 59)).setRow w.heap.size cs.toArray = w2 at *
    clear B M HC HC2 hmk
    go_wp2_with fail
    go_ret
    exact ⟨_, rfl, M2.out, .inr ⟨_, rfl, Nat.le_refl _, B2.out⟩⟩
theorem Try.rowinfo_Call : (Try.prog.info? 107).map (fun i => (i.zero, i.size, i.bytes)) = some (some (.agg #[.int .i64 0, .int .i64 0]), 2, 16) := by kernel_rfl
theorem Try.rowsize_Call : (Try.prog.info? 107).map (·.size) = some 2 := by kernel_rfl
set_option maxHeartbeats 1000000 in
theorem row_Call (oa : Option Addr) (n cap : Nat) (cs : List Value) (w : World) (hlen : cs.length = n * 2) (hc : ∀ j u, cs[j]? = some u → ∃ a : Addr, oa = some a ∧ w.cell? (a.add j) = some u) (h1 : ∀ u ∈ cs, u.oneCell' = true) (hn : n * 16 ≤ 140737488351232) :
    Calls Try.prog 31 #[.slice oa n cap] w (CopyRes w 107 cs n) := by
  by_cases h0 : n = 0
  · subst h0
    go_enter Try.func31, Try.ntmps31
    go_wp2_with fail
    go_ret
    exact ⟨_, rfl, Mod.refl _ _, .inl ⟨rfl, rfl⟩⟩
  · have hne : ((n : Int) == 0) = false := by simpa using h0
    have hne' : ¬ ((n : Int) = 0) := by omega
    obtain ⟨i0, hi, hz0, hz1, hz2⟩ := info_parts Try.rowinfo_Call
    have hmk := fun W => run_make (P := Try.prog) W 101 107 i0 (.agg #[.int .i64 0, .int .i64 0]) Try.underlying101 hi hz0 .i64 .i64 (n : Int) (n : Int) (by omega) (by omega) (by rw [hz2]; omega) (by omega)
    rw [hz1] at hmk
    simp only [Int.toNat_natCast] at hmk
    generalize hmc : madeCells (.agg #[.int .i64 0, .int .i64 0] : Value).cells (n * 2) = mc at hmk
    have HSZ : Hid (mc.size = n * 2) := by rw [← hmc]; exact size_made _ _
    have HC := Lib.hid hc
    have H1 := Lib.hid h1
    have HL := Lib.hid hlen
    obtain ⟨a, rfl⟩ : ∃ a, oa = some a := by obtain ⟨a, e, _⟩ := hc 0 _ (List.getElem?_eq_getElem (show 0 < cs.length by omega)); exact ⟨a, e⟩
    clear hc h1 hlen hmc h0
    go_enter Try.func31, Try.ntmps31
    go_upto_region 4 with fail
    have B := Lib.hid (Blk.new w mc 107)
    have M := Lib.hid ((Mod.refl [] w).alloc (.cells mc 107))
    have HC2 := Lib.hid (fun j u (h : cs[j]? = some u) => by obtain ⟨a', e, h2⟩ := HC.out j u h; cases e; exact cell_stays M.out h2)
    have hcp := run_copy_new (P := Try.prog) (w.alloc (.cells mc 107)) 101 101 3 107 w.heap.size n n a cap 2 mc 107 cs Try.underlying101 Try.rowsize_Call B.out HL.out HSZ.out HC2.out H1.out
    have B2 := Lib.hid (setRow_blk B.out cs.toArray)
    have M2 := Lib.hid (setRow_mod M.out (Nat.le_refl _) cs.toArray)
    generalize (w.alloc (.cells mc 107)).setRow w.heap.size cs.toArray = w2 at *
    clear B M HC HC2 hmk
    go_wp2_with fail
    go_ret
    exact ⟨_, rfl, M2.out, .inr ⟨_, rfl, Nat.le_refl _, B2.out⟩⟩
theorem Try.rowinfo_Ins : (Try.prog.info? 64).map (fun i => (i.zero, i.size, i.bytes)) = some (some (.agg #[.int .i64 0, .int .i64 0]), 2, 16) := by kernel_rfl
theorem Try.rowsize_Ins : (Try.prog.info? 64).map (·.size) = some 2 := by kernel_rfl
set_option maxHeartbeats 1000000 in
theorem row_Ins (oa : Option Addr) (n cap : Nat) (cs : List Value) (w : World) (hlen : cs.length = n * 2) (hc : ∀ j u, cs[j]? = some u → ∃ a : Addr, oa = some a ∧ w.cell? (a.add j) = some u) (h1 : ∀ u ∈ cs, u.oneCell' = true) (hn : n * 16 ≤ 140737488351232) :
    Calls Try.prog 32 #[.slice oa n cap] w (CopyRes w 64 cs n) := by
  by_cases h0 : n = 0
  · subst h0
    go_enter Try.func32, Try.ntmps32
    go_wp2_with fail
    go_ret
    exact ⟨_, rfl, Mod.refl _ _, .inl ⟨rfl, rfl⟩⟩
  · have hne : ((n : Int) == 0) = false := by simpa using h0
    have hne' : ¬ ((n : Int) = 0) := by omega
    obtain ⟨i0, hi, hz0, hz1, hz2⟩ := info_parts Try.rowinfo_Ins
    have hmk := fun W => run_make (P := Try.prog) W 42 64 i0 (.agg #[.int .i64 0, .int .i64 0]) Try.underlying42 hi hz0 .i64 .i64 (n : Int) (n : Int) (by omega) (by omega) (by rw [hz2]; omega) (by omega)
    rw [hz1] at hmk
    simp only [Int.toNat_natCast] at hmk
    generalize hmc : madeCells (.agg #[.int .i64 0, .int .i64 0] : Value).cells (n * 2) = mc at hmk
    have HSZ : Hid (mc.size = n * 2) := by rw [← hmc]; exact size_made _ _
    have HC := Lib.hid hc
    have H1 := Lib.hid h1
    have HL := Lib.hid hlen
    obtain ⟨a, rfl⟩ : ∃ a, oa = some a := by obtain ⟨a, e, _⟩ := hc 0 _ (List.getElem?_eq_getElem (show 0 < cs.length by omega)); exact ⟨a, e⟩
    clear hc h1 hlen hmc h0
    go_enter Try.func32, Try.ntmps32
    go_upto_region 4 with fail
    have B := Lib.hid (Blk.new w mc 64)
    have M := Lib.hid ((Mod.refl [] w).alloc (.cells mc 64))
    have HC2 := Lib.hid (fun j u (h : cs[j]? = some u) => by obtain ⟨a', e, h2⟩ := HC.out j u h; cases e; exact cell_stays M.out h2)
    have hcp := run_copy_new (P := Try.prog) (w.alloc (.cells mc 64)) 42 42 3 64 w.heap.size n n a cap 2 mc 64 cs Try.underlying42 Try.rowsize_Ins B.out HL.out HSZ.out HC2.out H1.out
    have B2 := Lib.hid (setRow_blk B.out cs.toArray)
    have M2 := Lib.hid (setRow_mod M.out (Nat.le_refl _) cs.toArray)
    generalize (w.alloc (.cells mc 64)).setRow w.heap.size cs.toArray = w2 at *
    clear B M HC HC2 hmk
    go_wp2_with fail
    go_ret
    exact ⟨_, rfl, M2.out, .inr ⟨_, rfl, Nat.le_refl _, B2.out⟩⟩
theorem Try.rowinfo_Point : (Try.prog.info? 74).map (fun i => (i.zero, i.size, i.bytes)) = some (some (.agg #[.int .i64 0, .int .i64 0, .bool false]), 3, 24) := by kernel_rfl
theorem Try.rowsize_Point : (Try.prog.info? 74).map (·.size) = some 3 := by kernel_rfl
set_option maxHeartbeats 1000000 in
theorem row_Point (oa : Option Addr) (n cap : Nat) (cs : List Value) (w : World) (hlen : cs.length = n * 3) (hc : ∀ j u, cs[j]? = some u → ∃ a : Addr, oa = some a ∧ w.cell? (a.add j) = some u) (h1 : ∀ u ∈ cs, u.oneCell' = true) (hn : n * 24 ≤ 140737488351232) :
    Calls Try.prog 40 #[.slice oa n cap] w (CopyRes w 74 cs n) := by
  by_cases h0 : n = 0
  · subst h0
    go_enter Try.func40, Try.ntmps40
    go_wp2_with fail
    go_ret
    exact ⟨_, rfl, Mod.refl _ _, .inl ⟨rfl, rfl⟩⟩
  · have hne : ((n : Int) == 0) = false := by simpa using h0
    have hne' : ¬ ((n : Int) = 0) := by omega
    obtain ⟨i0, hi, hz0, hz1, hz2⟩ := info_parts Try.rowinfo_Point
    have hmk := fun W => run_make (P := Try.prog) W 36 74 i0 (.agg #[.int .i64 0, .int .i64 0, .bool false]) Try.underlying36 hi hz0 .i64 .i64 (n : Int) (n : Int) (by omega) (by omega) (by rw [hz2]; omega) (by omega)
    rw [hz1] at hmk
    simp only [Int.toNat_natCast] at hmk
    generalize hmc : madeCells (.agg #[.int .i64 0, .int .i64 0, .bool false] : Value).cells (n * 3) = mc at hmk
    have HSZ : Hid (mc.size = n * 3) := by rw [← hmc]; exact size_made _ _
    have HC := Lib.hid hc
    have H1 := Lib.hid h1
    have HL := Lib.hid hlen
    obtain ⟨a, rfl⟩ : ∃ a, oa = some a := by obtain ⟨a, e, _⟩ := hc 0 _ (List.getElem?_eq_getElem (show 0 < cs.length by omega)); exact ⟨a, e⟩
    clear hc h1 hlen hmc h0
    go_enter Try.func40, Try.ntmps40
    go_upto_region 4 with fail
    have B := Lib.hid (Blk.new w mc 74)
    have M := Lib.hid ((Mod.refl [] w).alloc (.cells mc 74))
    have HC2 := Lib.hid (fun j u (h : cs[j]? = some u) => by obtain ⟨a', e, h2⟩ := HC.out j u h; cases e; exact cell_stays M.out h2)
    have hcp := run_copy_new (P := Try.prog) (w.alloc (.cells mc 74)) 36 36 3 74 w.heap.size n n a cap 3 mc 74 cs Try.underlying36 Try.rowsize_Point B.out HL.out HSZ.out HC2.out H1.out
    have B2 := Lib.hid (setRow_blk B.out cs.toArray)
    have M2 := Lib.hid (setRow_mod M.out (Nat.le_refl _) cs.toArray)
    generalize (w.alloc (.cells mc 74)).setRow w.heap.size cs.toArray = w2 at *
    clear B M HC HC2 hmk
    go_wp2_with fail
    go_ret
    exact ⟨_, rfl, M2.out, .inr ⟨_, rfl, Nat.le_refl _, B2.out⟩⟩
theorem Try.rowinfo_Part : (Try.prog.info? 79).map (fun i => (i.zero, i.size, i.bytes)) = some (some (.agg #[.int .i64 0, .int .i64 0, .int .i64 0]), 3, 24) := by kernel_rfl
theorem Try.rowsize_Part : (Try.prog.info? 79).map (·.size) = some 3 := by kernel_rfl
set_option maxHeartbeats 1000000 in
theorem row_Part (oa : Option Addr) (n cap : Nat) (cs : List Value) (w : World) (hlen : cs.length = n * 3) (hc : ∀ j u, cs[j]? = some u → ∃ a : Addr, oa = some a ∧ w.cell? (a.add j) = some u) (h1 : ∀ u ∈ cs, u.oneCell' = true) (hn : n * 24 ≤ 140737488351232) :
    Calls Try.prog 41 #[.slice oa n cap] w (CopyRes w 79 cs n) := by
  by_cases h0 : n = 0
  · subst h0
    go_enter Try.func41, Try.ntmps41
    go_wp2_with fail
    go_ret
    exact ⟨_, rfl, Mod.refl _ _, .inl ⟨rfl, rfl⟩⟩
  · have hne : ((n : Int) == 0) = false := by simpa using h0
    have hne' : ¬ ((n : Int) = 0) := by omega
    obtain ⟨i0, hi, hz0, hz1, hz2⟩ := info_parts Try.rowinfo_Part
    have hmk := fun W => run_make (P := Try.prog) W 39 79 i0 (.agg #[.int .i64 0, .int .i64 0, .int .i64 0]) Try.underlying39 hi hz0 .i64 .i64 (n : Int) (n : Int) (by omega) (by omega) (by rw [hz2]; omega) (by omega)
    rw [hz1] at hmk
    simp only [Int.toNat_natCast] at hmk
    generalize hmc : madeCells (.agg #[.int .i64 0, .int .i64 0, .int .i64 0] : Value).cells (n * 3) = mc at hmk
    have HSZ : Hid (mc.size = n * 3) := by rw [← hmc]; exact size_made _ _
    have HC := Lib.hid hc
    have H1 := Lib.hid h1
    have HL := Lib.hid hlen
    obtain ⟨a, rfl⟩ : ∃ a, oa = some a := by obtain ⟨a, e, _⟩ := hc 0 _ (List.getElem?_eq_getElem (show 0 < cs.length by omega)); exact ⟨a, e⟩
    clear hc h1 hlen hmc h0
    go_enter Try.func41, Try.ntmps41
    go_upto_region 4 with fail
    have B := Lib.hid (Blk.new w mc 79)
    have M := Lib.hid ((Mod.refl [] w).alloc (.cells mc 79))
    have HC2 := Lib.hid (fun j u (h : cs[j]? = some u) => by obtain ⟨a', e, h2⟩ := HC.out j u h; cases e; exact cell_stays M.out h2)
    have hcp := run_copy_new (P := Try.prog) (w.alloc (.cells mc 79)) 39 39 3 79 w.heap.size n n a cap 3 mc 79 cs Try.underlying39 Try.rowsize_Part B.out HL.out HSZ.out HC2.out H1.out
    have B2 := Lib.hid (setRow_blk B.out cs.toArray)
    have M2 := Lib.hid (setRow_mod M.out (Nat.le_refl _) cs.toArray)
    generalize (w.alloc (.cells mc 79)).setRow w.heap.size cs.toArray = w2 at *
    clear B M HC HC2 hmk
    go_wp2_with fail
    go_ret
    exact ⟨_, rfl, M2.out, .inr ⟨_, rfl, Nat.le_refl _, B2.out⟩⟩
theorem Try.rowinfo_Anchor : (Try.prog.info? 81).map (fun i => (i.zero, i.size, i.bytes)) = some (some (.agg #[.int .i64 0, .int .i64 0, .int .i64 0, .int .i64 0]), 4, 32) := by kernel_rfl
theorem Try.rowsize_Anchor : (Try.prog.info? 81).map (·.size) = some 4 := by kernel_rfl
set_option maxHeartbeats 1000000 in
theorem row_Anchor (oa : Option Addr) (n cap : Nat) (cs : List Value) (w : World) (hlen : cs.length = n * 4) (hc : ∀ j u, cs[j]? = some u → ∃ a : Addr, oa = some a ∧ w.cell? (a.add j) = some u) (h1 : ∀ u ∈ cs, u.oneCell' = true) (hn : n * 32 ≤ 140737488351232) :
    Calls Try.prog 42 #[.slice oa n cap] w (CopyRes w 81 cs n) := by
  by_cases h0 : n = 0
  · subst h0
    go_enter Try.func42, Try.ntmps42
    go_wp2_with fail
    go_ret
    exact ⟨_, rfl, Mod.refl _ _, .inl ⟨rfl, rfl⟩⟩
  · have hne : ((n : Int) == 0) = false := by simpa using h0
    have hne' : ¬ ((n : Int) = 0) := by omega
    obtain ⟨i0, hi, hz0, hz1, hz2⟩ := info_parts Try.rowinfo_Anchor
    have hmk := fun W => run_make (P := Try.prog) W 40 81 i0 (.agg #[.int .i64 0, .int .i64 0, .int .i64 0, .int .i64 0]) Try.underlying40 hi hz0 .i64 .i64 (n : Int) (n : Int) (by omega) (by omega) (by rw [hz2]; omega) (by omega)
    rw [hz1] at hmk
    simp only [Int.toNat_natCast] at hmk
    generalize hmc : madeCells (.agg #[.int .i64 0, .int .i64 0, .int .i64 0, .int .i64 0] : Value).cells (n * 4) = mc at hmk
    have HSZ : Hid (mc.size = n * 4) := by rw [← hmc]; exact size_made _ _
    have HC := Lib.hid hc
    have H1 := Lib.hid h1
    have HL := Lib.hid hlen
    obtain ⟨a, rfl⟩ : ∃ a, oa = some a := by obtain ⟨a, e, _⟩ := hc 0 _ (List.getElem?_eq_getElem (show 0 < cs.length by omega)); exact ⟨a, e⟩
    clear hc h1 hlen hmc h0
    go_enter Try.func42, Try.ntmps42
    go_upto_region 4 with fail
    have B := Lib.hid (Blk.new w mc 81)
    have M := Lib.hid ((Mod.refl [] w).alloc (.cells mc 81))
    have HC2 := Lib.hid (fun j u (h : cs[j]? = some u) => by obtain ⟨a', e, h2⟩ := HC.out j u h; cases e; exact cell_stays M.out h2)
    have hcp := run_copy_new (P := Try.prog) (w.alloc (.cells mc 81)) 40 40 3 81 w.heap.size n n a cap 4 mc 81 cs Try.underlying40 Try.rowsize_Anchor B.out HL.out HSZ.out HC2.out H1.out
    have B2 := Lib.hid (setRow_blk B.out cs.toArray)
    have M2 := Lib.hid (setRow_mod M.out (Nat.le_refl _) cs.toArray)
    generalize (w.alloc (.cells mc 81)).setRow w.heap.size cs.toArray = w2 at *
    clear B M HC HC2 hmk
    go_wp2_with fail
    go_ret
    exact ⟨_, rfl, M2.out, .inr ⟨_, rfl, Nat.le_refl _, B2.out⟩⟩
def encInt (x : Int) : List Value := [.int .i64 x]
theorem encInt_len (x : Int) : (encInt x).length = 1 := rfl
theorem encInt_of (B : Nat) (w : World) (cs : List Value) (x : Int) (h : RInt B w cs x) : cs = encInt x := h.1
theorem encInt_to (B B' : Nat) (w w' : World) (cs : List Value) (x : Int) (h : RInt B w cs x) : RInt B' w' (encInt x) x := ⟨rfl, h.2⟩
theorem encInt_one (l : List Int) : ∀ u ∈ l.flatMap encInt, u.oneCell' = true := by
  intro u hu
  obtain ⟨x, _, hx⟩ := List.mem_flatMap.1 hu
  simp only [encInt, List.mem_cons, List.not_mem_nil, or_false] at hx
  rcases hx with rfl <;> rfl
theorem copy_Int (v : Value) (l : List Int) (B : Nat) (w : World) (h : Rows 1 RInt B w v l) (hl : l.length * 8 ≤ 140737488351232) : Calls Try.prog 15 #[v] w (CopyRes w 3 (l.flatMap encInt) l.length) := by
  obtain ⟨oa, cap, rfl, hm⟩ := h.form
  obtain ⟨_, _, hc⟩ := rows_flat encInt_len encInt_of h
  exact row_Int oa l.length cap _ w (flat_length encInt_len l) hc (encInt_one l) hl
theorem copied_Int {w0 w w' : World} {v : Value} {l : List Int} {B : Nat} {e : Ending} (h : Rows 1 RInt B w0 v l) (c : CopyRes w 3 (l.flatMap encInt) l.length e w') : ∃ u, e = .returned u ∧ Mod [] w w' ∧ Rows 1 RInt w.heap.size w' u l := by
  obtain ⟨u, he, m, hu⟩ := c
  refine ⟨u, he, m, ?_⟩
  obtain ⟨oa, cap, _, hm, hr⟩ := h
  rcases hu with ⟨h0, rfl⟩ | ⟨b, rfl, hb, B⟩
  · obtain rfl := List.eq_nil_of_length_eq_zero h0
    exact Rows.nil _
  · exact rows_blk encInt_len hm (fun x hx => by
      obtain ⟨i, hi, rfl⟩ := List.getElem_of_mem hx
      obtain ⟨_, _, _, cs, _, _, hr⟩ := hr i hi
      exact encInt_to _ _ _ _ _ _ hr) hb B (by rw [← flat_length encInt_len, List.take_length])
theorem fcopy_Int (v : Value) (l : List Int) (B B0 : Nat) (w : World) (h : Rows 1 RInt B w v l) (hl : l.length * 8 ≤ 140737488351232) (hB : B0 ≤ w.heap.size) : Calls Try.prog 15 #[v] w fun e w' => ∃ u, e = .returned u ∧ FRows 1 RInt B0 l u w' ∧ Mod [] w w' :=
  (copy_Int v l B w h hl).mono fun e w' c => by
    obtain ⟨u, he, m, hr⟩ := copied_Int h c
    exact ⟨u, he, hr.lower RInt.lower hB, m⟩
def encChar (x : DChar) : List Value := [.int .i64 x.rune, .int .i64 x.glyph]
theorem encChar_len (x : DChar) : (encChar x).length = 2 := rfl
theorem encChar_of (B : Nat) (w : World) (cs : List Value) (x : DChar) (h : RChar B w cs x) : cs = encChar x := h.1
theorem encChar_to (B B' : Nat) (w w' : World) (cs : List Value) (x : DChar) (h : RChar B w cs x) : RChar B' w' (encChar x) x := ⟨rfl, h.2⟩
theorem encChar_one (l : List DChar) : ∀ u ∈ l.flatMap encChar, u.oneCell' = true := by
  intro u hu
  obtain ⟨x, _, hx⟩ := List.mem_flatMap.1 hu
  simp only [encChar, List.mem_cons, List.not_mem_nil, or_false] at hx
  rcases hx with rfl | rfl <;> rfl
theorem copy_Char (v : Value) (l : List DChar) (B : Nat) (w : World) (h : Rows 2 RChar B w v l) (hl : l.length * 16 ≤ 140737488351232) : Calls Try.prog 11 #[v] w (CopyRes w 59 (l.flatMap encChar) l.length) := by
  obtain ⟨oa, cap, rfl, hm⟩ := h.form
  obtain ⟨_, _, hc⟩ := rows_flat encChar_len encChar_of h
  exact row_Char oa l.length cap _ w (flat_length encChar_len l) hc (encChar_one l) hl
theorem copied_Char {w0 w w' : World} {v : Value} {l : List DChar} {B : Nat} {e : Ending} (h : Rows 2 RChar B w0 v l) (c : CopyRes w 59 (l.flatMap encChar) l.length e w') : ∃ u, e = .returned u ∧ Mod [] w w' ∧ Rows 2 RChar w.heap.size w' u l := by
  obtain ⟨u, he, m, hu⟩ := c
  refine ⟨u, he, m, ?_⟩
  obtain ⟨oa, cap, _, hm, hr⟩ := h
  rcases hu with ⟨h0, rfl⟩ | ⟨b, rfl, hb, B⟩
  · obtain rfl := List.eq_nil_of_length_eq_zero h0
    exact Rows.nil _
  · exact rows_blk encChar_len hm (fun x hx => by
      obtain ⟨i, hi, rfl⟩ := List.getElem_of_mem hx
      obtain ⟨_, _, _, cs, _, _, hr⟩ := hr i hi
      exact encChar_to _ _ _ _ _ _ hr) hb B (by rw [← flat_length encChar_len, List.take_length])
def encCall (x : DCall) : List Value := [.int .i64 x.pos, .int .i64 x.lookup]
theorem encCall_len (x : DCall) : (encCall x).length = 2 := rfl
theorem encCall_of (B : Nat) (w : World) (cs : List Value) (x : DCall) (h : RCall B w cs x) : cs = encCall x := h.1
theorem encCall_to (B B' : Nat) (w w' : World) (cs : List Value) (x : DCall) (h : RCall B w cs x) : RCall B' w' (encCall x) x := ⟨rfl, h.2⟩
theorem encCall_one (l : List DCall) : ∀ u ∈ l.flatMap encCall, u.oneCell' = true := by
  intro u hu
  obtain ⟨x, _, hx⟩ := List.mem_flatMap.1 hu
  simp only [encCall, List.mem_cons, List.not_mem_nil, or_false] at hx
  rcases hx with rfl | rfl <;> rfl
theorem copy_Call (v : Value) (l : List DCall) (B : Nat) (w : World) (h : Rows 2 RCall B w v l) (hl : l.length * 16 ≤ 140737488351232) : Calls Try.prog 31 #[v] w (CopyRes w 107 (l.flatMap encCall) l.length) := by
  obtain ⟨oa, cap, rfl, hm⟩ := h.form
  obtain ⟨_, _, hc⟩ := rows_flat encCall_len encCall_of h
  exact row_Call oa l.length cap _ w (flat_length encCall_len l) hc (encCall_one l) hl
theorem copied_Call {w0 w w' : World} {v : Value} {l : List DCall} {B : Nat} {e : Ending} (h : Rows 2 RCall B w0 v l) (c : CopyRes w 107 (l.flatMap encCall) l.length e w') : ∃ u, e = .returned u ∧ Mod [] w w' ∧ Rows 2 RCall w.heap.size w' u l := by
  obtain ⟨u, he, m, hu⟩ := c
  refine ⟨u, he, m, ?_⟩
  obtain ⟨oa, cap, _, hm, hr⟩ := h
  rcases hu with ⟨h0, rfl⟩ | ⟨b, rfl, hb, B⟩
  · obtain rfl := List.eq_nil_of_length_eq_zero h0
    exact Rows.nil _
  · exact rows_blk encCall_len hm (fun x hx => by
      obtain ⟨i, hi, rfl⟩ := List.getElem_of_mem hx
      obtain ⟨_, _, _, cs, _, _, hr⟩ := hr i hi
      exact encCall_to _ _ _ _ _ _ hr) hb B (by rw [← flat_length encCall_len, List.take_length])
theorem fcopy_Call (v : Value) (l : List DCall) (B B0 : Nat) (w : World) (h : Rows 2 RCall B w v l) (hl : l.length * 16 ≤ 140737488351232) (hB : B0 ≤ w.heap.size) : Calls Try.prog 31 #[v] w fun e w' => ∃ u, e = .returned u ∧ FRows 2 RCall B0 l u w' ∧ Mod [] w w' :=
  (copy_Call v l B w h hl).mono fun e w' c => by
    obtain ⟨u, he, m, hr⟩ := copied_Call h c
    exact ⟨u, he, hr.lower RCall.lower hB, m⟩
def encIns (x : DIns) : List Value := [.int .i64 x.op, .int .i64 x.a]
theorem encIns_len (x : DIns) : (encIns x).length = 2 := rfl
theorem encIns_of (B : Nat) (w : World) (cs : List Value) (x : DIns) (h : RIns B w cs x) : cs = encIns x := h.1
theorem encIns_to (B B' : Nat) (w w' : World) (cs : List Value) (x : DIns) (h : RIns B w cs x) : RIns B' w' (encIns x) x := ⟨rfl, h.2⟩
theorem encIns_one (l : List DIns) : ∀ u ∈ l.flatMap encIns, u.oneCell' = true := by
  intro u hu
  obtain ⟨x, _, hx⟩ := List.mem_flatMap.1 hu
  simp only [encIns, List.mem_cons, List.not_mem_nil, or_false] at hx
  rcases hx with rfl | rfl <;> rfl
theorem copy_Ins (v : Value) (l : List DIns) (B : Nat) (w : World) (h : Rows 2 RIns B w v l) (hl : l.length * 16 ≤ 140737488351232) : Calls Try.prog 32 #[v] w (CopyRes w 64 (l.flatMap encIns) l.length) := by
  obtain ⟨oa, cap, rfl, hm⟩ := h.form
  obtain ⟨_, _, hc⟩ := rows_flat encIns_len encIns_of h
  exact row_Ins oa l.length cap _ w (flat_length encIns_len l) hc (encIns_one l) hl
theorem copied_Ins {w0 w w' : World} {v : Value} {l : List DIns} {B : Nat} {e : Ending} (h : Rows 2 RIns B w0 v l) (c : CopyRes w 64 (l.flatMap encIns) l.length e w') : ∃ u, e = .returned u ∧ Mod [] w w' ∧ Rows 2 RIns w.heap.size w' u l := by
  obtain ⟨u, he, m, hu⟩ := c
  refine ⟨u, he, m, ?_⟩
  obtain ⟨oa, cap, _, hm, hr⟩ := h
  rcases hu with ⟨h0, rfl⟩ | ⟨b, rfl, hb, B⟩
  · obtain rfl := List.eq_nil_of_length_eq_zero h0
    exact Rows.nil _
  · exact rows_blk encIns_len hm (fun x hx => by
      obtain ⟨i, hi, rfl⟩ := List.getElem_of_mem hx
      obtain ⟨_, _, _, cs, _, _, hr⟩ := hr i hi
      exact encIns_to _ _ _ _ _ _ hr) hb B (by rw [← flat_length encIns_len, List.take_length])
def encPoint (x : DPoint) : List Value := [.int .i64 x.x, .int .i64 x.y, .bool x.on]
theorem encPoint_len (x : DPoint) : (encPoint x).length = 3 := rfl
theorem encPoint_of (B : Nat) (w : World) (cs : List Value) (x : DPoint) (h : RPoint B w cs x) : cs = encPoint x := h.1
theorem encPoint_to (B B' : Nat) (w w' : World) (cs : List Value) (x : DPoint) (h : RPoint B w cs x) : RPoint B' w' (encPoint x) x := ⟨rfl, h.2⟩
theorem encPoint_one (l : List DPoint) : ∀ u ∈ l.flatMap encPoint, u.oneCell' = true := by
  intro u hu
  obtain ⟨x, _, hx⟩ := List.mem_flatMap.1 hu
  simp only [encPoint, List.mem_cons, List.not_mem_nil, or_false] at hx
  rcases hx with rfl | rfl | rfl <;> rfl
theorem copy_Point (v : Value) (l : List DPoint) (B : Nat) (w : World) (h : Rows 3 RPoint B w v l) (hl : l.length * 24 ≤ 140737488351232) : Calls Try.prog 40 #[v] w (CopyRes w 74 (l.flatMap encPoint) l.length) := by
  obtain ⟨oa, cap, rfl, hm⟩ := h.form
  obtain ⟨_, _, hc⟩ := rows_flat encPoint_len encPoint_of h
  exact row_Point oa l.length cap _ w (flat_length encPoint_len l) hc (encPoint_one l) hl
def encPart (x : DPart) : List Value := [.int .i64 x.glyph, .int .i64 x.x, .int .i64 x.y]
theorem encPart_len (x : DPart) : (encPart x).length = 3 := rfl
theorem encPart_of (B : Nat) (w : World) (cs : List Value) (x : DPart) (h : RPart B w cs x) : cs = encPart x := h.1
theorem encPart_to (B B' : Nat) (w w' : World) (cs : List Value) (x : DPart) (h : RPart B w cs x) : RPart B' w' (encPart x) x := ⟨rfl, h.2⟩
theorem encPart_one (l : List DPart) : ∀ u ∈ l.flatMap encPart, u.oneCell' = true := by
  intro u hu
  obtain ⟨x, _, hx⟩ := List.mem_flatMap.1 hu
  simp only [encPart, List.mem_cons, List.not_mem_nil, or_false] at hx
  rcases hx with rfl | rfl | rfl <;> rfl
theorem copy_Part (v : Value) (l : List DPart) (B : Nat) (w : World) (h : Rows 3 RPart B w v l) (hl : l.length * 24 ≤ 140737488351232) : Calls Try.prog 41 #[v] w (CopyRes w 79 (l.flatMap encPart) l.length) := by
  obtain ⟨oa, cap, rfl, hm⟩ := h.form
  obtain ⟨_, _, hc⟩ := rows_flat encPart_len encPart_of h
  exact row_Part oa l.length cap _ w (flat_length encPart_len l) hc (encPart_one l) hl
def encAnchor (x : DAnchor) : List Value := [.int .i64 x.kind, .int .i64 x.cls, .int .i64 x.x, .int .i64 x.y]
theorem encAnchor_len (x : DAnchor) : (encAnchor x).length = 4 := rfl
theorem encAnchor_of (B : Nat) (w : World) (cs : List Value) (x : DAnchor) (h : RAnchor B w cs x) : cs = encAnchor x := h.1
theorem encAnchor_to (B B' : Nat) (w w' : World) (cs : List Value) (x : DAnchor) (h : RAnchor B w cs x) : RAnchor B' w' (encAnchor x) x := ⟨rfl, h.2⟩
theorem encAnchor_one (l : List DAnchor) : ∀ u ∈ l.flatMap encAnchor, u.oneCell' = true := by
  intro u hu
  obtain ⟨x, _, hx⟩ := List.mem_flatMap.1 hu
  simp only [encAnchor, List.mem_cons, List.not_mem_nil, or_false] at hx
  rcases hx with rfl | rfl | rfl | rfl <;> rfl
theorem copy_Anchor (v : Value) (l : List DAnchor) (B : Nat) (w : World) (h : Rows 4 RAnchor B w v l) (hl : l.length * 32 ≤ 140737488351232) : Calls Try.prog 42 #[v] w (CopyRes w 81 (l.flatMap encAnchor) l.length) := by
  obtain ⟨oa, cap, rfl, hm⟩ := h.form
  obtain ⟨_, _, hc⟩ := rows_flat encAnchor_len encAnchor_of h
  exact row_Anchor oa l.length cap _ w (flat_length encAnchor_len l) hc (encAnchor_one l) hl
end Go.Proofs.Ytaloembfekdkoaa
