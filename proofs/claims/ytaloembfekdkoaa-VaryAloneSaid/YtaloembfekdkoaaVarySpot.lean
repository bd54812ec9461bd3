/- vary: a place, and how much its regions count there. -/
import Derived.Test.YtaloembfekdkoaaVaryFactor2
import Derived.Test.YtaloembfekdkoaaIntMap
import Derived.Test.YtaloembfekdkoaaGNorm
namespace Go.Proofs.Ytaloembfekdkoaa
open Go.RowKit
set_option linter.unusedVariables false
set_option maxRecDepth 100000
theorem Try.und_FMap : Try.prog.underlying 53 = some (.map 3 68) := by kernel_rfl
theorem Try.zero_Ratio (w : World) : (zeroValue 68).run Try.prog w = .ok (.agg #[.int .i64 0, .int .i64 0]) w := by kernel_rfl
def ratV (x : Int × Int) : Value := .agg #[.int .i64 x.1, .int .i64 x.2]
def FacMap (w : World) (fb : Nat) (regs : List DRegion) (xs : List (Int × Int)) : Prop :=
  ∃ m, IMap w fb m ∧ ∀ p ∈ m, ∃ i : Nat, ∃ h : i < regs.length, p.1 = (i : Int) ∧ p.2 = ratV (Vr.factorR (regs[i]).tents xs)
theorem FacMap.mod {w w' : World} {fb : Nat} {regs : List DRegion} {xs : List (Int × Int)} (h : FacMap w fb regs xs) (m : Mod [] w w') : FacMap w' fb regs xs := by
  obtain ⟨q, h1, h2⟩ := h
  exact ⟨q, h1.mod m, h2⟩
theorem FacMap.of {w w' : World} {fb : Nat} {regs : List DRegion} {xs : List (Int × Int)} (h : FacMap w fb regs xs) (m : w'.heap[fb]? = w.heap[fb]?) : FacMap w' fb regs xs := by
  obtain ⟨q, h1, h2⟩ := h
  exact ⟨q, h1.of m, h2⟩
def spotCells (u : Int) (g c l fe ax rg fu cv at' : Hd) (fb : Nat) : Array Value := #[.int .i64 u, .slice g.a g.n g.c, .slice c.a c.n c.c, .slice l.a l.n l.c, .slice fe.a fe.n fe.c, .slice ax.a ax.n ax.c, .slice rg.a rg.n rg.c, .slice fu.a fu.n fu.c, .slice cv.a cv.n cv.c, .slice at'.a at'.n at'.c, .map (some fb)]
theorem look_fac {m : List (Int × Value)} {regs : List DRegion} {xs : List (Int × Int)} (h : ∀ p ∈ m, ∃ i : Nat, ∃ h : i < regs.length, p.1 = (i : Int) ∧ p.2 = ratV (Vr.factorR (regs[i]).tents xs)) {i : Nat} (hi : i < regs.length) {v : Value} (hv : lookM m (i : Int) = some v) : v = ratV (Vr.factorR (regs[i]).tents xs) := by
  unfold lookM at hv
  cases hf : m.find? (fun p => p.1 == (i : Int)) with
  | none => rw [hf] at hv; cases hv
  | some p =>
    rw [hf] at hv
    simp only [Option.map_some, Option.some.injEq] at hv
    have h1 := List.find?_some hf
    have h2 := List.mem_of_find?_eq_some hf
    obtain ⟨k, hk, e1, e2⟩ := h p h2
    have : k = i := by have : (k : Int) = (i : Int) := by rw [← e1]; simpa using h1
                       omega
    subst this
    rw [← hv, e2]
theorem put_fac {m : List (Int × Value)} {regs : List DRegion} {xs : List (Int × Int)} (h : ∀ p ∈ m, ∃ i : Nat, ∃ h : i < regs.length, p.1 = (i : Int) ∧ p.2 = ratV (Vr.factorR (regs[i]).tents xs)) {i : Nat} (hi : i < regs.length) :
    ∀ p ∈ putM m (i : Int) (ratV (Vr.factorR (regs[i]).tents xs)), ∃ i : Nat, ∃ h : i < regs.length, p.1 = (i : Int) ∧ p.2 = ratV (Vr.factorR (regs[i]).tents xs) := by
  intro p hp
  unfold putM at hp
  split at hp
  · obtain ⟨q, hq, rfl⟩ := List.mem_map.1 hp
    split
    · exact ⟨i, hi, rfl, rfl⟩
    · exact h q hq
  · rcases List.mem_append.1 hp with hp | hp
    · exact h p hp
    · obtain rfl := List.mem_singleton.1 hp
      exact ⟨i, hi, rfl, rfl⟩
set_option maxHeartbeats 4000000 in
theorem sfactor_any (u : Int) (g c l fe ax rg fu cv at' : Hd) (fb : Nat) (regs : List DRegion) (xs : List (Int × Int)) (B B2 : Nat) (w0 w : World) (hm : Mod [] w0 w) (hfb : w0.heap.size ≤ fb) (i : Nat) (hi : i < regs.length)
    (hR : Rows 1 RRegion B w0 (.slice rg.a rg.n rg.c) regs) (hX : Rows 2 RRat B2 w (.slice at'.a at'.n at'.c) xs) (hF : FacMap w fb regs xs) :
    Calls Try.prog 43 #[.agg (spotCells u g c l fe ax rg fu cv at' fb), .int .i64 (i : Int)] w fun e w' => e = .returned (ratV (Vr.factorR (regs[i]).tents xs)) ∧ Mod [fb] w w' ∧ FacMap w' fb regs xs := by
  obtain ⟨rga, rgn, rgc⟩ := rg
  obtain ⟨ata, atn, atc⟩ := at'
  simp only at hR hX
  obtain ⟨m, hM, hmm⟩ := hF
  have hrn : rgn = regs.length := by obtain ⟨oa, cap, he, _⟩ := hR; cases he; rfl
  have han : atn = xs.length := by obtain ⟨oa, cap, he, _⟩ := hX; cases he; rfl
  subst hrn han
  have hfl : fb < w.heap.size := hM.lt
  have T := Lib.hid (own2 w (spotCells u g c l fe ax ⟨rga, regs.length, rgc⟩ fu cv ⟨ata, xs.length, atc⟩ fb) 55 #[.int .i64 0, .int .i64 0] 68)
  obtain ⟨a, rfl, -, cs, -, hc0, -, tv, rfl, hTr⟩ := (hR.mod RRegion.stay hm).at i hi
  have c0 := hc0 (by decide)
  simp only [List.getElem?_cons_zero] at c0
  rw [Nat.mul_one] at c0
  have hi0 : (0 : Int) ≤ (i : Int) := by omega
  have hi1 : (i : Int) < (regs.length : Int) := by omega
  have HF := Lib.hid (fun W (mW : Mod [] w W) => factor_any (regs[i]).tents xs tv (.slice ata xs.length atc) B B2 W (hTr.mod RTent.stay mW) (hX.mod RRat.stay mW))
  have HMM := Lib.hid (And.intro hmm hi)
  have hL : ∀ W, Mod [] w W → (Instr.lookup 53 (.map (some fb)) (.int .i64 (i : Int)) true).run Try.prog W = .ok (.tuple #[(lookM m (i : Int)).getD (.agg #[.int .i64 0, .int .i64 0]), .bool (lookM m (i : Int)).isSome]) W := fun W mW => run_look (hM.mod mW) Try.und_FMap Try.underlying3 (Try.zero_Ratio W) (i : Int) true
  obtain ⟨ta, tc, rfl, -⟩ := hTr.form
  unfold spotCells at T ⊢
  unfold ratV
  simp only at T ⊢
  cases hlk : lookM m (i : Int) with
  | some v =>
    have hv := look_fac hmm hi hlk
    rw [hlk, hv] at hL
    unfold ratV at hL
    simp only [Option.getD_some, Option.isSome_some] at hL
    generalize Vr.factorR (regs[i]).tents xs = fr at *
    obtain ⟨fa, fb'⟩ := fr
    simp only at hL HF
    have HM := Lib.hid (And.intro hM hmm)
    clear hM hmm hm hR hX hTr hc0 hlk hv
    go_enter Try.func43, Try.ntmps43
    go_upto_region 1 with fail
    have hL1 := hL _ T.out.mod
    generalize (w.alloc (.cells #[.int .i64 u, .slice g.a g.n g.c, .slice c.a c.n c.c, .slice l.a l.n l.c, .slice fe.a fe.n fe.c, .slice ax.a ax.n ax.c, .slice (some a) regs.length rgc, .slice fu.a fu.n fu.c, .slice cv.a cv.n cv.c, .slice ata xs.length atc, .map (some fb)] 55)).alloc (.cells #[.int .i64 0, .int .i64 0] 68) = W0 at *
    have p10 : W0.cell? ⟨w.heap.size, 10, none⟩ = some (.map (some fb)) := by rw [(T.out.at 0 rfl).cell]; rfl
    have T2 := Lib.hid (T.out.alloc #[.int .i64 fa, .int .i64 fb'] 68)
    go_upto_region 2 with fail
    generalize W0.alloc (.cells #[.int .i64 fa, .int .i64 fb'] 68) = W2 at *
    generalize W0.heap.size = b5 at *
    clear T p10 hL1 hL HF c0
    obtain ⟨q0, q1, z0, z1⟩ := (T2.out.at 1 rfl).two
    obtain ⟨p0, p1, -, -⟩ := (T2.out.at 2 rfl).two
    go_wp2_with fail
    obtain ⟨r0, r1, M⟩ := told_end T2.out 1 rfl (.int .i64 fa) (.int .i64 fb')
    have HMd := Lib.hid M
    clear M p0 p1 q0 q1 z0 z1
    generalize (W2.setCell ⟨w.heap.size + 1, 0, none⟩ (.int .i64 fa)).setCell ⟨w.heap.size + 1, 1, none⟩ (.int .i64 fb') = W9 at *
    exact bodyPost_ret (v := .agg #[.int .i64 fa, .int .i64 fb']) (by simp [results, Try.results43, go_sem, r0, r1]) rfl ⟨rfl, HMd.out.more (by simp), (FacMap.mod ⟨m, HM.out.1, HM.out.2⟩ HMd.out)⟩
  | none =>
    rw [hlk] at hL
    simp only [Option.getD_none, Option.isSome_none] at hL
    have HPF := Lib.hid (put_fac hmm hi)
    unfold ratV at HPF
    generalize Vr.factorR (regs[i]).tents xs = fr at *
    obtain ⟨fa, fb'⟩ := fr
    simp only at HF HPF
    have HM := Lib.hid (And.intro hM hmm)
    clear hM hmm hm hR hX hTr hc0 hlk
    go_enter Try.func43, Try.ntmps43
    go_upto_region 1 with fail
    have hL1 := hL _ T.out.mod
    generalize (w.alloc (.cells #[.int .i64 u, .slice g.a g.n g.c, .slice c.a c.n c.c, .slice l.a l.n l.c, .slice fe.a fe.n fe.c, .slice ax.a ax.n ax.c, .slice (some a) regs.length rgc, .slice fu.a fu.n fu.c, .slice cv.a cv.n cv.c, .slice ata xs.length atc, .map (some fb)] 55)).alloc (.cells #[.int .i64 0, .int .i64 0] 68) = W0 at *
    have p10 : W0.cell? ⟨w.heap.size, 10, none⟩ = some (.map (some fb)) := by rw [(T.out.at 0 rfl).cell]; rfl
    have T2 := Lib.hid (T.out.alloc #[.int .i64 0, .int .i64 0] 68)
    go_upto_region 4 with fail
    generalize W0.alloc (.cells #[.int .i64 0, .int .i64 0] 68) = W2 at *
    generalize W0.heap.size = b5 at *
    clear T p10 hL1 hL
    have A0 := (T2.out.at 0 rfl).every
    have Y0 : ∀ W, Mod [] W2 W → W.cell? (a.add i) = some (.slice ta (regs[i]).tents.length tc) := fun W mW => cell_stays (T2.out.mod.then mW) c0
    have HF2 := Lib.hid (fun W (mW : Mod [] W2 W) => HF.out W (T2.out.mod.then mW))
    clear c0 HF
    refine wp_region_mask 10 [true, true, true, true, true, true, true, true, true, false] [(9, NewBlk W2.heap.size #[.int .i64 0, .int .i64 0] 68)] (by kernel_rfl) (by kernel_rfl) (by simp [NewBlk.stays]) ?_
    simp only [pickM]
    iterate 8
     refine steady_go (a' := ?_) (by kernel_rfl) ?_ (fun w' hw' K Q hK => ?_) ?_
     rotate_left 2
     · go_wp2_with fail; exact hK _ (Mod.refl _ _)
     rotate_left
     · rfl
    refine steady_go (a' := ?_) (by kernel_rfl) ?_ (fun w' hw' K Q hK => ?_) ?_
    rotate_left 2
    · go_wp2_with fail
      refine ((HF2.out) _ hw').mono ?_
      rintro e w'' ⟨rfl, m''⟩
      go_wp2_with fail
      exact hK _ m''
    rotate_left
    · rfl
    refine steady_done ?_
    refine lates_one rfl rfl (late_alloc ?_) (fun v7 w' hw' hF => ?_)
    · intro w'
      go_simp
    obtain ⟨-, b7, rfl, hb7, B7⟩ := hF
    simp only [List.drop_succ_cons, List.drop_zero]
    have T3 := Lib.hid (T2.out.new hw' hb7 B7)
    clear A0 Y0 HF2 T2 hw' B7
    have T4 := Lib.hid ((T3.out.set 3 rfl 0 (.int .i64 fa)).set 3 rfl 1 (.int .i64 fb'))
    obtain ⟨q0, q1, z0, z1⟩ := (T3.out.at 3 rfl).two
    go_upto_region 5 with fail
    generalize (w'.setCell ⟨b7, 0, none⟩ (.int .i64 fa)).setCell ⟨b7, 1, none⟩ (.int .i64 fb') = W4 at *
    clear q0 q1 z0 z1 T3
    obtain ⟨q0, q1, z0, z1⟩ := (T4.out.at 3 rfl).two
    have p10 : W4.cell? ⟨w.heap.size, 10, none⟩ = some (.map (some fb)) := by rw [(T4.out.at 0 rfl).cell]; rfl
    obtain ⟨W5, hmu, hM5, o1, o2, o3, o4, o5⟩ := run_put (P := Try.prog) (HM.out.1.mod T4.out.mod) Try.und_FMap Try.underlying3 (i : Int) (.agg #[.int .i64 fa, .int .i64 fb'])
    go_upto_region 6 with fail
    have bne1 : w.heap.size + 1 ≠ fb := by omega
    have bge7 := T4.out.ge 3 rfl
    have bne7 : b7 ≠ fb := by omega
    have HB7 : Blk W5 b7 #[.int .i64 fa, .int .i64 fb'] 68 := (o5 b7 bne7).trans (T4.out.at 3 rfl)
    have HB1 : Blk W5 (w.heap.size + 1) #[.int .i64 0, .int .i64 0] 68 := (o5 _ bne1).trans (T4.out.at 1 rfl)
    have HM5 : Mod [fb] w W5 := ⟨o1.trans T4.out.mod.os, o2.trans T4.out.mod.tape, o3.trans T4.out.mod.output, by have := T4.out.mod.size; omega, fun k hk hn => by rw [o5 k (by simpa using hn)]; exact T4.out.mod.block k hk (by simp)⟩
    have HM5' := Lib.hid HM5
    have HFM := Lib.hid (show FacMap W5 fb regs xs from ⟨_, hM5, by have := HPF.out; unfold ratV; exact this⟩)
    clear hmu hM5 o1 o2 o3 o4 o5 q0 q1 z0 z1 p10 T4 HM5
    obtain ⟨q0, q1, z0, z1⟩ := HB1.two
    obtain ⟨p0, p1, -, -⟩ := HB7.two
    have T6 := Lib.hid ((HB1.set 0 (.int .i64 fa)).set 1 (.int .i64 fb'))
    have HM6 := Lib.hid ((HM5'.out.setNew (p := ⟨w.heap.size + 1, 0, none⟩) (by simp) (.int .i64 fa)).setNew (p := ⟨w.heap.size + 1, 1, none⟩) (by simp) (.int .i64 fb'))
    have HFM6 := Lib.hid (HFM.out.of (w' := (W5.setCell ⟨w.heap.size + 1, 0, none⟩ (.int .i64 fa)).setCell ⟨w.heap.size + 1, 1, none⟩ (.int .i64 fb')) (by rw [Below.heap_setCell _ _ _ _ (Ne.symm bne1), Below.heap_setCell _ _ _ _ (Ne.symm bne1)]))
    clear HB1 HB7
    go_wp2_with fail
    clear p0 p1 q0 q1 z0 z1
    generalize (W5.setCell ⟨w.heap.size + 1, 0, none⟩ (.int .i64 fa)).setCell ⟨w.heap.size + 1, 1, none⟩ (.int .i64 fb') = W9 at *
    have r0 := T6.out.cell 0
    have r1 := T6.out.cell 1
    simp at r0 r1
    exact bodyPost_ret (v := .agg #[.int .i64 fa, .int .i64 fb']) (by simp [results, Try.results43, go_sem, r0, r1]) rfl ⟨rfl, HM6.out, HFM6.out⟩
end Go.Proofs.Ytaloembfekdkoaa
