/- The reference's Times. -/
import Derived.Test.YtiigcilmpclclaaBigPlus
import Derived.Test.YtiigcilmpclclaaBigTimes0
import Derived.Laws.MakeOwn
import Derived.IntWalk
namespace Go.Proofs.Ytiigcilmpclclaa
open Go.RowKit
set_option linter.unusedVariables false

theorem calls_same2 {P : Program} {W : World} {f : FuncId} {args : Array Value} {v : Value} (h : ∀ w, Mod [] W w → Calls P f args w fun e w' => e = .returned v ∧ w = w') : ∀ w, Mod [] W w → Calls P f args w fun e w' => e = .returned v ∧ Mod [] w w' :=
  fun w m => (h w m).mono fun _ _ ⟨he, hw⟩ => ⟨he, hw ▸ Mod.refl _ _⟩

def zeros (n : Nat) : List Nat := List.replicate n 0
theorem zeros_digits (n : Nat) : Big.Digits (zeros n) := Big.digits_replicate n
theorem zeros_len (n : Nat) : (zeros n).length = n := by simp [zeros]
theorem zeros_val (n : Nat) : Big.val (zeros n) = 0 := Big.val_replicate n
theorem made_zero (n : Nat) : madeCells #[Value.int IntKind.i64 0] n = ((zeros n).map dcell).toArray := by
  unfold zeros
  apply Array.ext'
  simp [madeCells, Nat.mod_one, dcell]
  apply List.ext_getElem
  · simp
  · intro i h1 h2; simp
theorem set_dcell (out : List Nat) (j y : Nat) : (out.map dcell).toArray.setIfInBounds j (.int .i64 (y : Int)) = ((out.set j y).map dcell).toArray := by
  simp [List.map_set, dcell]
theorem cell_dcell {out : List Nat} {j : Nat} (h : j < out.length) : (out.map dcell).toArray[j]? = some (.int .i64 ((out.getD j 0 : Nat) : Int)) := by
  simp [h, dcell]

set_option maxHeartbeats 2000000 in
theorem times_num (u v : Value) (x y : Int) (w : World) (hu : NumZ w u x) (hv : NumZ w v y) (hx : (Big.dig x.natAbs).length ≤ 500) (hy : (Big.dig y.natAbs).length ≤ 500) :
    Calls Try.prog 38 #[u, v] w (NumPost (x * y) w) := by
  obtain ⟨oa, n, c, rfl, hs⟩ := hu.form
  obtain ⟨ob, n2, c2, rfl, hs2⟩ := hv.form
  have T := Lib.hid (own3 w #[.bool (decide (x < 0)), .slice oa n c] 54 #[.bool (decide (y < 0)), .slice ob n2 c2] 54 #[.bool false, .slice none 0 0] 54)
  have hn : n = (Big.dig x.natAbs).length := by
    rcases hs with ⟨h, h'⟩ | ⟨b, o, cap, h, _⟩
    · simp at h h'; rw [h', h.2.1]; rfl
    · simp at h; exact h.2.1
  have hn2 : n2 = (Big.dig y.natAbs).length := by
    rcases hs2 with ⟨h, h'⟩ | ⟨b, o, cap, h, _⟩
    · simp at h h'; rw [h', h.2.1]; rfl
    · simp at h; exact h.2.1
  have hz : Big.sgn (decide (x < 0) != decide (y < 0)) (x.natAbs * y.natAbs) = x * y := by
    have e1 : x = Big.sgn (decide (x < 0)) x.natAbs := by by_cases h : x < 0 <;> simp [Big.sgn, h] <;> omega
    have e2 : y = Big.sgn (decide (y < 0)) y.natAbs := by by_cases h : y < 0 <;> simp [Big.sgn, h] <;> omega
    generalize decide (x < 0) = b1 at *
    generalize decide (y < 0) = b2 at *
    generalize x.natAbs = m1 at *
    generalize y.natAbs = m2 at *
    rw [e1, e2]
    cases b1 <;> cases b2 <;> simp [Big.sgn] <;> grind
  have HZ := Lib.hid hz
  have HDX := Lib.hid (Big.digits_dig x.natAbs)
  have HDY := Lib.hid (Big.digits_dig y.natAbs)
  have HV := Lib.hid (show Big.val (Big.dig x.natAbs) = x.natAbs ∧ Big.val (Big.dig y.natAbs) = y.natAbs from ⟨Big.val_dig _, Big.val_dig _⟩)
  have HS := Lib.hid hs
  have HS2 := Lib.hid hs2
  clear hu hv hs hs2 hz
  generalize Big.dig x.natAbs = ds at *
  generalize Big.dig y.natAbs = es at *
  obtain ⟨i0, hi, hz0, hz1, hz2⟩ := info_parts Try.info_int
  have hmk := fun W => run_make (P := Try.prog) W 52 3 i0 (.int .i64 0) Try.underlying52 hi hz0 .i64 .i64 ((n : Int) + n2 + 1) ((n : Int) + n2 + 1) (by omega) (by omega) (by rw [hz2]; omega) (by omega)
  rw [hz1] at hmk
  have htn : ((n : Int) + n2 + 1).toNat = n + n2 + 1 := by omega
  have hmc : madeCells (Value.int IntKind.i64 0).cells ((n + n2 + 1) * 1) = ((zeros (n + n2 + 1)).map dcell).toArray := by rw [Nat.mul_one]; exact made_zero _
  simp only [htn, hmc] at hmk
  have HD := Lib.hid (fun k hk W (m : Mod [] w W) => digit_any _ es k W (HS2.out.mod m) hk)
  have HW := Lib.hid (fun out W s (h : Sl W s (out.map dcell)) (hd : Big.Digits out) (hl : out.length ≤ 3000) => whole_any (decide (x < 0) != decide (y < 0)) s out W h hl hd)
  clear hz0 hz1 hz2 hi htn hmc
  generalize eL : n + n2 + 1 = L at *
  have EL := Lib.hid eL
  have HN := Lib.hid (And.intro hn hn2)
  have hn5 : n ≤ 500 := by omega
  have hn6 : n2 ≤ 500 := by omega
  clear eL hn hn2
  generalize decide (x < 0) = bx at *
  generalize decide (y < 0) = by_ at *
  go_enter Try.func38, Try.ntmps38
  go_wp2_with fail
  have T4 : Hid (Own w ((((w.alloc (.cells #[.bool bx, .slice oa n c] 54)).alloc (.cells #[.bool by_, .slice ob n2 c2] 54)).alloc (.cells #[.bool false, .slice none 0 0] 54)).alloc (.cells ((zeros L).map dcell).toArray 3))
    [(w.heap.size, #[.bool bx, .slice oa n c], 54), (w.heap.size + 1, #[.bool by_, .slice ob n2 c2], 54), (w.heap.size + 1 + 1, #[.bool false, .slice none 0 0], 54), (w.heap.size + 1 + 1 + 1, ((zeros L).map dcell).toArray, 3)]) := by
    have := T.out.alloc ((zeros L).map dcell).toArray 3
    rwa [show (((w.alloc (.cells #[.bool bx, .slice oa n c] 54)).alloc (.cells #[.bool by_, .slice ob n2 c2] 54)).alloc (.cells #[.bool false, .slice none 0 0] 54)).heap.size = w.heap.size + 1 + 1 + 1 by simp] at this
  clear T hmk
  go_loopw [6] (fun i wr => ∃ (k : Nat) (out : List Nat), i = .int .i64 (k : Int) ∧ k ≤ n ∧ Hid (Own w wr [(w.heap.size, #[.bool bx, .slice oa n c], 54), (w.heap.size + 1, #[.bool by_, .slice ob n2 c2], 54), (w.heap.size + 1 + 1, #[.bool false, .slice none 0 0], 54), (w.heap.size + 1 + 1 + 1, (out.map dcell).toArray, 3)]) ∧
    Hid (Big.Digits out ∧ out.length = L ∧ Big.val out = Big.val (ds.take k) * Big.val es)) (fun i _ => n - (intOf i).toNat)
  case atStart => exact ⟨0, zeros L, rfl, by omega, T4.out, zeros_digits _, zeros_len _, by rw [zeros_val]; simp [Big.val]⟩
  case round =>
    obtain ⟨i, out, rfl, hin, TW, HI⟩ := hrel
    obtain ⟨a0, a1, -, -⟩ := (TW.out.at 0 rfl).two
    by_cases hlt : i < n
    · have d1 : decide ((i : Int) < (n : Int)) = true := by simp; omega
      have d1' : decide (i < n) = true := by simpa using hlt
      obtain ⟨ab, ao, hoa, hcell⟩ : ∃ ab ao, oa = some ⟨ab, ao, none⟩ ∧ ∀ W, Mod [] w W → W.cell? ⟨ab, ao + i, none⟩ = some (.int .i64 ((ds.getD i 0 : Nat) : Int)) := by
        have hi2 : i < ds.length := by have := HN.out.1; omega
        rcases HS.out with ⟨h, h'⟩ | ⟨b, o, cap, h, hb, hc, hcl⟩
        · simp at h'; rw [h'] at hi2; simp at hi2
        · simp at h
          refine ⟨b, o, h.1, fun W m => ?_⟩
          rw [m.cell (p := ⟨b, o + i, none⟩) hb (by simp), hcl i (by simpa using hi2)]
          simp [dcell, hi2]
      subst hoa
      have HCL := Lib.hid hcell
      clear hcell
      go_wp2_with fail
      obtain ⟨wo, rfl⟩ : ∃ wo : World, wo = wr := ⟨_, rfl⟩
      go_loopw [7, 8] (fun cv kv wr => ∃ (k cy : Nat) (out : List Nat), cv = .int .i64 (cy : Int) ∧ kv = .int .i64 (k : Int) ∧ k ≤ n2 + 1 ∧ Hid (Own w wr [(w.heap.size, #[.bool bx, .slice (some ⟨ab, ao, none⟩) n c], 54), (w.heap.size + 1, #[.bool by_, .slice ob n2 c2], 54), (w.heap.size + 1 + 1, #[.bool false, .slice none 0 0], 54), (w.heap.size + 1 + 1 + 1, (out.map dcell).toArray, 3)]) ∧
        Hid (Big.Inner ds es out i k cy)) (fun _ kv _ => n2 + 1 - (intOf kv).toNat)
      case atStart =>
        obtain ⟨q1, q2, q3⟩ := HI.out
        exact ⟨0, 0, out, rfl, rfl, by omega, TW.out, Big.Inner.start q1 (by rw [q2, ← EL.out, HN.out.1, HN.out.2]) q3⟩
      case round =>
        clear out TW HI a0 a1
        obtain ⟨k, cy, out, rfl, rfl, hk, TI, HI⟩ := hrel
        obtain ⟨b0, b1, -, -⟩ := (TI.out.at 1 rfl).two
        by_cases hgo : k < n2 ∨ 0 < cy
        · have hk2 : k ≤ n2 := by
            rcases Nat.lt_or_ge n2 k with h | h
            · have := HI.out.over HDX.out HDY.out (by have := HN.out.2; omega)
              omega
            · exact h
          have hil : i + k < out.length := by rw [HI.out.len, ← HN.out.1, ← HN.out.2]; omega
          have HST := Lib.hid (HI.out.step HDX.out HDY.out hil rfl)
          have g1 := Big.digits_getD HI.out.dig (i + k)
          have g2 := Big.digits_getD HDX.out i
          have g3 := Big.digits_getD HDY.out k
          have g4 := HI.out.carry
          have O0 : ∀ W, Mod [] wr W → W.cell? ⟨w.heap.size + 1 + 1 + 1, i + k, none⟩ = some (.int .i64 ((out.getD (i + k) 0 : Nat) : Int)) := fun W m => by rw [(TI.out.at 3 rfl).every W m, cell_dcell hil]
          have D0 : ∀ W, Mod [] wr W → W.cell? ⟨ab, ao + i, none⟩ = some (.int .i64 ((ds.getD i 0 : Nat) : Int)) := fun W m => HCL.out W (TI.out.mod.then m)
          have o0 := O0 wr (Mod.refl _ _)
          have z0 : wr.frozen? ⟨w.heap.size + 1 + 1 + 1, i + k, none⟩ = false := (TI.out.at 3 rfl).frozen _
          have HDG := Lib.hid (fun W (m : Mod [] wr W) => HD.out k (by omega) W (TI.out.mod.then m))
          have hP : ds.getD i 0 * es.getD k 0 ≤ 65535 * 65535 := Nat.mul_le_mul (by omega) (by omega)
          have hPI : ((ds.getD i 0 : Nat) : Int) * ((es.getD k 0 : Nat) : Int) = ((ds.getD i 0 * es.getD k 0 : Nat) : Int) := (Int.natCast_mul _ _).symm
          have HSET := Lib.hid (fun v => TI.out.set 3 rfl (i + k) v)
          have hiL : i + k < L := by rw [HI.out.len, ← HN.out.1, ← HN.out.2] at hil; have := EL.out; omega
          generalize ds.getD i 0 * es.getD k 0 = P at *
          generalize ds.getD i 0 = d at *
          generalize es.getD k 0 = e at *
          generalize out.getD (i + k) 0 = o at *
          have q1 : (0 : Int) ≤ (i : Int) + k := by omega
          have q2 : ((i : Int) + k).toNat = i + k := by omega
          have q3 : (i : Int) + k < (L : Int) := by omega
          have q4 : IntKind.i64.wrap ((i : Int) + k) = (i : Int) + k := IntWalk.i64_in _ (by omega)
          have q5 : IntKind.i64.wrap ((P : Int)) = (P : Int) := IntWalk.i64_in _ (by omega)
          have q6 : IntKind.i64.wrap ((o : Int) + P) = (o : Int) + P := IntWalk.i64_in _ (by omega)
          have q7 : IntKind.i64.wrap ((o : Int) + P + cy) = (o : Int) + P + cy := IntWalk.i64_in _ (by omega)
          have q8 : (0 : Int) ≤ i := by omega
          have q9 : (i : Int) < n := by omega
          have A0 := (TI.out.at 0 rfl).every
          have B0 := (TI.out.at 1 rfl).every
          clear HI
          rcases Nat.lt_or_ge k n2 with hkn | hkn
          case' inl => have f1 : decide (k < n2) = true := by simpa using hkn
          case' inr =>
            have f1 : decide (k < n2) = false := by simp; omega
            have f2 : decide ((0 : Int) < (cy : Int)) = true := by simp; omega
          all_goals
            go_wp2_with fail
            refine wp_region_mask 20 [true, true, true, true, true, true, true, true, true, true, true, true, true, true, true, true, true, true, true, true] [] (by kernel_rfl) (by kernel_rfl) (by simp) ?_
            simp only [pickM]
            refine steady_go (a' := ?_) (by kernel_rfl) ?_ (fun w' hw' K Q hK => ?_) ?_
            rotate_left 2
            · go_wp2_with fail; exact hK _ (Mod.refl _ _)
            rotate_left
            · rfl
            refine steady_go (a' := ?_) (by kernel_rfl) ?_ (fun w' hw' K Q hK => ?_) ?_
            rotate_left 2
            · go_wp2_with fail; exact hK _ (Mod.refl _ _)
            rotate_left
            · rfl
            refine steady_go (a' := ?_) (by kernel_rfl) ?_ (fun w' hw' K Q hK => ?_) ?_
            rotate_left 2
            · go_wp2_with fail; exact hK _ (Mod.refl _ _)
            rotate_left
            · rfl
            refine steady_go (a' := ?_) (by kernel_rfl) ?_ (fun w' hw' K Q hK => ?_) ?_
            rotate_left 2
            · go_wp2_with fail; exact hK _ (Mod.refl _ _)
            rotate_left
            · rfl
            refine steady_go (a' := ?_) (by kernel_rfl) ?_ (fun w' hw' K Q hK => ?_) ?_
            rotate_left 2
            · go_wp2_with fail; exact hK _ (Mod.refl _ _)
            rotate_left
            · rfl
            refine steady_go (a' := ?_) (by kernel_rfl) ?_ (fun w' hw' K Q hK => ?_) ?_
            rotate_left 2
            · go_wp2_with fail; exact hK _ (Mod.refl _ _)
            rotate_left
            · rfl
            refine steady_go (a' := ?_) (by kernel_rfl) ?_ (fun w' hw' K Q hK => ?_) ?_
            rotate_left 2
            · go_wp2_with fail; exact hK _ (Mod.refl _ _)
            rotate_left
            · rfl
            refine steady_go (a' := ?_) (by kernel_rfl) ?_ (fun w' hw' K Q hK => ?_) ?_
            rotate_left 2
            · go_wp2_with fail; exact hK _ (Mod.refl _ _)
            rotate_left
            · rfl
            refine steady_go (a' := ?_) (by kernel_rfl) ?_ (fun w' hw' K Q hK => ?_) ?_
            rotate_left 2
            · go_wp2_with fail; exact hK _ (Mod.refl _ _)
            rotate_left
            · rfl
            refine steady_go (a' := ?_) (by kernel_rfl) ?_ (fun w' hw' K Q hK => ?_) ?_
            rotate_left 2
            · go_wp2_with fail; exact hK _ (Mod.refl _ _)
            rotate_left
            · rfl
            refine steady_go (a' := ?_) (by kernel_rfl) ?_ (fun w' hw' K Q hK => ?_) ?_
            rotate_left 2
            · go_wp2_with fail; exact hK _ (Mod.refl _ _)
            rotate_left
            · rfl
            refine steady_go (a' := ?_) (by kernel_rfl) ?_ (fun w' hw' K Q hK => ?_) ?_
            rotate_left 2
            · go_wp2_with fail; exact hK _ (Mod.refl _ _)
            rotate_left
            · rfl
            refine steady_go (a' := ?_) (by kernel_rfl) ?_ (fun w' hw' K Q hK => ?_) ?_
            rotate_left 2
            · go_wp2_with fail; exact hK _ (Mod.refl _ _)
            rotate_left
            · rfl
            refine steady_go (a' := ?_) (by kernel_rfl) ?_ (fun w' hw' K Q hK => ?_) ?_
            rotate_left 2
            · go_wp2_with fail; exact hK _ (Mod.refl _ _)
            rotate_left
            · rfl
            refine steady_go (a' := ?_) (by kernel_rfl) ?_ (fun w' hw' K Q hK => ?_) ?_
            rotate_left 2
            · go_wp2_with fail
              refine ((calls_same2 HDG.out) _ hw').mono ?_
              rintro e w'' ⟨rfl, m''⟩
              go_wp2_with fail
              exact hK _ m''
            rotate_left
            · rfl
            refine steady_go (a' := ?_) (by kernel_rfl) ?_ (fun w' hw' K Q hK => ?_) ?_
            rotate_left 2
            · go_wp2_with fail; exact hK _ (Mod.refl _ _)
            rotate_left
            · rfl
            refine steady_go (a' := ?_) (by kernel_rfl) ?_ (fun w' hw' K Q hK => ?_) ?_
            rotate_left 2
            · go_wp2_with fail; exact hK _ (Mod.refl _ _)
            rotate_left
            · rfl
            refine steady_go (a' := ?_) (by kernel_rfl) ?_ (fun w' hw' K Q hK => ?_) ?_
            rotate_left 2
            · go_wp2_with fail; exact hK _ (Mod.refl _ _)
            rotate_left
            · rfl
            refine steady_go (a' := ?_) (by kernel_rfl) ?_ (fun w' hw' K Q hK => ?_) ?_
            rotate_left 2
            · go_wp2_with fail; exact hK _ (Mod.refl _ _)
            rotate_left
            · rfl
            refine steady_go (a' := ?_) (by kernel_rfl) ?_ (fun w' hw' K Q hK => ?_) ?_
            rotate_left 2
            · go_wp2_with fail; exact hK _ (Mod.refl _ _)
            rotate_left
            · rfl
            refine steady_done ?_
            refine lates_end (fun w' hw' _ => ?_)
            simp only [List.drop_succ_cons, List.drop_nil]
            have o1 := O0 w' hw'
            have z1 : w'.frozen? ⟨w.heap.size + 1 + 1 + 1, i + k, none⟩ = false := by
              rw [hw'.frozen (p := ⟨w.heap.size + 1 + 1 + 1, i + k, none⟩) (TI.out.lt 3 rfl) (by simp)]; exact z0
            have TN : Hid (Own w (w'.setCell ⟨w.heap.size + 1 + 1 + 1, i + k, none⟩ (.int .i64 (((o : Int) + P + cy) % 65536))) [(w.heap.size, #[.bool bx, .slice (some ⟨ab, ao, none⟩) n c], 54), (w.heap.size + 1, #[.bool by_, .slice ob n2 c2], 54), (w.heap.size + 1 + 1, #[.bool false, .slice none 0 0], 54), (w.heap.size + 1 + 1 + 1, ((out.set (i + k) ((o + P + cy) % 65536)).map dcell).toArray, 3)]) := by
              have h3 := (TI.out.call hw').set 3 rfl (i + k) (.int .i64 (((o + P + cy) % 65536 : Nat) : Int))
              rw [set_dcell] at h3
              have e1 : ((o : Int) + P + cy) % 65536 = (((o + P + cy) % 65536 : Nat) : Int) := by omega
              rw [e1]
              exact h3
            clear O0 D0 A0 B0 o0 z0 b0 b1
            go_wp2_with fail
            go_roundw
            case rel =>
              refine ⟨k + 1, (o + P + cy) / 65536, out.set (i + k) ((o + P + cy) % 65536), ?_, by go_num, by omega, TN.out, HST.out.1⟩
              congr 1
            case measure => simp [intOf]; omega
        · have hcy : cy = 0 := by omega
          have hk2 : n2 ≤ k := by omega
          subst hcy
          have HF := Lib.hid (show Big.Digits out ∧ out.length = L ∧ Big.val out = Big.val (ds.take (i + 1)) * Big.val es from
            ⟨HI.out.dig, by rw [HI.out.len, ← EL.out, HN.out.1, HN.out.2], HI.out.done (by have := HN.out.2; omega)⟩)
          have f1 : decide (k < n2) = false := by simp; omega
          clear hgo HI
          go_wp2_with fail
          go_roundw
          case rel => exact ⟨i + 1, out, by go_num, by omega, TI.out, HF.out⟩
          case measure => simp [intOf]; omega
    · have d1 : decide ((i : Int) < (n : Int)) = false := by simp; omega
      have d1' : decide (i < n) = false := by simpa using hlt
      obtain ⟨b0, b1, -, -⟩ := (TW.out.at 1 rfl).two
      obtain ⟨p1, p2, p3⟩ := HI.out
      have hval : Big.val out = x.natAbs * y.natAbs := by
        rw [p3, List.take_of_length_le (by have := HN.out.1; omega), HV.out.1, HV.out.2]
      have HSL := Lib.hid (Sl.of_blk (cs := out.map dcell) (TW.out.at 3 rfl) L (by rw [List.length_map]; exact p2) L (Nat.le_refl _))
      have HC := Lib.hid (HW.out out wr _ HSL.out p1 (by have := EL.out; omega))
      rw [hval, HZ.out] at HC
      clear HI p1 p2 p3 hval
      go_wp2_with fail
      refine HC.out.mono ?_
      rintro e w1 ⟨oa', n', c', rfl, h1, h2, m⟩
      have T2 := Lib.hid (TW.out.call m)
      obtain ⟨r0, r1, z0, z1⟩ := (T2.out.at 2 rfl).two
      have HR := Lib.hid (num_ret h1 h2 (T2.out.ge 2 rfl) (TW.out.lt 2 rfl) T2.out.mod (.bool (decide (x * y < 0))))
      generalize eb : decide (x * y < 0) = bz' at *
      have EB := Lib.hid eb
      clear h1 h2 m eb a0 a1 b0 b1
      go_wp2_with fail
      exact bodyPost_ret (v := .agg #[.bool bz', .slice oa' n' c']) (by simp [results, Try.results38, go_sem, r0, r1]) rfl ⟨oa', n', c', by rw [EB.out], HR.out⟩
end Go.Proofs.Ytiigcilmpclclaa
