/- vary: Normal, where a number does not lie on its axis. -/
import Derived.Test.YtaloembfekdkoaaVaryNormal2
import Derived.Test.YtaloembfekdkoaaDoom
namespace Go.Proofs.Ytaloembfekdkoaa
open Go.RowKit
set_option linter.unusedVariables false
set_option maxRecDepth 100000 in
set_option maxHeartbeats 4000000 in
theorem normal_no (u : Int) (g c l fe ax rg fu cv : Hd) (pa : Option Addr) (pc : Nat) (xs : List Int) (ys : List Ax) (w : World) (hx : xs.length = ax.n) (ha : ys.length = ax.n) (h6 : ax.n ≤ 6)
    (hX : PlaceAt w pa xs) (hA : AxesAt w ax.a ys) (hOn : ¬ Vr.allOn xs ys) :
    Calls Try.prog 9 #[.agg (fontCells u g c l fe ax rg fu cv), .slice pa xs.length pc] w fun e w' => e = .returned (.tuple #[.slice none 0 0, .int .i64 60]) ∧ Mod [] w w' := by
  have hmf : ∀ (fn : Fn) (first cap : Array Value) (w : World), (Instr.makeFunc fn first cap).run Try.prog w = .ok (.func fn first cap) w := fun _ _ _ _ => rfl
  obtain ⟨axa, axn, axc⟩ := ax
  simp only at hx ha h6 hA
  obtain ⟨i0, hti, hz0, hz1, hz2⟩ := info_parts Try.info_Ratio
  unfold fontCells
  have T := Lib.hid (own3 w (fontCells u g c l fe ⟨axa, axn, axc⟩ rg fu cv) 31 #[.slice none 0 0] 49 #[.int .i64 0] 33)
  have k1 : (((xs.length : Nat) : Int) != (axn : Int)) = false := by simp; omega
  have k1' : (((xs.length : Nat) : Int) == (axn : Int)) = true := by simp; omega
  have HA := Lib.hid hA
  have HX := Lib.hid hX
  have HO := Lib.hid hOn
  have HL := Lib.hid (And.intro hx (And.intro ha h6))
  clear hA hX hOn hx ha h6
  go_enter_defers Try.func9, Try.ntmps9
  go_upto_region 4 with fail
  unfold fontCells at T
  generalize ((w.alloc (.cells #[.int .i64 u, .slice g.a g.n g.c, .slice c.a c.n c.c, .slice l.a l.n l.c, .slice fe.a fe.n fe.c, .slice axa axn axc, .slice rg.a rg.n rg.c, .slice fu.a fu.n fu.c, .slice cv.a cv.n cv.c] 31)).alloc (.cells #[.slice none 0 0] 49)).alloc (.cells #[.int .i64 0] 33) = W0 at *
  go_wp2_with fail
  go_loopg [18] xs.length (fun gk i18 wr => ∃ i : Nat, i18 = .int .i64 (i : Int) ∧ Hid (i + gk = xs.length) ∧ Hid (∃ v, Own w wr [(w.heap.size, #[.int .i64 u, .slice g.a g.n g.c, .slice c.a c.n c.c, .slice l.a l.n l.c, .slice fe.a fe.n fe.c, .slice axa axn axc, .slice rg.a rg.n rg.c, .slice fu.a fu.n fu.c, .slice cv.a cv.n cv.c], 31), (w.heap.size + 1, #[v], 49), (w.heap.size + 1 + 1, #[.int .i64 0], 33)] ∧ wr.ownsRow (w.heap.size + 3) 68 2 v i (flatP ((Vr.places xs ys).take i)) ∧ ¬ Vr.allOn (xs.drop i) (ys.drop i)))
  case atStart => exact ⟨0, rfl, by show 0 + xs.length = xs.length; omega, .slice none 0 0, T.out, World.ownsRow_nil _ _ _ _, HO.out⟩
  case round =>
    obtain ⟨i, rfl, hi, HV⟩ := hrel
    obtain ⟨v, TT, hR, hO⟩ := HV.out
    obtain ⟨va, vc, rfl⟩ := own_form hR
    have TT := Lib.hid TT
    have HR := Lib.hid hR
    have HO := Lib.hid hO
    clear HV hR T hO
    by_cases hn : i = xs.length
    · exact absurd (show Vr.allOn (xs.drop i) (ys.drop i) by rw [hn, List.drop_length]; exact trivial) HO.out
    · have hlt : i < xs.length := by have := hi.out; omega
      have hlt2 : (i : Int) < (xs.length : Int) := by omega
      have h0 : (0 : Int) ≤ (i : Int) := by omega
      have hiy : i < ys.length := by have := HL.out; omega
      obtain ⟨a, rfl, x0⟩ := HX.out.mod TT.out.mod i hlt
      obtain ⟨b, rfl, a0, a1, a2, a3⟩ := HA.out.mod TT.out.mod i hiy
      have p0 : wr.cell? ⟨w.heap.size + 1, 0, none⟩ = some (.slice va i vc) := by rw [(TT.out.at 1 rfl).cell]; rfl
      by_cases hon : Vr.onAxis xs[i] ys[i].l ys[i].d ys[i].m
      case neg =>
        have HAl := Lib.hid (fun W => along_no ys[i].s xs[i] ys[i].l ys[i].d ys[i].m W hon)
        clear hon HO
        generalize xs[i] = x at *
        generalize ys[i].s = sx at *
        generalize ys[i].l = lx at *
        generalize ys[i].d = dx at *
        generalize ys[i].m = mx at *
        simp only [show ∀ q : Addr, q.add 0 = q from fun q => by simp [Addr.add], show ∀ q : Addr, q.add 1 = ⟨q.block, q.off + 1, none⟩ from fun q => by simp [Addr.add], show ∀ q : Addr, q.add 2 = ⟨q.block, q.off + 2, none⟩ from fun q => by simp [Addr.add], show ∀ q : Addr, q.add 3 = ⟨q.block, q.off + 3, none⟩ from fun q => by simp [Addr.add]] at a0 a1 a2 a3
        have p5 : wr.cell? ⟨w.heap.size, 5, none⟩ = some (.slice (some b) axn axc) := by rw [(TT.out.at 0 rfl).cell]; rfl
        have hb2 : (i : Int) < (axn : Int) := by have := HL.out; omega
        go_upto_region 7 with fail
        clear x0
        have A0 := (TT.out.at 0 rfl).every
        have A1 := (TT.out.at 1 rfl).every
        have Y0 : ∀ W, Mod [] wr W → W.cell? (b.add (i * 4)) = some (.string sx) := fun W m => cell_kept m a0
        have Y1 : ∀ W, Mod [] wr W → W.cell? ⟨(b.add (i * 4)).block, (b.add (i * 4)).off + 1, none⟩ = some (.int .i64 lx) := fun W m => cell_kept m a1
        have Y2 : ∀ W, Mod [] wr W → W.cell? ⟨(b.add (i * 4)).block, (b.add (i * 4)).off + 2, none⟩ = some (.int .i64 dx) := fun W m => cell_kept m a2
        have Y3 : ∀ W, Mod [] wr W → W.cell? ⟨(b.add (i * 4)).block, (b.add (i * 4)).off + 3, none⟩ = some (.int .i64 mx) := fun W m => cell_kept m a3
        clear a0 a1 a2 a3 p0 p5
        refine Dm.wp_region_doom [true, true, true, true, true, true, true, false, false, false, false] [] 7 (fun c _ => c = [{ v := .iface 33 (.int .i64 60), recovered := false }]) (by kernel_rfl) rfl rfl (by kernel_rfl) ?hAlD70 ?hQ ?mainD70
        case hAlD70 => (intro i hi; cases hi)
        case mainD70 =>
          simp only [pickM]
          iterate 7
           refine steady_go (a' := ?_) (by kernel_rfl) ?_ (fun w' hw' K Q hK => ?_) ?_
           rotate_left 2
           · go_wp2_with fail; exact hK _ (Mod.refl _ _)
           rotate_left
           · rfl
          refine steady_done ?_
          intro w' hw'
          go_wp2_with fail
          refine (HAl.out _).mono ?_
          rintro e w4 ⟨rfl, m4⟩
          go_wp2_with fail
          exact hw'.then m4
        case hQ =>
          intro c a' w' hG hm hc
          subst hc
          have s4 := hG.slot 4 (by kernel_rfl)
          have s5 := hG.slot 5 (by kernel_rfl)
          have hd := hG.defers
          simp only [List.getElem?_toArray, List.getElem?_cons_succ, List.getElem?_cons_zero] at s4 s5
          have T2 := Lib.hid (((TT.out.call hm).set 1 rfl 0 (.slice none 0 0)).set 2 rfl 0 (.int .i64 60))
          have B1 := (TT.out.call hm).at 1 rfl
          have B2 := (TT.out.call hm).at 2 rfl
          simp only [Exit.inBlock, Exit.then]
          change bodyPostD _ _ _ _ _ _
          unfold bodyPostD
          simp only
          rw [hd]
          simp only
          refine leaves_cons (f := 22) (args := #[.pointer (some ⟨w.heap.size + 1, 0, none⟩), .pointer (some ⟨w.heap.size + 1 + 1, 0, none⟩)]) (by simp) (by simp [go_sem]) ?_
          refine (nor1_panic (w.heap.size + 1) (w.heap.size + 1 + 1) _ _ 60 [] _ (by omega) B1 B2).mono ?_
          rintro e u' w'' ⟨rfl, rfl, rfl⟩
          have r0 := (T2.out.at 1 rfl).cell 0
          have r1 := (T2.out.at 2 rfl).cell 0
          have HM := Lib.hid T2.out.mod
          simp at r0 r1
          clear T2 B1 B2
          generalize (w'.setCell ⟨w.heap.size + 1, 0, none⟩ (.slice none 0 0)).setCell ⟨w.heap.size + 1 + 1, 0, none⟩ (.int .i64 60) = W2 at *
          simp [Leaves, settle, results, Try.results9, go_sem, r0, r1, s4, s5]
          exact HM.out
      have HOi := Lib.hid hon
      have HON := Lib.hid (show ¬ Vr.allOn (xs.drop (i + 1)) (ys.drop (i + 1)) from fun h => HO.out (by rw [List.drop_eq_getElem_cons hlt, List.drop_eq_getElem_cons hiy]; exact ⟨hon, h⟩))
      clear hon
      have HPi := Lib.hid (places_at xs ys i hlt hiy)
      have HAl := Lib.hid (fun W => along_yes ys[i].s xs[i] ys[i].l ys[i].d ys[i].m W HOi.out)
      generalize Vr.alongR xs[i] ys[i].l ys[i].d ys[i].m = rr at *
      obtain ⟨ra, rb⟩ := rr
      clear HOi
      generalize xs[i] = x at *
      generalize ys[i].s = sx at *
      generalize ys[i].l = lx at *
      generalize ys[i].d = dx at *
      generalize ys[i].m = mx at *
      simp only [show ∀ q : Addr, q.add 0 = q from fun q => by simp [Addr.add], show ∀ q : Addr, q.add 1 = ⟨q.block, q.off + 1, none⟩ from fun q => by simp [Addr.add], show ∀ q : Addr, q.add 2 = ⟨q.block, q.off + 2, none⟩ from fun q => by simp [Addr.add], show ∀ q : Addr, q.add 3 = ⟨q.block, q.off + 3, none⟩ from fun q => by simp [Addr.add]] at a0 a1 a2 a3
      simp only at HAl
      have A0 := (TT.out.at 0 rfl).every
      have A1 := (TT.out.at 1 rfl).every
      have Y0 : ∀ W, Mod [] wr W → W.cell? (b.add (i * 4)) = some (.string sx) := fun W m => cell_kept m a0
      have Y1 : ∀ W, Mod [] wr W → W.cell? ⟨(b.add (i * 4)).block, (b.add (i * 4)).off + 1, none⟩ = some (.int .i64 lx) := fun W m => cell_kept m a1
      have Y2 : ∀ W, Mod [] wr W → W.cell? ⟨(b.add (i * 4)).block, (b.add (i * 4)).off + 2, none⟩ = some (.int .i64 dx) := fun W m => cell_kept m a2
      have Y3 : ∀ W, Mod [] wr W → W.cell? ⟨(b.add (i * 4)).block, (b.add (i * 4)).off + 3, none⟩ = some (.int .i64 mx) := fun W m => cell_kept m a3
      have hb2 : (i : Int) < (axn : Int) := by have := HL.out; omega
      go_upto_region 7 with fail
      clear a0 a1 a2 a3 x0 p0
      refine wp_region_mask 9 [true, true, true, true, true, true, true, true, false] [(8, NewSl wr.heap.size #[.int .i64 ra, .int .i64 rb] 68 1)] (by kernel_rfl) (by kernel_rfl) (by simp [NewSl.stays]) ?_
      simp only [pickM]
      iterate 7
       refine steady_go (a' := ?_) (by kernel_rfl) ?_ (fun w' hw' K Q hK => ?_) ?_
       rotate_left 2
       · go_wp2_with fail; exact hK _ (Mod.refl _ _)
       rotate_left
       · rfl
      refine steady_go (a' := ?_) (by kernel_rfl) ?_ (fun w' hw' K Q hK => ?_) ?_
      rotate_left 2
      · go_wp2_with fail
        refine ((calls_mod HAl.out) _ hw').mono ?_
        rintro e w'' ⟨rfl, m''⟩
        go_wp2_with fail
        exact hK _ m''
      rotate_left
      · rfl
      refine steady_done ?_
      refine lates_one rfl rfl (late_slice ?_) (fun sv w' hw' hF => ?_)
      · intro w'
        go_simp
      obtain ⟨-, b8, rfl, hb8, B8⟩ := hF
      simp only [List.drop_succ_cons, List.drop_zero]
      have T3 := Lib.hid (TT.out.call hw')
      have HR3 := Lib.hid (owns_mod HR.out hw')
      clear A0 A1 Y0 Y1 Y2 Y3 HAl TT HR hw'
      go_wp2_with (at_builtin; refine wpList_append_own _ rfl _ _ 49 rfl (w.heap.size + 3) 68 i0 (.agg #[.int .i64 0, .int .i64 0]) 2 16 Try.underlying49 hti hz0 hz1 hz2 rfl (by decide) _ _ _ rfl HR3.out ⟨b8, 0, none⟩ 1 1 [.int .i64 ra, .int .i64 rb] rfl rfl ?_ ?_ ?_ ?_ ?_ ?_)
      · exact cells_two_at B8
      · simp [Value.oneCell']
      · have := HL.out; unfold maxLen; omega
      · have := HL.out; omega
      · have := (T3.out.at 2 rfl).lt; simp at this ⊢; omega
      intro v' w1 hown' hgrow _
      obtain ⟨va', vc', rfl⟩ := own_form hown'
      have T4 := Lib.hid (Own.grown T3.out hgrow (fun k hk => (HR3.out.lt k hk).1) (by omega) (by simp))
      have HR4 := Lib.hid hown'
      clear hown' hgrow T3 HR3
      have p0 := (T4.out.at 1 rfl).cell 0
      have p1 := (T4.out.at 1 rfl).frozen 0
      have e1 : IntKind.i64.wrap ((i : Int) + 1) = (i : Int) + 1 := IntWalk.i64_in _ (by have := HL.out; omega)
      have T5 := Lib.hid (T4.out.set 1 rfl 0 (.slice va' (i + 1) vc'))
      have HR5 := Lib.hid (owns_set HR4.out (p := ⟨w.heap.size + 1, 0, none⟩) (by simp) (.slice va' (i + 1) vc'))
      go_wp2_with fail
      go_roundg (gk - 1)
      case measure => have := hi.out; omega
      case rel =>
        refine ⟨i + 1, by rw [Int.natCast_add]; rfl, ?_, _, T5.out, ?_, HON.out⟩
        · have := hi.out; show i + 1 + (gk - 1) = xs.length; omega
        · rw [List.take_add_one, HPi.out]
          simp only [Option.toList_some]
          rw [flatP_snoc]
          exact HR5.out
end Go.Proofs.Ytaloembfekdkoaa
