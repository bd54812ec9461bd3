/- vary: Normal, where every number lies on its axis; and where one does not. -/
import Derived.Test.YtaloembfekdkoaaGNorm
import Derived.Test.YtaloembfekdkoaaVaryAlong
import Derived.Test.YtaloembfekdkoaaGOpen
import Derived.Test.YtaloembfekdkoaaGKit
namespace Go.Proofs.Ytaloembfekdkoaa
open Go.RowKit
set_option linter.unusedVariables false
structure Ax where
  s : ByteArray
  l : Int
  d : Int
  m : Int
def AxesAt (W : World) (oa : Option Addr) (ys : List Ax) : Prop := ∀ i (h : i < ys.length), ∃ a : Addr, oa = some a ∧ W.cell? ((a.add (i * 4)).add 0) = some (.string ys[i].s) ∧ W.cell? ((a.add (i * 4)).add 1) = some (.int .i64 ys[i].l) ∧ W.cell? ((a.add (i * 4)).add 2) = some (.int .i64 ys[i].d) ∧ W.cell? ((a.add (i * 4)).add 3) = some (.int .i64 ys[i].m)
def PlaceAt (W : World) (oa : Option Addr) (xs : List Int) : Prop := ∀ i (h : i < xs.length), ∃ a : Addr, oa = some a ∧ W.cell? (a.add i) = some (.int .i64 xs[i])
theorem AxesAt.mod {W W' : World} {oa : Option Addr} {ys : List Ax} (h : AxesAt W oa ys) (m : Mod [] W W') : AxesAt W' oa ys := fun i hi => by
  obtain ⟨a, ha, h0, h1, h2, h3⟩ := h i hi
  exact ⟨a, ha, cell_kept m h0, cell_kept m h1, cell_kept m h2, cell_kept m h3⟩
theorem PlaceAt.mod {W W' : World} {oa : Option Addr} {xs : List Int} (h : PlaceAt W oa xs) (m : Mod [] W W') : PlaceAt W' oa xs := fun i hi => by
  obtain ⟨a, ha, h0⟩ := h i hi
  exact ⟨a, ha, cell_kept m h0⟩
def Vr.places : List Int → List Ax → List (Int × Int)
  | x :: xs, a :: ys => Vr.alongR x a.l a.d a.m :: Vr.places xs ys
  | _, _ => []
def Vr.allOn : List Int → List Ax → Prop
  | x :: xs, a :: ys => Vr.onAxis x a.l a.d a.m ∧ Vr.allOn xs ys
  | _, _ => True
theorem cells_two_at {w : World} {b : Nat} {x y : Value} {t : TypeId} (h : Blk w b #[x, y] t) : ∀ (j : Nat) (u : Value), [x, y][j]? = some u → w.cell? (Addr.add ⟨b, 0, none⟩ j) = some u
  | 0, u, e => by have := h.cell 0; simp [Addr.add] at this e ⊢; rw [this, e]
  | 1, u, e => by have := h.cell 1; simp [Addr.add] at this e ⊢; rw [this, e]
  | j + 2, u, e => by simp at e
theorem pairs_of_owns2 {w : World} {B : Nat} {v : Value} {n : Nat} {l : List (Int × Int)} (h : w.ownsRow B 68 2 v n (flatP l)) (hn : n = l.length) : PairsAt w v l := by subst hn; exact pairs_of_owns h
theorem places_length : ∀ (xs : List Int) (ys : List Ax), (Vr.places xs ys).length = min xs.length ys.length
  | [], _ => by simp [Vr.places]
  | x :: xs, [] => by simp [Vr.places]
  | x :: xs, a :: ys => by simp only [Vr.places, List.length_cons, places_length xs ys]; omega
theorem places_at : ∀ (xs : List Int) (ys : List Ax) (i : Nat) (h1 : i < xs.length) (h2 : i < ys.length), (Vr.places xs ys)[i]? = some (Vr.alongR xs[i] ys[i].l ys[i].d ys[i].m)
  | x :: xs, a :: ys, 0, _, _ => rfl
  | x :: xs, a :: ys, i + 1, h1, h2 => by
    simp only [Vr.places, List.getElem?_cons_succ, List.getElem_cons_succ]
    exact places_at xs ys i (by simpa using h1) (by simpa using h2)
theorem allOn_at : ∀ (xs : List Int) (ys : List Ax) (i : Nat) (h1 : i < xs.length) (h2 : i < ys.length), Vr.allOn xs ys → Vr.onAxis xs[i] ys[i].l ys[i].d ys[i].m
  | x :: xs, a :: ys, 0, _, _, h => h.1
  | x :: xs, a :: ys, i + 1, h1, h2, h => allOn_at xs ys i (by simpa using h1) (by simpa using h2) h.2
theorem Try.info_Ratio : (Try.prog.info? 68).map (fun i => (i.zero, i.size, i.bytes)) = some (some (.agg #[.int .i64 0, .int .i64 0]), 2, 16) := by kernel_rfl
set_option maxRecDepth 100000 in
set_option maxHeartbeats 4000000 in
theorem normal_yes (u : Int) (g c l fe ax rg fu cv : Hd) (pa : Option Addr) (pc : Nat) (xs : List Int) (ys : List Ax) (w : World) (hx : xs.length = ax.n) (ha : ys.length = ax.n) (h6 : ax.n ≤ 6)
    (hX : PlaceAt w pa xs) (hA : AxesAt w ax.a ys) (hOn : Vr.allOn xs ys) :
    Calls Try.prog 9 #[.agg (fontCells u g c l fe ax rg fu cv), .slice pa xs.length pc] w fun e w' => ∃ v, e = .returned (.tuple #[v, .int .i64 0]) ∧ Mod [] w w' ∧ PairsAt w' v (Vr.places xs ys) := by
  have hmf : ∀ (fn : Fn) (first cap : Array Value) (w : World), (Instr.makeFunc fn first cap).run Try.prog w = .ok (.func fn first cap) w := fun _ _ _ _ => rfl
  obtain ⟨axa, axn, axc⟩ := ax
  simp only at hx ha h6 hA
  obtain ⟨i0, hti, hz0, hz1, hz2⟩ := info_parts Try.info_Ratio
  unfold fontCells
  have T := Lib.hid (own3 w (fontCells u g c l fe ⟨axa, axn, axc⟩ rg fu cv) 31 #[.slice none 0 0] 49 #[.int .i64 0] 33)
  have k1 : (((xs.length : Nat) : Int) != (axn : Int)) = false := by simp; omega
  have k1' : (((xs.length : Nat) : Int) == (axn : Int)) = true := by simp; omega
  have HA := Lib.hid hA
  have HX := Lib.hid hX
  have HO := Lib.hid hOn
  have HL := Lib.hid (And.intro hx (And.intro ha h6))
  clear hA hX hOn hx ha h6
  go_enter_defers Try.func9, Try.ntmps9
  go_upto_region 4 with fail
  unfold fontCells at T
  generalize ((w.alloc (.cells #[.int .i64 u, .slice g.a g.n g.c, .slice c.a c.n c.c, .slice l.a l.n l.c, .slice fe.a fe.n fe.c, .slice axa axn axc, .slice rg.a rg.n rg.c, .slice fu.a fu.n fu.c, .slice cv.a cv.n cv.c] 31)).alloc (.cells #[.slice none 0 0] 49)).alloc (.cells #[.int .i64 0] 33) = W0 at *
  go_wp2_with fail
  go_loopg [18] xs.length (fun gk i18 wr => ∃ i : Nat, i18 = .int .i64 (i : Int) ∧ Hid (i + gk = xs.length) ∧ Hid (∃ v, Own w wr [(w.heap.size, #[.int .i64 u, .slice g.a g.n g.c, .slice c.a c.n c.c, .slice l.a l.n l.c, .slice fe.a fe.n fe.c, .slice axa axn axc, .slice rg.a rg.n rg.c, .slice fu.a fu.n fu.c, .slice cv.a cv.n cv.c], 31), (w.heap.size + 1, #[v], 49), (w.heap.size + 1 + 1, #[.int .i64 0], 33)] ∧ wr.ownsRow (w.heap.size + 3) 68 2 v i (flatP ((Vr.places xs ys).take i))))
  case atStart => exact ⟨0, rfl, by show 0 + xs.length = xs.length; omega, .slice none 0 0, T.out, World.ownsRow_nil _ _ _ _⟩
  case round =>
    obtain ⟨i, rfl, hi, HV⟩ := hrel
    obtain ⟨v, TT, hR⟩ := HV.out
    obtain ⟨va, vc, rfl⟩ := own_form hR
    have TT := Lib.hid TT
    have HR := Lib.hid hR
    clear HV hR T
    by_cases hn : i = xs.length
    · subst hn
      have p0 : wr.cell? ⟨w.heap.size + 1, 0, none⟩ = some (.slice va xs.length vc) := by rw [(TT.out.at 1 rfl).cell]; rfl
      have p1 := (TT.out.at 1 rfl).frozen 0
      have q0 : wr.cell? ⟨w.heap.size + 1 + 1, 0, none⟩ = some (.int .i64 0) := by rw [(TT.out.at 2 rfl).cell]; rfl
      have q1 := (TT.out.at 2 rfl).frozen 0
      go_wp2_with fail
      obtain ⟨hx1, hx2, hx3⟩ := HL.out
      rw [List.take_of_length_le (by rw [places_length]; omega)] at HR
      have T2 := Lib.hid ((TT.out.set 1 rfl 0 (.slice va xs.length vc)).set 2 rfl 0 (.int .i64 0))
      have HP := Lib.hid (pairs_of_owns2 (owns_set (owns_set HR.out (p := ⟨w.heap.size + 1, 0, none⟩) (by simp) (.slice va xs.length vc)) (p := ⟨w.heap.size + 1 + 1, 0, none⟩) (by simp) (.int .i64 0)) (by rw [places_length]; omega))
      have r0 : ((wr.setCell ⟨w.heap.size + 1, 0, none⟩ (.slice va xs.length vc)).setCell ⟨w.heap.size + 1 + 1, 0, none⟩ (.int .i64 0)).cell? ⟨w.heap.size + 1, 0, none⟩ = some (.slice va xs.length vc) := by rw [(T2.out.at 1 rfl).cell]; rfl
      have r1 : ((wr.setCell ⟨w.heap.size + 1, 0, none⟩ (.slice va xs.length vc)).setCell ⟨w.heap.size + 1 + 1, 0, none⟩ (.int .i64 0)).cell? ⟨w.heap.size + 1 + 1, 0, none⟩ = some (.int .i64 0) := by rw [(T2.out.at 2 rfl).cell]; rfl
      generalize (wr.setCell ⟨w.heap.size + 1, 0, none⟩ (.slice va xs.length vc)).setCell ⟨w.heap.size + 1 + 1, 0, none⟩ (.int .i64 0) = W9 at *
      clear p0 p1 q0 q1
      refine leaves_cons (f := 22) (args := #[.pointer (some ⟨w.heap.size + 1, 0, none⟩), .pointer (some ⟨w.heap.size + 1 + 1, 0, none⟩)]) (by simp) (by simp [go_sem]) ?_
      refine (nor1_idle _ _ _).mono ?_
      rintro e u' w'' ⟨rfl, rfl, rfl⟩
      simp [Leaves, settle, results, Try.results9, go_sem, r0, r1]
      exact ⟨T2.out.mod, HP.out⟩
    · have hlt : i < xs.length := by have := hi.out; omega
      have hlt2 : (i : Int) < (xs.length : Int) := by omega
      have h0 : (0 : Int) ≤ (i : Int) := by omega
      have hiy : i < ys.length := by have := HL.out; omega
      obtain ⟨a, rfl, x0⟩ := HX.out.mod TT.out.mod i hlt
      obtain ⟨b, rfl, a0, a1, a2, a3⟩ := HA.out.mod TT.out.mod i hiy
      have p0 : wr.cell? ⟨w.heap.size + 1, 0, none⟩ = some (.slice va i vc) := by rw [(TT.out.at 1 rfl).cell]; rfl
      have HOi := Lib.hid (allOn_at xs ys i hlt hiy HO.out)
      have HPi := Lib.hid (places_at xs ys i hlt hiy)
      have HAl := Lib.hid (fun W => along_yes ys[i].s xs[i] ys[i].l ys[i].d ys[i].m W HOi.out)
      generalize Vr.alongR xs[i] ys[i].l ys[i].d ys[i].m = rr at *
      obtain ⟨ra, rb⟩ := rr
      clear HOi
      generalize xs[i] = x at *
      generalize ys[i].s = sx at *
      generalize ys[i].l = lx at *
      generalize ys[i].d = dx at *
      generalize ys[i].m = mx at *
      simp only [show ∀ q : Addr, q.add 0 = q from fun q => by simp [Addr.add], show ∀ q : Addr, q.add 1 = ⟨q.block, q.off + 1, none⟩ from fun q => by simp [Addr.add], show ∀ q : Addr, q.add 2 = ⟨q.block, q.off + 2, none⟩ from fun q => by simp [Addr.add], show ∀ q : Addr, q.add 3 = ⟨q.block, q.off + 3, none⟩ from fun q => by simp [Addr.add]] at a0 a1 a2 a3
      simp only at HAl
      have A0 := (TT.out.at 0 rfl).every
      have A1 := (TT.out.at 1 rfl).every
      have Y0 : ∀ W, Mod [] wr W → W.cell? (b.add (i * 4)) = some (.string sx) := fun W m => cell_kept m a0
      have Y1 : ∀ W, Mod [] wr W → W.cell? ⟨(b.add (i * 4)).block, (b.add (i * 4)).off + 1, none⟩ = some (.int .i64 lx) := fun W m => cell_kept m a1
      have Y2 : ∀ W, Mod [] wr W → W.cell? ⟨(b.add (i * 4)).block, (b.add (i * 4)).off + 2, none⟩ = some (.int .i64 dx) := fun W m => cell_kept m a2
      have Y3 : ∀ W, Mod [] wr W → W.cell? ⟨(b.add (i * 4)).block, (b.add (i * 4)).off + 3, none⟩ = some (.int .i64 mx) := fun W m => cell_kept m a3
      have hb2 : (i : Int) < (axn : Int) := by have := HL.out; omega
      go_upto_region 7 with fail
      clear a0 a1 a2 a3 x0 p0
      refine wp_region_mask 9 [true, true, true, true, true, true, true, true, false] [(8, NewSl wr.heap.size #[.int .i64 ra, .int .i64 rb] 68 1)] (by kernel_rfl) (by kernel_rfl) (by simp [NewSl.stays]) ?_
      simp only [pickM]
      iterate 7
       refine steady_go (a' := ?_) (by kernel_rfl) ?_ (fun w' hw' K Q hK => ?_) ?_
       rotate_left 2
       · go_wp2_with fail; exact hK _ (Mod.refl _ _)
       rotate_left
       · rfl
      refine steady_go (a' := ?_) (by kernel_rfl) ?_ (fun w' hw' K Q hK => ?_) ?_
      rotate_left 2
      · go_wp2_with fail
        refine ((calls_mod HAl.out) _ hw').mono ?_
        rintro e w'' ⟨rfl, m''⟩
        go_wp2_with fail
        exact hK _ m''
      rotate_left
      · rfl
      refine steady_done ?_
      refine lates_one rfl rfl (late_slice ?_) (fun sv w' hw' hF => ?_)
      · intro w'
        go_simp
      obtain ⟨-, b8, rfl, hb8, B8⟩ := hF
      simp only [List.drop_succ_cons, List.drop_zero]
      have T3 := Lib.hid (TT.out.call hw')
      have HR3 := Lib.hid (owns_mod HR.out hw')
      clear A0 A1 Y0 Y1 Y2 Y3 HAl TT HR hw'
      go_wp2_with (at_builtin; refine wpList_append_own _ rfl _ _ 49 rfl (w.heap.size + 3) 68 i0 (.agg #[.int .i64 0, .int .i64 0]) 2 16 Try.underlying49 hti hz0 hz1 hz2 rfl (by decide) _ _ _ rfl HR3.out ⟨b8, 0, none⟩ 1 1 [.int .i64 ra, .int .i64 rb] rfl rfl ?_ ?_ ?_ ?_ ?_ ?_)
      · exact cells_two_at B8
      · simp [Value.oneCell']
      · have := HL.out; unfold maxLen; omega
      · have := HL.out; omega
      · have := (T3.out.at 2 rfl).lt; simp at this ⊢; omega
      intro v' w1 hown' hgrow _
      obtain ⟨va', vc', rfl⟩ := own_form hown'
      have T4 := Lib.hid (Own.grown T3.out hgrow (fun k hk => (HR3.out.lt k hk).1) (by omega) (by simp))
      have HR4 := Lib.hid hown'
      clear hown' hgrow T3 HR3
      have p0 := (T4.out.at 1 rfl).cell 0
      have p1 := (T4.out.at 1 rfl).frozen 0
      have e1 : IntKind.i64.wrap ((i : Int) + 1) = (i : Int) + 1 := IntWalk.i64_in _ (by have := HL.out; omega)
      have T5 := Lib.hid (T4.out.set 1 rfl 0 (.slice va' (i + 1) vc'))
      have HR5 := Lib.hid (owns_set HR4.out (p := ⟨w.heap.size + 1, 0, none⟩) (by simp) (.slice va' (i + 1) vc'))
      go_wp2_with fail
      go_roundg (gk - 1)
      case measure => have := hi.out; omega
      case rel =>
        refine ⟨i + 1, by rw [Int.natCast_add]; rfl, ?_, _, T5.out, ?_⟩
        · have := hi.out; show i + 1 + (gk - 1) = xs.length; omega
        · rw [List.take_add_one, HPi.out]
          simp only [Option.toList_some]
          rw [flatP_snoc]
          exact HR5.out
end Go.Proofs.Ytaloembfekdkoaa
