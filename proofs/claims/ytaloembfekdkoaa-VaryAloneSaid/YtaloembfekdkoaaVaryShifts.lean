/- vary: shifts. -/
import Derived.Test.YtaloembfekdkoaaVarySpot
import Derived.Test.YtaloembfekdkoaaVaryGrown2
import Derived.Test.YtaloembfekdkoaaOwnF
namespace Go.Proofs.Ytaloembfekdkoaa
open Go.RowKit
set_option linter.unusedVariables false
set_option maxRecDepth 100000
theorem Try.und_SMap : Try.prog.underlying 90 = some (.map 3 93) := by kernel_rfl
theorem Try.zero_Shift (w : World) : (zeroValue 93).run Try.prog w = .ok (.agg #[.int .i64 0, .int .i64 0, .int .i64 0, .int .i64 0]) w := by kernel_rfl
abbrev Sh := (Int × Int) × (Int × Int)
def shV (x : Sh) : Value := .agg #[.int .i64 x.1.1, .int .i64 x.1.2, .int .i64 x.2.1, .int .i64 x.2.2]
def ShIn (x : Sh) : Prop := (I64 x.1.1 ∧ I64 x.1.2) ∧ I64 x.2.1 ∧ I64 x.2.2
def regTents (regs : List DRegion) (r : Int) : List DTent := ((regs[r.toNat]?).map (·.tents)).getD []
def Vr.shiftStep (regs : List DRegion) (xs : List (Int × Int)) (np : Nat) (m : List (Int × Sh)) (d : DDelta) : Except Int (List (Int × Sh)) :=
  if 0 ≤ d.region ∧ d.region.toNat < regs.length then
    if -1 ≤ d.point ∧ d.point < np then
      match Vr.grownR ((lookP m d.point).getD ((0, 1), (0, 1))).1 d.x (Vr.factorR (regTents regs d.region) xs) with
      | none => .error 3
      | some a => match Vr.grownR ((lookP m d.point).getD ((0, 1), (0, 1))).2 d.y (Vr.factorR (regTents regs d.region) xs) with
        | none => .error 3
        | some b => .ok (putP m d.point (a, b))
    else .error 30
  else .error 61
def Vr.shiftsR (regs : List DRegion) (xs : List (Int × Int)) (np : Nat) : List DDelta → List (Int × Sh) → Except Int (List (Int × Sh))
  | [], m => .ok m
  | d :: ds, m => match Vr.shiftStep regs xs np m d with
    | .error e => .error e
    | .ok m' => Vr.shiftsR regs xs np ds m'
theorem factorR_in (ts : List DTent) (xs : List (Int × Int)) : I64 (Vr.factorR ts xs).1 ∧ I64 (Vr.factorR ts xs).2 := by
  unfold Vr.factorR
  split
  · have key : ∀ (ts : List (Int × Int × Int)) (xs : List (Int × Int)) (f : Int × Int), (I64 f.1 ∧ I64 f.2) → ∀ r, Vr.prodR ts xs f = some r → I64 r.1 ∧ I64 r.2 := by
      intro ts
      induction ts with
      | nil => intro xs f hf r hr; unfold Vr.prodR at hr; cases hr; exact hf
      | cons t ts ih =>
        intro xs f hf r hr
        cases xs with
        | nil => unfold Vr.prodR at hr; cases hr; exact hf
        | cons x xs =>
          unfold Vr.prodR at hr
          split at hr
          · split at hr
            · rename_i u _ _
              refine ih xs _ ?_ r hr
              have := mulR_in f.1 f.2 u.1 u.2
              unfold I64; simp only; omega
            · cases hr
          · cases hr
    cases hp : Vr.prodR (ts.map triple) xs (1, 1) with
    | none => unfold I64; simp
    | some r => exact key _ _ _ (by unfold I64; simp) r hp
  · unfold I64; simp
theorem factor_in2 (ts : List DTent) (xs : List (Int × Int)) : I64 (Vr.factorR ts xs).1 ∧ I64 (Vr.factorR ts xs).2 := factorR_in ts xs
theorem look_in {m : List (Int × Sh)} (h : ∀ p ∈ m, ShIn p.2) (k : Int) : ShIn ((lookP m k).getD ((0, 1), (0, 1))) := by
  unfold lookP
  cases hf : m.find? (fun p => p.1 == k) with
  | none => unfold ShIn I64; simp
  | some p => exact h p (List.mem_of_find?_eq_some hf)
theorem put_in {m : List (Int × Sh)} (h : ∀ p ∈ m, ShIn p.2) (k : Int) {v : Sh} (hv : ShIn v) : ∀ p ∈ putP m k v, ShIn p.2 := by
  intro p hp
  unfold putP at hp
  split at hp
  · obtain ⟨q, hq, rfl⟩ := List.mem_map.1 hp
    split
    · exact hv
    · exact h q hq
  · rcases List.mem_append.1 hp with hp | hp
    · exact h p hp
    · obtain rfl := List.mem_singleton.1 hp
      exact hv
def ShiftsRes (r : Except Int (List (Int × Sh))) (fb : Nat) (regs : List DRegion) (xs : List (Int × Int)) (w : World) (e : Ending) (w' : World) : Prop :=
  Mod [fb] w w' ∧ FacMap w' fb regs xs ∧ match r with
  | .ok m => ∃ sb, e = .returned (.map (some sb)) ∧ w.heap.size ≤ sb ∧ IMap w' sb (mapP shV m) ∧ ∀ p ∈ m, ShIn p.2
  | .error k => e = .panicked [{ v := .iface 33 (.int .i64 k), recovered := false }]
set_option maxHeartbeats 8000000 in
theorem shifts_any (u : Int) (g c l fe ax rg fu cv at' : Hd) (fb : Nat) (regs : List DRegion) (xs : List (Int × Int)) (gl : DGlyph) (gc : List Value) (B B2 B3 : Nat) (w0 w : World) (hm : Mod [] w0 w) (hfb : w0.heap.size ≤ fb)
    (hR : Rows 1 RRegion B w0 (.slice rg.a rg.n rg.c) regs) (hX : Rows 2 RRat B2 w0 (.slice at'.a at'.n at'.c) xs) (hG : RGlyph B3 w0 gc gl) (hF : FacMap w fb regs xs) :
    Calls Try.prog 27 #[.agg (spotCells u g c l fe ax rg fu cv at' fb), .agg gc.toArray] w (ShiftsRes (Vr.shiftsR regs xs gl.pts.length gl.deltas []) fb regs xs w) := by
  obtain ⟨rga, rgn, rgc⟩ := rg
  obtain ⟨ata, atn, atc⟩ := at'
  simp only at hR hX
  have hrn : rgn = regs.length := by obtain ⟨oa, cap, he, _⟩ := hR; cases he; rfl
  have han : atn = xs.length := by obtain ⟨oa, cap, he, _⟩ := hX; cases he; rfl
  subst hrn han
  obtain ⟨v3, v4, v5, v6, v7, v8, rfl, hn, ha, h3, h4, h5, h6, h7, h8⟩ := hG
  obtain ⟨o3, c3, rfl, -⟩ := h3.form
  obtain ⟨o4, c4, rfl, -⟩ := h4.form
  obtain ⟨o5, c5, rfl, -⟩ := h5.form
  obtain ⟨o6, c6, rfl, -⟩ := h6.form
  obtain ⟨o7, c7, rfl, hdm⟩ := h7.form
  obtain ⟨o8, c8, rfl, -⟩ := h8.form
  have hml : maxLen ≤ 9223372036854775807 := by decide
  obtain ⟨name, adv, mark, pts, ends, parts, anchors, deltas, hint⟩ := gl
  simp only at *
  have HDL := Lib.hid (Nat.le_trans hdm hml)
  have hfl : fb < w.heap.size := by obtain ⟨m, h1, _⟩ := hF; exact h1.lt
  have T := Lib.hid (OwnF.of (F := [fb]) (own2 w (spotCells u g c l fe ax ⟨rga, regs.length, rgc⟩ fu cv ⟨ata, xs.length, atc⟩ fb) 55 #[.string name, .int .i64 adv, .bool mark, .slice o3 pts.length c3, .slice o4 ends.length c4, .slice o5 parts.length c5, .slice o6 anchors.length c6, .slice o7 deltas.length c7, .slice o8 hint.length c8] 44) (by simpa using hfl))
  have HD := Lib.hid h7
  have HFL := Lib.hid hfl
  have HFB := Lib.hid hfb
  have HM0 := Lib.hid hm
  have HRX := Lib.hid (And.intro hR hX)
  have HFAC := Lib.hid hF
  clear h3 h4 h5 h6 h7 h8 hn ha hm hR hX hF hdm hml hfl hfb
  unfold spotCells at T ⊢
  simp only at T ⊢
  obtain ⟨res, hres⟩ : ∃ res, Vr.shiftsR regs xs pts.length deltas [] = res := ⟨_, rfl⟩
  have HRES := Lib.hid hres
  rw [hres]
  clear hres
  go_enter Try.func27, Try.ntmps27
  go_upto_region 1 with fail
  have HF0 := Lib.hid (HFAC.out.mod (((Mod.refl [] w).alloc (.cells #[.int .i64 u, .slice g.a g.n g.c, .slice c.a c.n c.c, .slice l.a l.n l.c, .slice fe.a fe.n fe.c, .slice ax.a ax.n ax.c, .slice rga regs.length rgc, .slice fu.a fu.n fu.c, .slice cv.a cv.n cv.c, .slice ata xs.length atc, .map (some fb)] 55)).alloc (.cells #[.string name, .int .i64 adv, .bool mark, .slice o3 pts.length c3, .slice o4 ends.length c4, .slice o5 parts.length c5, .slice o6 anchors.length c6, .slice o7 deltas.length c7, .slice o8 hint.length c8] 44)))
  generalize (w.alloc (.cells #[.int .i64 u, .slice g.a g.n g.c, .slice c.a c.n c.c, .slice l.a l.n l.c, .slice fe.a fe.n fe.c, .slice ax.a ax.n ax.c, .slice rga regs.length rgc, .slice fu.a fu.n fu.c, .slice cv.a cv.n cv.c, .slice ata xs.length atc, .map (some fb)] 55)).alloc (.cells #[.string name, .int .i64 adv, .bool mark, .slice o3 pts.length c3, .slice o4 ends.length c4, .slice o5 parts.length c5, .slice o6 anchors.length c6, .slice o7 deltas.length c7, .slice o8 hint.length c8] 44) = W0 at *
  have hmm : (Instr.makeMap 90 none).run Try.prog W0 = .ok (.map (some W0.heap.size)) (W0.alloc (.map #[] 0)) := rfl
  have HIM := Lib.hid (IMap.new W0)
  have T1 := Lib.hid (T.out.call ((Mod.refl _ _).alloc (.map #[] 0)))
  have HF1 := Lib.hid (HF0.out.mod ((Mod.refl [] _).alloc (.map #[] 0)))
  have hmb := T.out.lt 1 rfl
  have HMB := Lib.hid (show w.heap.size + 2 ≤ W0.heap.size by omega)
  clear hmb
  go_upto_region 2 with fail
  generalize W0.alloc (.map #[] 0) = W1 at *
  generalize W0.heap.size = mb at *
  clear hmm T HF0 HFAC
  have p6 : W1.cell? ⟨w.heap.size + 1, 7, none⟩ = some (.slice o7 deltas.length c7) := by rw [(T1.out.at 1 rfl).cell]; rfl
  go_wp2_with fail
  clear p6
  go_loopg [15] deltas.length (fun gk i wr => ∃ (j : Nat) (m : List (Int × Sh)), Hid (j + gk = deltas.length) ∧ i = .int .i64 (j : Int) ∧ Hid (OwnF [fb] w wr [(w.heap.size, #[.int .i64 u, .slice g.a g.n g.c, .slice c.a c.n c.c, .slice l.a l.n l.c, .slice fe.a fe.n fe.c, .slice ax.a ax.n ax.c, .slice rga regs.length rgc, .slice fu.a fu.n fu.c, .slice cv.a cv.n cv.c, .slice ata xs.length atc, .map (some fb)], 55), (w.heap.size + 1, #[.string name, .int .i64 adv, .bool mark, .slice o3 pts.length c3, .slice o4 ends.length c4, .slice o5 parts.length c5, .slice o6 anchors.length c6, .slice o7 deltas.length c7, .slice o8 hint.length c8], 44)] ∧ IMap wr mb (mapP shV m) ∧ FacMap wr fb regs xs ∧ Vr.shiftsR regs xs pts.length (deltas.drop j) m = res ∧ ∀ p ∈ m, ShIn p.2))
  case atStart => exact ⟨0, [], by show 0 + deltas.length = deltas.length; omega, rfl, T1.out, HIM.out, HF1.out, HRES.out, by simp⟩
  case round =>
    obtain ⟨j, m, hj, rfl, HI⟩ := hrel
    clear T1 HIM HF1 HRES
    by_cases hjN : j < deltas.length
    case neg =>
      have hjN' : j = deltas.length := by have := hj.out; omega
      subst hjN'
      have k1 : decide ((deltas.length : Int) < (deltas.length : Int)) = false := decide_eq_false (by omega)
      go_wp2_with fail
      go_ret
      obtain ⟨g1, g2, g3, g4, g5⟩ := HI.out
      have : res = .ok m := by rw [← g4, List.drop_length]; rfl
      subst this
      exact ⟨g1.mod, g3, mb, rfl, by have := HMB.out; omega, g2, g5⟩
    have k1 : decide ((j : Int) < (deltas.length : Int)) = true := decide_eq_true (by omega)
    have k2 : (0 : Int) ≤ j := by omega
    have k3 : (j : Int) < (deltas.length : Int) := by omega
    obtain ⟨g1, g2, g3, g4, g5⟩ := HI.out
    have hm0 : Mod [] w0 wr := HM0.out.trans g1.mod (fun x hx hlt => by simp at hx; subst hx; have := HFB.out; omega)
    obtain ⟨a, rfl, -, cs, -, hc0, hcj, rfl, hi0, hi1, hi2, hi3⟩ := (HD.out.mod RDelta.stay hm0).at j hjN
    have c0 := hc0 (by decide)
    have c1 := hcj 1 (by decide) (by decide)
    have c2 := hcj 2 (by decide) (by decide)
    have c3' := hcj 3 (by decide) (by decide)
    simp only [List.getElem?_cons_zero, List.getElem?_cons_succ] at c0 c1 c2 c3'
    have hstep : Vr.shiftsR regs xs pts.length (deltas.drop j) m = match Vr.shiftStep regs xs pts.length m (deltas[j]) with
        | .error e => .error e
        | .ok m' => Vr.shiftsR regs xs pts.length (deltas.drop (j + 1)) m' := by rw [List.drop_eq_getElem_cons hjN]; rfl
    rw [g4] at hstep
    unfold Vr.shiftStep at hstep
    have HIN := Lib.hid (And.intro hi0 (And.intro hi1 (And.intro hi2 hi3)))
    generalize (deltas[j]).region = dr at *
    generalize (deltas[j]).point = dp at *
    generalize (deltas[j]).x = dx at *
    generalize (deltas[j]).y = dy at *
    have HST := Lib.hid hstep
    have HMW := Lib.hid hm0
    have T2 := Lib.hid (g1.alloc #[.int .i64 dr, .int .i64 dp, .int .i64 dx, .int .i64 dy] 83)
    have mAl : Mod [] wr (wr.alloc (.cells #[.int .i64 dr, .int .i64 dp, .int .i64 dx, .int .i64 dy] 83)) := (Mod.refl _ _).alloc _
    have HX2 := Lib.hid (And.intro (g2.mod mAl) (And.intro (g3.mod mAl) (And.intro g5 (HMW.out.then mAl))))
    clear g1 g2 g3 g4 g5 hm0 hc0 hcj hstep hi0 hi1 hi2 hi3 mAl HI hjN
    go_upto_region 5 with fail
    generalize wr.alloc (.cells #[.int .i64 dr, .int .i64 dp, .int .i64 dx, .int .i64 dy] 83) = W2 at *
    generalize wr.heap.size = bd at *
    clear c0 c1 c2 c3'
    have f6 : W2.cell? ⟨w.heap.size, 6, none⟩ = some (.slice rga regs.length rgc) := by rw [(T2.out.at 0 rfl).cell]; rfl
    have f3 : W2.cell? ⟨w.heap.size + 1, 3, none⟩ = some (.slice o3 pts.length c3) := by rw [(T2.out.at 1 rfl).cell]; rfl
    have D0 := (T2.out.at 2 rfl).cell 0
    have D1 := (T2.out.at 2 rfl).cell 1
    by_cases h1 : dr < 0
    · have e1 : decide (dr < 0) = true := decide_eq_true h1
      go_wp2_with fail
      obtain ⟨z1, z2, z3, z4⟩ := HX2.out
      have : res = .error 61 := by have := HST.out; rw [if_neg (by omega)] at this; exact this
      subst this
      exact ⟨rfl, T2.out.mod, z2, rfl⟩
    have e1 : decide (dr < 0) = false := decide_eq_false h1
    by_cases h2 : (regs.length : Int) ≤ dr
    · have e2 : decide ((regs.length : Int) ≤ dr) = true := decide_eq_true h2
      go_wp2_with fail
      obtain ⟨z1, z2, z3, z4⟩ := HX2.out
      have : res = .error 61 := by have := HST.out; rw [if_neg (by omega)] at this; exact this
      subst this
      exact ⟨rfl, T2.out.mod, z2, rfl⟩
    have e2 : decide ((regs.length : Int) ≤ dr) = false := decide_eq_false h2
    by_cases h3 : dp < -1
    · have e3 : decide (dp < -1) = true := decide_eq_true h3
      go_wp2_with fail
      obtain ⟨z1, z2, z3, z4⟩ := HX2.out
      have : res = .error 30 := by have := HST.out; rw [if_pos (by omega), if_neg (by omega)] at this; exact this
      subst this
      exact ⟨rfl, T2.out.mod, z2, rfl⟩
    have e3 : decide (dp < -1) = false := decide_eq_false h3
    by_cases h4 : (pts.length : Int) ≤ dp
    · have e4 : decide ((pts.length : Int) ≤ dp) = true := decide_eq_true h4
      go_wp2_with fail
      obtain ⟨z1, z2, z3, z4⟩ := HX2.out
      have : res = .error 30 := by have := HST.out; rw [if_pos (by omega), if_neg (by omega)] at this; exact this
      subst this
      exact ⟨rfl, T2.out.mod, z2, rfl⟩
    have e4 : decide ((pts.length : Int) ≤ dp) = false := decide_eq_false h4
    obtain ⟨ri, rfl⟩ : ∃ ri : Nat, dr = (ri : Int) := ⟨dr.toNat, by omega⟩
    have hri : ri < regs.length := by omega
    have hst := HST.out
    rw [if_pos (by omega), if_pos (by omega)] at hst
    have hrt : regTents regs (ri : Int) = (regs[ri]).tents := by unfold regTents; simp [hri]
    rw [hrt] at hst
    have HSF := Lib.hid (sfactor_any u g c l fe ax ⟨rga, regs.length, rgc⟩ fu cv ⟨ata, xs.length, atc⟩ fb regs xs B B2 w0 W2 HX2.out.2.2.2 HFB.out ri hri HRX.out.1 (HRX.out.2.mod RRat.stay HX2.out.2.2.2) HX2.out.2.1)
    have hfi := factor_in2 (regs[ri]).tents xs
    unfold spotCells ratV at HSF
    generalize Vr.factorR (regs[ri]).tents xs = fr at *
    obtain ⟨fa, fc⟩ := fr
    have HST2 := Lib.hid hst
    have HFI := Lib.hid hfi
    simp only at HSF
    clear h1 h2 h3 h4 hst hrt HST hfi
    go_upto_region 9 with fail
    clear f6 f3 D0 D1 e1 e2 e3 e4
    have S0 := fun k => (T2.out.at 0 rfl).cell k
    have D0 := (T2.out.at 2 rfl).cell 0
    go_wp2_with fail
    refine HSF.out.mono ?_
    rintro e w3 ⟨rfl, m3, hf3⟩
    have T3 := Lib.hid ((T2.out.callF m3).alloc #[.int .i64 fa, .int .i64 fc] 68)
    have hmbf : mb ∉ [fb] := by have := HMB.out; have := HFL.out; simp; omega
    have mAl : Mod [] w3 (w3.alloc (.cells #[.int .i64 fa, .int .i64 fc] 68)) := (Mod.refl _ _).alloc _
    have HX3 := Lib.hid (And.intro ((HX2.out.1.modF m3 hmbf).mod mAl) (And.intro (hf3.mod mAl) HX2.out.2.2.1))
    clear S0 D0 T2 HX2 HSF m3 hf3 mAl hmbf
    go_upto_region 10 with fail
    generalize w3.alloc (.cells #[.int .i64 fa, .int .i64 fc] 68) = W3 at *
    generalize w3.heap.size = b8 at *
    have D1 := (T3.out.at 2 rfl).cell 1
    have hlk := run_look (P := Try.prog) HX3.out.1 Try.und_SMap Try.underlying3 (Try.zero_Shift W3) dp true
    rw [look_mapP] at hlk
    have hsi := look_in HX3.out.2.2 dp
    cases hlp : lookP m dp with
    | some sh =>
      rw [hlp] at hlk hsi
      have hst2 := HST2.out
      rw [hlp] at hst2
      simp only [Option.map_some, Option.getD_some, Option.isSome_some] at hlk hst2 hsi
      obtain ⟨⟨xa, xb⟩, ya, yb⟩ := sh
      unfold shV at hlk
      simp only [if_true] at hlk hst2
      clear HST2
      have HST2 := Lib.hid hst2
      have HSI := Lib.hid hsi
      have T4 := Lib.hid (T3.out.alloc #[.int .i64 xa, .int .i64 xb, .int .i64 ya, .int .i64 yb] 93)
      have HX4 := Lib.hid (And.intro (HX3.out.1.mod ((Mod.refl _ _).alloc (.cells #[.int .i64 xa, .int .i64 xb, .int .i64 ya, .int .i64 yb] 93))) (And.intro (HX3.out.2.1.mod ((Mod.refl _ _).alloc (.cells #[.int .i64 xa, .int .i64 xb, .int .i64 ya, .int .i64 yb] 93))) HX3.out.2.2))
      clear hst2 hsi T3 HX3
      go_upto_region 11 with fail
      generalize W3.alloc (.cells #[.int .i64 xa, .int .i64 xb, .int .i64 ya, .int .i64 yb] 93) = W4 at *
      generalize W3.heap.size = b9 at *
      clear D1 hlk
      go_upto_region 13 with fail
      have A0 := fun W (mW : Mod [] W4 W) k => ((T4.out.at 2 rfl).every W mW k)
      have A1 := fun W (mW : Mod [] W4 W) k => ((T4.out.at 3 rfl).every W mW k)
      have A2 := fun W (mW : Mod [] W4 W) k => ((T4.out.at 4 rfl).every W mW k)
      have HGX := Lib.hid (fun W => grown_any xa xb dx fa fc W HSI.out.1.1 HSI.out.1.2 HIN.out.2.2.1 HFI.out.1 HFI.out.2)
      have HGY := Lib.hid (fun W => grown_any ya yb dy fa fc W HSI.out.2.1 HSI.out.2.2 HIN.out.2.2.2 HFI.out.1 HFI.out.2)
      have hgx := fun r h => grownR_in (s := (xa, xb)) (n := dx) (f := (fa, fc)) (r := r) h
      have hgy := fun r h => grownR_in (s := (ya, yb)) (n := dy) (f := (fa, fc)) (r := r) h
      generalize Vr.grownR (xa, xb) dx (fa, fc) = gx at *
      generalize Vr.grownR (ya, yb) dy (fa, fc) = gy at *
      cases gx with
      | none =>
        have hr : res = .error 3 := HST2.out
        subst hr
        have HN := Lib.hid (show ∀ W, Calls Try.prog 44 #[.agg #[.int .i64 xa, .int .i64 xb], .int .i64 dx, .agg #[.int .i64 fa, .int .i64 fc]] W fun e w' => e = .panicked [{ v := .iface 33 (.int .i64 3), recovered := false }] ∧ Mod [] W w' from HGX.out)
        clear HGX HGY hgx hgy HST2
        refine Dm.wp_region_doom [true, true, true, true, true, true, true, true, false, true, true, true, true, true, false, false, false] [] 8 (fun c _ => c = [{ v := .iface 33 (.int .i64 3), recovered := false }]) (by kernel_rfl) rfl rfl (by kernel_rfl) ?hAlD287 ?hQ ?mainD287
        case hAlD287 => (intro i hi; cases hi)
        case mainD287 =>
          simp only [pickM]
          iterate 13
           refine steady_go (a' := ?_) (by kernel_rfl) ?_ (fun w' hw' K Q hK => ?_) ?_
           rotate_left 2
           · go_wp2_with fail; exact hK _ (Mod.refl _ _)
           rotate_left
           · rfl
          refine steady_done ?_
          intro w' hw'
          go_wp2_with fail
          refine (HN.out _).mono ?_
          rintro e w4 ⟨rfl, m4⟩
          go_wp2_with fail
          exact hw'.then m4
        case hQ =>
          intro c' a' w' hG hm hc
          subst hc
          exact ⟨hG.defers, (T4.out.call hm).mod, HX4.out.2.1.mod hm, rfl⟩
      | some rx =>
        cases gy with
        | none =>
          have hr : res = .error 3 := HST2.out
          subst hr
          have HN := Lib.hid (show ∀ W, Calls Try.prog 44 #[.agg #[.int .i64 ya, .int .i64 yb], .int .i64 dy, .agg #[.int .i64 fa, .int .i64 fc]] W fun e w' => e = .panicked [{ v := .iface 33 (.int .i64 3), recovered := false }] ∧ Mod [] W w' from HGY.out)
          have HK := Lib.hid (show ∀ W, Calls Try.prog 44 #[.agg #[.int .i64 xa, .int .i64 xb], .int .i64 dx, .agg #[.int .i64 fa, .int .i64 fc]] W fun e w' => e = .returned (.agg #[.int .i64 rx.1, .int .i64 rx.2]) ∧ Mod [] W w' from HGX.out)
          clear HGX HGY hgx hgy HST2
          refine Dm.wp_region_doom [true, true, true, true, true, true, true, true, true, true, true, true, true, true, false, false, false] [] 14 (fun c _ => c = [{ v := .iface 33 (.int .i64 3), recovered := false }]) (by kernel_rfl) rfl rfl (by kernel_rfl) ?hAlD375 ?hQ ?mainD375
          case hAlD375 => (intro i hi; cases hi)
          case mainD375 =>
            simp only [pickM]
            iterate 8
             refine steady_go (a' := ?_) (by kernel_rfl) ?_ (fun w' hw' K Q hK => ?_) ?_
             rotate_left 2
             · go_wp2_with fail; exact hK _ (Mod.refl _ _)
             rotate_left
             · rfl
            refine steady_go (a' := ?_) (by kernel_rfl) ?_ (fun w' hw' K Q hK => ?_) ?_
            rotate_left 2
            · go_wp2_with fail
              refine ((calls_mod HK.out) _ hw').mono ?_
              rintro e w'' ⟨rfl, m''⟩
              go_wp2_with fail
              exact hK _ m''
            rotate_left
            · rfl
            iterate 5
             refine steady_go (a' := ?_) (by kernel_rfl) ?_ (fun w' hw' K Q hK => ?_) ?_
             rotate_left 2
             · go_wp2_with fail; exact hK _ (Mod.refl _ _)
             rotate_left
             · rfl
            refine steady_done ?_
            intro w' hw'
            go_wp2_with fail
            refine (HN.out _).mono ?_
            rintro e w4 ⟨rfl, m4⟩
            go_wp2_with fail
            exact hw'.then m4
          case hQ =>
            intro c' a' w' hG hm hc
            subst hc
            exact ⟨hG.defers, (T4.out.call hm).mod, HX4.out.2.1.mod hm, rfl⟩
        | some ry =>
          have HY := Lib.hid (show ∀ W, Calls Try.prog 44 #[.agg #[.int .i64 ya, .int .i64 yb], .int .i64 dy, .agg #[.int .i64 fa, .int .i64 fc]] W fun e w' => e = .returned (.agg #[.int .i64 ry.1, .int .i64 ry.2]) ∧ Mod [] W w' from HGY.out)
          have HK := Lib.hid (show ∀ W, Calls Try.prog 44 #[.agg #[.int .i64 xa, .int .i64 xb], .int .i64 dx, .agg #[.int .i64 fa, .int .i64 fc]] W fun e w' => e = .returned (.agg #[.int .i64 rx.1, .int .i64 rx.2]) ∧ Mod [] W w' from HGX.out)
          have HRI := Lib.hid (show ShIn (rx, ry) from ⟨hgx rx rfl, hgy ry rfl⟩)
          have HRES := Lib.hid (show res = Vr.shiftsR regs xs pts.length (deltas.drop (j + 1)) (putP m dp (rx, ry)) from HST2.out)
          clear HGX HGY hgx hgy HST2
          refine wp_region_mask 16 [true, true, true, true, true, true, true, true, true, true, true, true, true, true, true, true] [] (by kernel_rfl) (by kernel_rfl) (by simp) ?_
          simp only [pickM]
          iterate 8
           refine steady_go (a' := ?_) (by kernel_rfl) ?_ (fun w' hw' K Q hK => ?_) ?_
           rotate_left 2
           · go_wp2_with fail; exact hK _ (Mod.refl _ _)
           rotate_left
           · rfl
          refine steady_go (a' := ?_) (by kernel_rfl) ?_ (fun w' hw' K Q hK => ?_) ?_
          rotate_left 2
          · go_wp2_with fail
            refine ((calls_mod HK.out) _ hw').mono ?_
            rintro e w'' ⟨rfl, m''⟩
            go_wp2_with fail
            exact hK _ m''
          rotate_left
          · rfl
          iterate 5
           refine steady_go (a' := ?_) (by kernel_rfl) ?_ (fun w' hw' K Q hK => ?_) ?_
           rotate_left 2
           · go_wp2_with fail; exact hK _ (Mod.refl _ _)
           rotate_left
           · rfl
          refine steady_go (a' := ?_) (by kernel_rfl) ?_ (fun w' hw' K Q hK => ?_) ?_
          rotate_left 2
          · go_wp2_with fail
            refine ((calls_mod HY.out) _ hw').mono ?_
            rintro e w'' ⟨rfl, m''⟩
            go_wp2_with fail
            exact hK _ m''
          rotate_left
          · rfl
          refine steady_go (a' := ?_) (by kernel_rfl) ?_ (fun w' hw' K Q hK => ?_) ?_
          rotate_left 2
          · go_wp2_with fail; exact hK _ (Mod.refl _ _)
          rotate_left
          · rfl
          refine steady_done ?_
          refine lates_end (fun w' hw' _ => ?_)
          simp only [List.drop_succ_cons, List.drop_zero]
          have T5 := Lib.hid (T4.out.call hw')
          have hgt : mb ∉ [fb] := by have := HMB.out; have := HFL.out; simp; omega
          obtain ⟨W6, hmu, hM6, o1, o2, o3', o4', o5'⟩ := run_put (P := Try.prog) (HX4.out.1.mod hw') Try.und_SMap Try.underlying3 dp (.agg #[.int .i64 rx.1, .int .i64 rx.2, .int .i64 ry.1, .int .i64 ry.2])
          rw [show (Value.agg #[.int .i64 rx.1, .int .i64 rx.2, .int .i64 ry.1, .int .i64 ry.2]) = shV (rx, ry) from rfl, put_mapP] at hM6
          have HF5 := Lib.hid ((HX4.out.2.1.mod hw').of (w' := W6) (o5' fb (by intro he; exact hgt (by simp [he]))))
          have HIN5 := Lib.hid (put_in HX4.out.2.2 dp HRI.out)
          have HM6 := Lib.hid hM6
          have T6 := Lib.hid (show OwnF [fb] w W6 [(w.heap.size, #[.int .i64 u, .slice g.a g.n g.c, .slice c.a c.n c.c, .slice l.a l.n l.c, .slice fe.a fe.n fe.c, .slice ax.a ax.n ax.c, .slice rga regs.length rgc, .slice fu.a fu.n fu.c, .slice cv.a cv.n cv.c, .slice ata xs.length atc, .map (some fb)], 55), (w.heap.size + 1, #[.string name, .int .i64 adv, .bool mark, .slice o3 pts.length c3, .slice o4 ends.length c4, .slice o5 parts.length c5, .slice o6 anchors.length c6, .slice (some a) deltas.length c7, .slice o8 hint.length c8], 44)] from by
            have S := OwnF.left (l := [(w.heap.size, #[.int .i64 u, .slice g.a g.n g.c, .slice c.a c.n c.c, .slice l.a l.n l.c, .slice fe.a fe.n fe.c, .slice ax.a ax.n ax.c, .slice rga regs.length rgc, .slice fu.a fu.n fu.c, .slice cv.a cv.n cv.c, .slice ata xs.length atc, .map (some fb)], 55), (w.heap.size + 1, #[.string name, .int .i64 adv, .bool mark, .slice o3 pts.length c3, .slice o4 ends.length c4, .slice o5 parts.length c5, .slice o6 anchors.length c6, .slice (some a) deltas.length c7, .slice o8 hint.length c8], 44)]) (l' := [(bd, #[.int .i64 (ri : Int), .int .i64 dp, .int .i64 dx, .int .i64 dy], 83), (b8, #[.int .i64 fa, .int .i64 fc], 68), (b9, #[.int .i64 xa, .int .i64 xb, .int .i64 ya, .int .i64 yb], 93)]) T5.out
            refine S.off ⟨o1.trans S.mod.os, o2.trans S.mod.tape, o3'.trans S.mod.output, by have := S.mod.size; omega, fun k hk hn => ?_⟩ fun p hp => ?_
            · rw [o5' k (by have := HMB.out; omega)]; exact S.mod.block k hk hn
            · refine o5' p.1 (fun he => ?_)
              have := HMB.out
              simp only [List.mem_cons, List.not_mem_nil, or_false] at hp
              rcases hp with rfl | rfl <;> simp at he <;> omega)
          clear A0 A1 A2 hw' T4 T5 HX4 HK HY hM6 o1 o2 o3' o4' o5' hgt
          have e5 : IntKind.i64.wrap ((j : Int) + 1) = (j : Int) + 1 := IntWalk.i64_in _ (by have := HDL.out; omega)
          go_wp2_with fail
          go_roundg (gk - 1)
          case measure => have := hj.out; omega
          case rel => exact ⟨j + 1, putP m dp (rx, ry), by have := hj.out; show j + 1 + (gk - 1) = deltas.length; omega, by rw [Int.natCast_add]; rfl, T6.out, HM6.out, HF5.out, HRES.out.symm, HIN5.out⟩
    | none =>
      rw [hlp] at hlk hsi
      have hst2 := HST2.out
      rw [hlp] at hst2
      simp only [Option.map_none, Option.getD_none, Option.isSome_none] at hlk hst2 hsi
      simp only [if_true] at hlk
      clear HST2
      have HSI := Lib.hid hsi
      have HST2 := Lib.hid hst2
      have T4' := Lib.hid (T3.out.alloc #[.int .i64 0, .int .i64 0, .int .i64 0, .int .i64 0] 93)
      have HX4' := Lib.hid (And.intro (HX3.out.1.mod ((Mod.refl _ _).alloc (.cells #[.int .i64 0, .int .i64 0, .int .i64 0, .int .i64 0] 93))) (And.intro (HX3.out.2.1.mod ((Mod.refl _ _).alloc (.cells #[.int .i64 0, .int .i64 0, .int .i64 0, .int .i64 0] 93))) HX3.out.2.2))
      clear hst2 hsi T3 HX3
      go_upto_region 11 with fail
      generalize W3.alloc (.cells #[.int .i64 0, .int .i64 0, .int .i64 0, .int .i64 0] 93) = W3' at *
      generalize W3.heap.size = b9 at *
      clear D1 hlk
      go_wp2_with fail
      refine (wholeV_any _ _).mono ?_
      rintro e w5 ⟨rfl, m5⟩
      have T5 := Lib.hid (T4'.out.call m5)
      have HX5 := Lib.hid (And.intro (HX4'.out.1.mod m5) (And.intro (HX4'.out.2.1.mod m5) HX4'.out.2.2))
      clear T4' HX4' m5
      go_wp2_with fail
      refine (wholeV_any _ _).mono ?_
      rintro e w6 ⟨rfl, m6⟩
      have T6 := Lib.hid (T5.out.call m6)
      have HX6 := Lib.hid (And.intro (HX5.out.1.mod m6) (And.intro (HX5.out.2.1.mod m6) HX5.out.2.2))
      clear T5 HX5 m6
      have B9 := T6.out.at 4 rfl
      have q0 := B9.cell 0
      have q1 := B9.cell 1
      have q2 := B9.cell 2
      have q3 := B9.cell 3
      have z0 := fun k => B9.frozen k
      have hb9 : w.heap.size + 2 ≤ b9 := by have := T6.out.ge 4 rfl; have := T6.out.nodup; simp at this; have := T6.out.ge 3 rfl; omega
      have T4 := Lib.hid ((((T6.out.set 4 rfl 0 (.int .i64 0)).set 4 rfl 1 (.int .i64 1)).set 4 rfl 2 (.int .i64 0)).set 4 rfl 3 (.int .i64 1))
      clear B9
      go_upto_region 13 with fail
      have XF : ((((w6.setCell ⟨b9, 0, none⟩ (.int .i64 0)).setCell ⟨b9, 1, none⟩ (.int .i64 1)).setCell ⟨b9, 2, none⟩ (.int .i64 0)).setCell ⟨b9, 3, none⟩ (.int .i64 1)) = setN w6 (b9) (0) [.int .i64 0, .int .i64 1, .int .i64 0, .int .i64 1] := rfl
      rw [XF]
      clear XF
      have XF : (((w6.setCell ⟨b9, 0, none⟩ (.int .i64 0)).setCell ⟨b9, 1, none⟩ (.int .i64 1)).setCell ⟨b9, 2, none⟩ (.int .i64 0)).setCell ⟨b9, 3, none⟩ (.int .i64 1) = setN w6 b9 0 [.int .i64 0, .int .i64 1, .int .i64 0, .int .i64 1] := rfl
      rw [XF] at T4
      have hmb9 : mb ≠ b9 := fun he => by
        obtain ⟨es, ck, h1, _⟩ := HX6.out.1
        have h2 := T6.out.at 4 rfl
        unfold Blk at h2
        rw [← he, h1] at h2
        cases h2
      have HX4 := Lib.hid (And.intro (HX6.out.1.of (w' := setN w6 b9 0 [.int .i64 0, .int .i64 1, .int .i64 0, .int .i64 1]) (setN_other hmb9 _ _ _)) (And.intro (HX6.out.2.1.of (w' := setN w6 b9 0 [.int .i64 0, .int .i64 1, .int .i64 0, .int .i64 1]) (setN_other (by have := HFL.out; omega) _ _ _)) HX6.out.2.2))
      generalize setN w6 b9 0 [.int .i64 0, .int .i64 1, .int .i64 0, .int .i64 1] = W4 at *
      clear XF q0 q1 q2 q3 z0 T6 HX6 hmb9
      have A0 := fun W (mW : Mod [] W4 W) k => ((T4.out.at 2 rfl).every W mW k)
      have A1 := fun W (mW : Mod [] W4 W) k => ((T4.out.at 3 rfl).every W mW k)
      have A2 := fun W (mW : Mod [] W4 W) k => ((T4.out.at 4 rfl).every W mW k)
      have HGX := Lib.hid (fun W => grown_any 0 1 dx fa fc W (by unfold I64; omega) (by unfold I64; omega) HIN.out.2.2.1 HFI.out.1 HFI.out.2)
      have HGY := Lib.hid (fun W => grown_any 0 1 dy fa fc W (by unfold I64; omega) (by unfold I64; omega) HIN.out.2.2.2 HFI.out.1 HFI.out.2)
      have hgx := fun r h => grownR_in (s := ((0 : Int), (1 : Int))) (n := dx) (f := (fa, fc)) (r := r) h
      have hgy := fun r h => grownR_in (s := ((0 : Int), (1 : Int))) (n := dy) (f := (fa, fc)) (r := r) h
      generalize Vr.grownR (0, 1) dx (fa, fc) = gx at *
      generalize Vr.grownR (0, 1) dy (fa, fc) = gy at *
      cases gx with
      | none =>
        have hr : res = .error 3 := HST2.out
        subst hr
        have HN := Lib.hid (show ∀ W, Calls Try.prog 44 #[.agg #[.int .i64 0, .int .i64 1], .int .i64 dx, .agg #[.int .i64 fa, .int .i64 fc]] W fun e w' => e = .panicked [{ v := .iface 33 (.int .i64 3), recovered := false }] ∧ Mod [] W w' from HGX.out)
        clear HGX HGY hgx hgy HST2
        refine Dm.wp_region_doom [true, true, true, true, true, true, true, true, false, true, true, true, true, true, false, false, false] [] 8 (fun c _ => c = [{ v := .iface 33 (.int .i64 3), recovered := false }]) (by kernel_rfl) rfl rfl (by kernel_rfl) ?hAlD651 ?hQ ?mainD651
        case hAlD651 => (intro i hi; cases hi)
        case mainD651 =>
          simp only [pickM]
          iterate 13
           refine steady_go (a' := ?_) (by kernel_rfl) ?_ (fun w' hw' K Q hK => ?_) ?_
           rotate_left 2
           · go_wp2_with fail; exact hK _ (Mod.refl _ _)
           rotate_left
           · rfl
          refine steady_done ?_
          intro w' hw'
          go_wp2_with fail
          refine (HN.out _).mono ?_
          rintro e w4 ⟨rfl, m4⟩
          go_wp2_with fail
          exact hw'.then m4
        case hQ =>
          intro c' a' w' hG hm hc
          subst hc
          exact ⟨hG.defers, (T4.out.call hm).mod, HX4.out.2.1.mod hm, rfl⟩
      | some rx =>
        cases gy with
        | none =>
          have hr : res = .error 3 := HST2.out
          subst hr
          have HN := Lib.hid (show ∀ W, Calls Try.prog 44 #[.agg #[.int .i64 0, .int .i64 1], .int .i64 dy, .agg #[.int .i64 fa, .int .i64 fc]] W fun e w' => e = .panicked [{ v := .iface 33 (.int .i64 3), recovered := false }] ∧ Mod [] W w' from HGY.out)
          have HK := Lib.hid (show ∀ W, Calls Try.prog 44 #[.agg #[.int .i64 0, .int .i64 1], .int .i64 dx, .agg #[.int .i64 fa, .int .i64 fc]] W fun e w' => e = .returned (.agg #[.int .i64 rx.1, .int .i64 rx.2]) ∧ Mod [] W w' from HGX.out)
          clear HGX HGY hgx hgy HST2
          refine Dm.wp_region_doom [true, true, true, true, true, true, true, true, true, true, true, true, true, true, false, false, false] [] 14 (fun c _ => c = [{ v := .iface 33 (.int .i64 3), recovered := false }]) (by kernel_rfl) rfl rfl (by kernel_rfl) ?hAlD739 ?hQ ?mainD739
          case hAlD739 => (intro i hi; cases hi)
          case mainD739 =>
            simp only [pickM]
            iterate 8
             refine steady_go (a' := ?_) (by kernel_rfl) ?_ (fun w' hw' K Q hK => ?_) ?_
             rotate_left 2
             · go_wp2_with fail; exact hK _ (Mod.refl _ _)
             rotate_left
             · rfl
            refine steady_go (a' := ?_) (by kernel_rfl) ?_ (fun w' hw' K Q hK => ?_) ?_
            rotate_left 2
            · go_wp2_with fail
              refine ((calls_mod HK.out) _ hw').mono ?_
              rintro e w'' ⟨rfl, m''⟩
              go_wp2_with fail
              exact hK _ m''
            rotate_left
            · rfl
            iterate 5
             refine steady_go (a' := ?_) (by kernel_rfl) ?_ (fun w' hw' K Q hK => ?_) ?_
             rotate_left 2
             · go_wp2_with fail; exact hK _ (Mod.refl _ _)
             rotate_left
             · rfl
            refine steady_done ?_
            intro w' hw'
            go_wp2_with fail
            refine (HN.out _).mono ?_
            rintro e w4 ⟨rfl, m4⟩
            go_wp2_with fail
            exact hw'.then m4
          case hQ =>
            intro c' a' w' hG hm hc
            subst hc
            exact ⟨hG.defers, (T4.out.call hm).mod, HX4.out.2.1.mod hm, rfl⟩
        | some ry =>
          have HY := Lib.hid (show ∀ W, Calls Try.prog 44 #[.agg #[.int .i64 0, .int .i64 1], .int .i64 dy, .agg #[.int .i64 fa, .int .i64 fc]] W fun e w' => e = .returned (.agg #[.int .i64 ry.1, .int .i64 ry.2]) ∧ Mod [] W w' from HGY.out)
          have HK := Lib.hid (show ∀ W, Calls Try.prog 44 #[.agg #[.int .i64 0, .int .i64 1], .int .i64 dx, .agg #[.int .i64 fa, .int .i64 fc]] W fun e w' => e = .returned (.agg #[.int .i64 rx.1, .int .i64 rx.2]) ∧ Mod [] W w' from HGX.out)
          have HRI := Lib.hid (show ShIn (rx, ry) from ⟨hgx rx rfl, hgy ry rfl⟩)
          have HRES := Lib.hid (show res = Vr.shiftsR regs xs pts.length (deltas.drop (j + 1)) (putP m dp (rx, ry)) from HST2.out)
          clear HGX HGY hgx hgy HST2
          refine wp_region_mask 16 [true, true, true, true, true, true, true, true, true, true, true, true, true, true, true, true] [] (by kernel_rfl) (by kernel_rfl) (by simp) ?_
          simp only [pickM]
          iterate 8
           refine steady_go (a' := ?_) (by kernel_rfl) ?_ (fun w' hw' K Q hK => ?_) ?_
           rotate_left 2
           · go_wp2_with fail; exact hK _ (Mod.refl _ _)
           rotate_left
           · rfl
          refine steady_go (a' := ?_) (by kernel_rfl) ?_ (fun w' hw' K Q hK => ?_) ?_
          rotate_left 2
          · go_wp2_with fail
            refine ((calls_mod HK.out) _ hw').mono ?_
            rintro e w'' ⟨rfl, m''⟩
            go_wp2_with fail
            exact hK _ m''
          rotate_left
          · rfl
          iterate 5
           refine steady_go (a' := ?_) (by kernel_rfl) ?_ (fun w' hw' K Q hK => ?_) ?_
           rotate_left 2
           · go_wp2_with fail; exact hK _ (Mod.refl _ _)
           rotate_left
           · rfl
          refine steady_go (a' := ?_) (by kernel_rfl) ?_ (fun w' hw' K Q hK => ?_) ?_
          rotate_left 2
          · go_wp2_with fail
            refine ((calls_mod HY.out) _ hw').mono ?_
            rintro e w'' ⟨rfl, m''⟩
            go_wp2_with fail
            exact hK _ m''
          rotate_left
          · rfl
          refine steady_go (a' := ?_) (by kernel_rfl) ?_ (fun w' hw' K Q hK => ?_) ?_
          rotate_left 2
          · go_wp2_with fail; exact hK _ (Mod.refl _ _)
          rotate_left
          · rfl
          refine steady_done ?_
          refine lates_end (fun w' hw' _ => ?_)
          simp only [List.drop_succ_cons, List.drop_zero]
          have T5 := Lib.hid (T4.out.call hw')
          have hgt : mb ∉ [fb] := by have := HMB.out; have := HFL.out; simp; omega
          obtain ⟨W6, hmu, hM6, o1, o2, o3', o4', o5'⟩ := run_put (P := Try.prog) (HX4.out.1.mod hw') Try.und_SMap Try.underlying3 dp (.agg #[.int .i64 rx.1, .int .i64 rx.2, .int .i64 ry.1, .int .i64 ry.2])
          rw [show (Value.agg #[.int .i64 rx.1, .int .i64 rx.2, .int .i64 ry.1, .int .i64 ry.2]) = shV (rx, ry) from rfl, put_mapP] at hM6
          have HF5 := Lib.hid ((HX4.out.2.1.mod hw').of (w' := W6) (o5' fb (by intro he; exact hgt (by simp [he]))))
          have HIN5 := Lib.hid (put_in HX4.out.2.2 dp HRI.out)
          have HM6 := Lib.hid hM6
          have T6 := Lib.hid (show OwnF [fb] w W6 [(w.heap.size, #[.int .i64 u, .slice g.a g.n g.c, .slice c.a c.n c.c, .slice l.a l.n l.c, .slice fe.a fe.n fe.c, .slice ax.a ax.n ax.c, .slice rga regs.length rgc, .slice fu.a fu.n fu.c, .slice cv.a cv.n cv.c, .slice ata xs.length atc, .map (some fb)], 55), (w.heap.size + 1, #[.string name, .int .i64 adv, .bool mark, .slice o3 pts.length c3, .slice o4 ends.length c4, .slice o5 parts.length c5, .slice o6 anchors.length c6, .slice (some a) deltas.length c7, .slice o8 hint.length c8], 44)] from by
            have S := OwnF.left (l := [(w.heap.size, #[.int .i64 u, .slice g.a g.n g.c, .slice c.a c.n c.c, .slice l.a l.n l.c, .slice fe.a fe.n fe.c, .slice ax.a ax.n ax.c, .slice rga regs.length rgc, .slice fu.a fu.n fu.c, .slice cv.a cv.n cv.c, .slice ata xs.length atc, .map (some fb)], 55), (w.heap.size + 1, #[.string name, .int .i64 adv, .bool mark, .slice o3 pts.length c3, .slice o4 ends.length c4, .slice o5 parts.length c5, .slice o6 anchors.length c6, .slice (some a) deltas.length c7, .slice o8 hint.length c8], 44)]) (l' := [(bd, #[.int .i64 (ri : Int), .int .i64 dp, .int .i64 dx, .int .i64 dy], 83), (b8, #[.int .i64 fa, .int .i64 fc], 68), (b9, #[.int .i64 0, .int .i64 1, .int .i64 0, .int .i64 1], 93)]) T5.out
            refine S.off ⟨o1.trans S.mod.os, o2.trans S.mod.tape, o3'.trans S.mod.output, by have := S.mod.size; omega, fun k hk hn => ?_⟩ fun p hp => ?_
            · rw [o5' k (by have := HMB.out; omega)]; exact S.mod.block k hk hn
            · refine o5' p.1 (fun he => ?_)
              have := HMB.out
              simp only [List.mem_cons, List.not_mem_nil, or_false] at hp
              rcases hp with rfl | rfl <;> simp at he <;> omega)
          clear A0 A1 A2 hw' T4 T5 HX4 HK HY hM6 o1 o2 o3' o4' o5' hgt
          have e5 : IntKind.i64.wrap ((j : Int) + 1) = (j : Int) + 1 := IntWalk.i64_in _ (by have := HDL.out; omega)
          go_wp2_with fail
          go_roundg (gk - 1)
          case measure => have := hj.out; omega
          case rel => exact ⟨j + 1, putP m dp (rx, ry), by have := hj.out; show j + 1 + (gk - 1) = deltas.length; omega, by rw [Int.natCast_add]; rfl, T6.out, HM6.out, HF5.out, HRES.out.symm, HIN5.out⟩
end Go.Proofs.Ytaloembfekdkoaa
