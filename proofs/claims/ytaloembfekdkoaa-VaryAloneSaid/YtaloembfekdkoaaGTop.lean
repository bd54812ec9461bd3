/-
  vary: a place's ratios, whatever comes of it.
  vary: Glyph.
-/
import Derived.Test.YtaloembfekdkoaaVaryGlyph2
import Derived.Test.YtaloembfekdkoaaVaryNormal3

namespace Go.Proofs.Ytaloembfekdkoaa
open Go.RowKit
set_option linter.unusedVariables false
theorem tell_right {n d : Int} (hd : d ≠ 0) (h1 : n.natAbs ≤ 9223372036854775807) (h2 : d.natAbs ≤ 9223372036854775807) : Rat.rightB (Rat.tell n d).1 (Rat.tell n d).2.1 = true ∧ I64 (Rat.tell n d).1 ∧ I64 (Rat.tell n d).2.1 := by
  have h3 := Rat.tell_some h1 h2
  obtain ⟨⟨a, b, c⟩, he⟩ : ∃ r, Rat.tell n d = r := ⟨_, rfl⟩
  rw [he] at h3 ⊢
  simp only at h3
  subst h3
  obtain ⟨k1, k2, k3, k4, k5⟩ := Rat.tell_told hd he
  refine ⟨k1, ?_, ?_⟩ <;> (unfold I64; simp only; omega)
theorem alongR_right {v l d m : Int} (h : Vr.onAxis v l d m) : Rat.rightB (Vr.alongR v l d m).1 (Vr.alongR v l d m).2 = true ∧ I64 (Vr.alongR v l d m).1 ∧ I64 (Vr.alongR v l d m).2 := by
  obtain ⟨h1, h2, h3, h4, h5, h6⟩ := h
  unfold Vr.alongR
  split
  · exact tell_right (by omega) (by omega) (by omega)
  · split
    · exact tell_right (by omega) (by omega) (by omega)
    · refine ⟨by decide, ?_, ?_⟩ <;> (unfold I64; simp only; omega)
theorem places_right : ∀ (xs : List Int) (ys : List Ax), Vr.allOn xs ys → ∀ p ∈ Vr.places xs ys, Rat.rightB p.1 p.2 = true ∧ I64 p.1 ∧ I64 p.2
  | [], _, _, p, hp => by simp [Vr.places] at hp
  | _ :: _, [], _, p, hp => by simp [Vr.places] at hp
  | x :: xs, a :: ys, h, p, hp => by
    unfold Vr.places at hp
    rcases List.mem_cons.1 hp with rfl | hp
    · exact alongR_right h.1
    · exact places_right xs ys h.2 p hp
theorem rats_of_pairs {w : World} {v : Value} {l : List (Int × Int)} (h : PairsAt w v l) (hl : l.length ≤ maxLen) (hr : ∀ p ∈ l, Rat.rightB p.1 p.2 = true ∧ I64 p.1 ∧ I64 p.2) : Rows 2 RRat 0 w v l := by
  obtain ⟨oa, cap, rfl, h⟩ := h
  refine ⟨oa, cap, rfl, hl, fun i hi => ?_⟩
  obtain ⟨b, rfl, h0, h1⟩ := h i hi
  refine ⟨_, rfl, Nat.zero_le _, [.int .i64 l[i].1, .int .i64 l[i].2], rfl, fun j hj => ?_, rfl, hr _ (List.getElem_mem hi)⟩
  rw [addr_add_add]
  have e : (⟨b, 0, Option.none⟩ : Addr).add (i * 2 + j) = ⟨b, i * 2 + j, Option.none⟩ := by unfold Addr.add; split <;> simp_all
  rw [e]
  rcases j with _ | _ | j
  · exact h0
  · exact h1
  · omega
def axOf (d : DAxis) : Ax := ⟨d.name, d.min, d.dflt, d.max⟩
theorem axes_rows {B : Nat} {w : World} {oa : Option Addr} {n c : Nat} {l : List DAxis} (h : Rows 4 RAxis B w (.slice oa n c) l) : AxesAt w oa (l.map axOf) := by
  obtain ⟨oa', c', he, _, h⟩ := h
  cases he
  intro i hi
  rw [List.length_map] at hi
  obtain ⟨a, ha, _, cs, _, hc, rfl, _⟩ := h i hi
  refine ⟨a, ha, ?_⟩
  simp only [List.getElem_map, axOf]
  exact ⟨hc 0 (by omega), hc 1 (by omega), hc 2 (by omega), hc 3 (by omega)⟩
theorem place_rows {B : Nat} {w : World} {oa : Option Addr} {n c : Nat} {l : List Int} (h : Rows 1 RInt B w (.slice oa n c) l) : PlaceAt w oa l := by
  obtain ⟨oa', c', he, _, h⟩ := h
  cases he
  intro i hi
  obtain ⟨a, ha, _, cs, _, hc, rfl, _⟩ := h i hi
  refine ⟨a, ha, ?_⟩
  have := hc 0 (by omega)
  rw [addr_add_add, Nat.add_zero, Nat.mul_one] at this
  exact this
open Classical in
noncomputable def Vr.normR (axes : List DAxis) (xs : List Int) : Except Int (List (Int × Int)) :=
  if xs.length = axes.length then (if Vr.allOn xs (axes.map axOf) then .ok (Vr.places xs (axes.map axOf)) else .error 60) else .error 1
def NormRes (r : Except Int (List (Int × Int))) (w : World) (e : Ending) (w' : World) : Prop :=
  Mod [] w w' ∧ match r with
  | .ok l => ∃ h : Hd, e = .returned (.tuple #[.slice h.a h.n h.c, .int .i64 0]) ∧ Rows 2 RRat 0 w' (.slice h.a h.n h.c) l
  | .error k => k ≠ 0 ∧ e = .returned (.tuple #[.slice none 0 0, .int .i64 k])
theorem normal_any (u : Int) (g c l fe ax rg fu cv pl : Hd) (axes : List DAxis) (xs : List Int) (B B2 : Nat) (w : World) (hA : Rows 4 RAxis B w (.slice ax.a ax.n ax.c) axes) (h6 : axes.length ≤ 6) (hP : Rows 1 RInt B2 w (.slice pl.a pl.n pl.c) xs) :
    Calls Try.prog 9 #[.agg (fontCells u g c l fe ax rg fu cv), .slice pl.a pl.n pl.c] w (NormRes (Vr.normR axes xs) w) := by
  have hA' := axes_rows hA
  have hP' := place_rows hP
  have han : ax.n = axes.length := by obtain ⟨_, _, he, _⟩ := hA; simp at he; omega
  have hpn : pl.n = xs.length := by obtain ⟨_, _, he, _⟩ := hP; simp at he; omega
  have hml := hP.form
  obtain ⟨_, _, _, hml⟩ := hml
  obtain ⟨pa, pn, pc⟩ := pl
  simp only at hpn hP' ⊢
  subst hpn
  unfold Vr.normR
  by_cases h1 : xs.length = axes.length
  · rw [if_pos h1]
    by_cases h2 : Vr.allOn xs (axes.map axOf)
    · rw [if_pos h2]
      refine (normal_yes u g c l fe ax rg fu cv pa pc xs (axes.map axOf) w (by omega) (by simp [han]) (by omega) hP' hA' h2).mono ?_
      rintro e w' ⟨v, rfl, m, hv⟩
      obtain ⟨oa, cap, he, _⟩ := id hv
      have hr := rats_of_pairs hv (by rw [places_length]; simp; omega) (places_right _ _ h2)
      subst he
      exact ⟨m, ⟨oa, _, cap⟩, rfl, hr⟩
    · rw [if_neg h2]
      refine (normal_no u g c l fe ax rg fu cv pa pc xs (axes.map axOf) w (by omega) (by simp [han]) (by omega) hP' hA' h2).mono ?_
      rintro e w' ⟨rfl, m⟩
      exact ⟨m, by decide, rfl⟩
  · rw [if_neg h1]
    refine (normal_arg u g c l fe ax rg fu cv pa xs.length pc w (by omega)).mono ?_
    rintro e w' ⟨rfl, m⟩
    exact ⟨m, by decide, rfl⟩
end Go.Proofs.Ytaloembfekdkoaa

namespace Go.Proofs.Ytaloembfekdkoaa
open Go.RowKit
set_option linter.unusedVariables false
set_option maxRecDepth 100000
noncomputable def Vr.atGlyph (axes : List DAxis) (regs : List DRegion) (xs : List Int) (gl : DGlyph) : Except Int DGlyph :=
  match Vr.normR axes xs with
  | .error k => .error k
  | .ok at' => Vr.glyphR regs at' gl
def VGRes (r : Except Int DGlyph) (w : World) (e : Ending) (w' : World) : Prop :=
  Mod [] w w' ∧ match r with
  | .ok g => ∃ cs, e = .returned (.tuple #[.agg cs.toArray, .int .i64 0]) ∧ RGlyph w.heap.size w' cs g
  | .error k => e = .returned (.tuple #[.agg zeroGlyphL.toArray, .int .i64 k])
theorem FacMap.new (w : World) (regs : List DRegion) (xs : List (Int × Int)) : FacMap (w.alloc (.map #[] 0)) w.heap.size regs xs := ⟨[], IMap.new w, by simp⟩
theorem vg_ret (Q : Ending → World → Prop) (tb : Nat) (x0 x1 x2 x3 x4 x5 x6 x7 x8 y : Value) (a : Act) (W : World) (B : Blk W tb #[x0, x1, x2, x3, x4, x5, x6, x7, x8] 44)
    (s6 : a.tmps[6]? = some (.pointer (some ⟨tb, 0, none⟩))) (s7 : a.tmps[7]? = some y) (hd : a.defers = []) (hQ : Q (.returned (.tuple #[.agg #[x0, x1, x2, x3, x4, x5, x6, x7, x8], y])) W) :
    bodyPost Try.prog Try.f6 Q .ret a W := by
  have r0 := B.cell 0
  have r1 := B.cell 1
  have r2 := B.cell 2
  have r3 := B.cell 3
  have r4 := B.cell 4
  have r5 := B.cell 5
  have r6 := B.cell 6
  have r7 := B.cell 7
  have r8 := B.cell 8
  simp only [List.getElem?_toArray, List.getElem?_cons_zero, List.getElem?_cons_succ] at r0 r1 r2 r3 r4 r5 r6 r7 r8
  exact bodyPost_ret (v := .tuple #[.agg #[x0, x1, x2, x3, x4, x5, x6, x7, x8], y]) (by simp [results, Try.results6, go_sem, r0, r1, r2, r3, r4, r5, r6, r7, r8, s6, s7]) hd hQ
theorem Rows.elem {α : Type} {k B : Nat} {R : Nat → World → List Value → α → Prop} {w : World} {oa : Option Addr} {n cap : Nat} {l : List α} (h : Rows k R B w (.slice oa n cap) l) {i : Nat} {x : α} (hx : l[i]? = some x) :
    ∃ a : Addr, oa = some a ∧ B ≤ a.block ∧ ∃ cs, cs.length = k ∧ (0 < k → w.cell? (a.add (i * k)) = cs[0]?) ∧ (∀ j, 0 < j → j < k → w.cell? ⟨(a.add (i * k)).block, (a.add (i * k)).off + j, Option.none⟩ = cs[j]?) ∧ R B w cs x := by
  obtain ⟨hi, rfl⟩ := List.getElem?_eq_some_iff.1 hx
  exact h.at i hi
set_option maxHeartbeats 8000000 in
theorem vglyph_any (u : Int) (g c l fe ax rg fu cv pl : Hd) (glyphs : List DGlyph) (regs : List DRegion) (axes : List DAxis) (xs : List Int) (B B2 : Nat) (w : World) (i : Nat) (gl : DGlyph) (hgl : glyphs[i]? = some gl)
    (hGl : Rows 9 RGlyph B w (.slice g.a g.n g.c) glyphs) (hR : Rows 1 RRegion B w (.slice rg.a rg.n rg.c) regs) (hA : Rows 4 RAxis B w (.slice ax.a ax.n ax.c) axes) (h6 : axes.length ≤ 6) (hP : Rows 1 RInt B2 w (.slice pl.a pl.n pl.c) xs) (hs : GSmall gl) :
    Calls Try.prog 6 #[.agg (fontCells u g c l fe ax rg fu cv), .int .i64 (i : Int), .slice pl.a pl.n pl.c] w (VGRes (Vr.atGlyph axes regs xs gl) w) := by
  obtain ⟨hi, hge⟩ := List.getElem?_eq_some_iff.1 hgl
  have hgn : g.n = glyphs.length := by obtain ⟨_, _, he, _⟩ := hGl; simp at he; omega
  have HNO := Lib.hid (fun W (m : Mod [] w W) => normal_any u g c l fe ax rg fu cv pl axes xs B B2 W (hA.mod RAxis.stay m) h6 (hP.mod RInt.stay m))
  have T := Lib.hid (own2 w (fontCells u g c l fe ax rg fu cv) 31 zeroGlyphL.toArray 44)
  have MA := Lib.hid (((Mod.refl [] w).alloc (.cells (fontCells u g c l fe ax rg fu cv) 31)).alloc (.cells zeroGlyphL.toArray 44))
  have HGL := Lib.hid hGl
  have HRG := Lib.hid hR
  have HS := Lib.hid hs
  have e1 : decide ((i : Int) < 0) = false := decide_eq_false (by omega)
  have e2 : decide ((glyphs.length : Int) ≤ (i : Int)) = false := decide_eq_false (by omega)
  have hi0 : (0 : Int) ≤ (i : Int) := by omega
  have hi1 : (i : Int) < (glyphs.length : Int) := by omega
  have HI := Lib.hid hgl
  obtain ⟨ga, gn, gcc⟩ := g
  simp only at hgn
  subst hgn
  clear hgl hGl hR hA h6 hP hs hi hge
  unfold fontCells zeroGlyphL at *
  simp only at T HNO MA HGL ⊢
  go_enter Try.func6, Try.ntmps6
  go_upto_region 1 with fail
  generalize (w.alloc (.cells #[.int .i64 u, .slice ga glyphs.length gcc, .slice c.a c.n c.c, .slice l.a l.n l.c, .slice fe.a fe.n fe.c, .slice ax.a ax.n ax.c, .slice rg.a rg.n rg.c, .slice fu.a fu.n fu.c, .slice cv.a cv.n cv.c] 31)).alloc (.cells #[.string ⟨#[]⟩, .int .i64 0, .bool false, .slice none 0 0, .slice none 0 0, .slice none 0 0, .slice none 0 0, .slice none 0 0, .slice none 0 0] 44) = W0 at *
  have f1 : W0.cell? ⟨w.heap.size, 1, none⟩ = some (.slice ga glyphs.length gcc) := by rw [(T.out.at 0 rfl).cell]; rfl
  go_upto_region 3 with fail
  clear f1
  have F := fun k => (T.out.at 0 rfl).cell k
  go_wp2_with fail
  refine (HNO.out _ MA.out).mono ?_
  rintro e W1 ⟨m1, hr⟩
  clear F
  have T1 := Lib.hid (T.out.call m1)
  have HM1 := Lib.hid (MA.out.then m1)
  cases hn : Vr.normR axes xs with
  | error k =>
    rw [hn] at hr
    obtain ⟨hk, rfl⟩ := hr
    have hk' : (k == 0) = false := by simpa using hk
    have k1 : (k != 0) = true := by simpa using hk
    have hat : Vr.atGlyph axes regs xs gl = .error k := by unfold Vr.atGlyph; rw [hn]
    rw [hat]
    have z := fun k => (T1.out.at 1 rfl).cell k
    have zf := fun k => (T1.out.at 1 rfl).frozen k
    have HAT := Lib.hid hat
    clear hat
    have T2 := Lib.hid (setN_mod (w0 := w) (b := w.heap.size + 1) (by omega) zeroGlyphL 0 W1 HM1.out)
    have B2 := Lib.hid ((T1.out.at 1 rfl).over zeroGlyphL rfl)
    go_wp2_with fail
    exact vg_ret _ (w.heap.size + 1) _ _ _ _ _ _ _ _ _ _ _ _ B2.out rfl rfl rfl (by rw [HAT.out]; exact ⟨T2.out, rfl⟩)
  | ok at' =>
    rw [hn] at hr
    obtain ⟨⟨ha, hnn, hc⟩, rfl, hX⟩ := hr
    simp only at hX
    have HAT := Lib.hid (show Vr.atGlyph axes regs xs gl = Vr.glyphR regs at' gl by unfold Vr.atGlyph; rw [hn])
    have HX := Lib.hid hX
    clear hX hn m1
    have q0 := (T1.out.at 0 rfl).cell 0
    have q1 := (T1.out.at 0 rfl).cell 1
    have q2 := (T1.out.at 0 rfl).cell 2
    have q3 := (T1.out.at 0 rfl).cell 3
    have q4 := (T1.out.at 0 rfl).cell 4
    have q5 := (T1.out.at 0 rfl).cell 5
    have q6 := (T1.out.at 0 rfl).cell 6
    have q7 := (T1.out.at 0 rfl).cell 7
    have q8 := (T1.out.at 0 rfl).cell 8
    simp only [List.getElem?_toArray, List.getElem?_cons_zero, List.getElem?_cons_succ] at q0 q1 q2 q3 q4 q5 q6 q7 q8
    have hmm : (Instr.makeMap 53 none).run Try.prog W1 = .ok (.map (some W1.heap.size)) (W1.alloc (.map #[] 0)) := rfl
    go_upto_region 7 with fail
    clear hmm
    have mM : Mod [] W1 ((W1.alloc (.map #[] 0)).alloc (.cells #[.int .i64 u, .slice ga glyphs.length gcc, .slice c.a c.n c.c, .slice l.a l.n l.c, .slice fe.a fe.n fe.c, .slice ax.a ax.n ax.c, .slice rg.a rg.n rg.c, .slice fu.a fu.n fu.c, .slice cv.a cv.n cv.c, .slice ha hnn hc, .map (some W1.heap.size)] 55)) := ((Mod.refl [] W1).alloc _).alloc _
    have HFM := Lib.hid ((FacMap.new W1 regs at').mod ((Mod.refl [] (W1.alloc (.map #[] 0))).alloc (.cells #[.int .i64 u, .slice ga glyphs.length gcc, .slice c.a c.n c.c, .slice l.a l.n l.c, .slice fe.a fe.n fe.c, .slice ax.a ax.n ax.c, .slice rg.a rg.n rg.c, .slice fu.a fu.n fu.c, .slice cv.a cv.n cv.c, .slice ha hnn hc, .map (some W1.heap.size)] 55)))
    have hsb : (W1.alloc (.map #[] 0)).heap.size = W1.heap.size + 1 := by show (W1.heap.push _).size = _; simp
    have bs := Blk.new (W1.alloc (.map #[] 0)) #[.int .i64 u, .slice ga glyphs.length gcc, .slice c.a c.n c.c, .slice l.a l.n l.c, .slice fe.a fe.n fe.c, .slice ax.a ax.n ax.c, .slice rg.a rg.n rg.c, .slice fu.a fu.n fu.c, .slice cv.a cv.n cv.c, .slice ha hnn hc, .map (some W1.heap.size)] 55
    rw [hsb] at bs
    have BS := Lib.hid bs
    have HMM := Lib.hid mM
    have T3 := Lib.hid (T1.out.call mM)
    have hfw : w.heap.size + 2 ≤ W1.heap.size := by have := (T1.out.at 1 rfl).lt; omega
    have HBB := Lib.hid hfw
    clear mM hfw hsb bs q0 q1 q2 q3 q4 q5 q6 q7 q8
    generalize (W1.alloc (.map #[] 0)).alloc (.cells #[.int .i64 u, .slice ga glyphs.length gcc, .slice c.a c.n c.c, .slice l.a l.n l.c, .slice fe.a fe.n fe.c, .slice ax.a ax.n ax.c, .slice rg.a rg.n rg.c, .slice fu.a fu.n fu.c, .slice cv.a cv.n cv.c, .slice ha hnn hc, .map (some W1.heap.size)] 55) = W3 at *
    obtain ⟨a, rfl, -, cs, -, hc0, hcj, hG⟩ := (HGL.out.mod RGlyph.stay HM1.out).elem HI.out
    have HGY := Lib.hid (fun W (m : Mod [] W1 W) (f : FacMap W W1.heap.size regs at') => glyph_any u ⟨some a, glyphs.length, gcc⟩ c l fe ax rg fu cv ⟨ha, hnn, hc⟩ W1.heap.size regs at' gl cs B 0 B W1 W m (Nat.le_refl _) (HRG.out.mod RRegion.stay HM1.out) HX.out hG HS.out f)
    obtain ⟨v3, v4, v5, v6, v7, v8, rfl, hn, had, h3, h4, h5, h6, h7, h8⟩ := hG
    have c0 := hc0 (by decide)
    have c1 := hcj 1 (by decide) (by decide)
    have c2 := hcj 2 (by decide) (by decide)
    have c3 := hcj 3 (by decide) (by decide)
    have c4 := hcj 4 (by decide) (by decide)
    have c5 := hcj 5 (by decide) (by decide)
    have c6 := hcj 6 (by decide) (by decide)
    have c7 := hcj 7 (by decide) (by decide)
    have c8 := hcj 8 (by decide) (by decide)
    simp only [List.getElem?_cons_zero, List.getElem?_cons_succ] at c0 c1 c2 c3 c4 c5 c6 c7 c8
    have Y0 : ∀ W, Mod [] W3 W → W.cell? (a.add (i * 9)) = some (.string gl.name) := fun W m => cell_stays (HMM.out.then m) c0
    have Y1 : ∀ W, Mod [] W3 W → W.cell? ⟨(a.add (i * 9)).block, (a.add (i * 9)).off + 1, none⟩ = some (.int .i64 gl.adv) := fun W m => cell_stays (HMM.out.then m) c1
    have Y2 : ∀ W, Mod [] W3 W → W.cell? ⟨(a.add (i * 9)).block, (a.add (i * 9)).off + 2, none⟩ = some (.bool gl.mark) := fun W m => cell_stays (HMM.out.then m) c2
    have Y3 : ∀ W, Mod [] W3 W → W.cell? ⟨(a.add (i * 9)).block, (a.add (i * 9)).off + 3, none⟩ = some v3 := fun W m => cell_stays (HMM.out.then m) c3
    have Y4 : ∀ W, Mod [] W3 W → W.cell? ⟨(a.add (i * 9)).block, (a.add (i * 9)).off + 4, none⟩ = some v4 := fun W m => cell_stays (HMM.out.then m) c4
    have Y5 : ∀ W, Mod [] W3 W → W.cell? ⟨(a.add (i * 9)).block, (a.add (i * 9)).off + 5, none⟩ = some v5 := fun W m => cell_stays (HMM.out.then m) c5
    have Y6 : ∀ W, Mod [] W3 W → W.cell? ⟨(a.add (i * 9)).block, (a.add (i * 9)).off + 6, none⟩ = some v6 := fun W m => cell_stays (HMM.out.then m) c6
    have Y7 : ∀ W, Mod [] W3 W → W.cell? ⟨(a.add (i * 9)).block, (a.add (i * 9)).off + 7, none⟩ = some v7 := fun W m => cell_stays (HMM.out.then m) c7
    have Y8 : ∀ W, Mod [] W3 W → W.cell? ⟨(a.add (i * 9)).block, (a.add (i * 9)).off + 8, none⟩ = some v8 := fun W m => cell_stays (HMM.out.then m) c8
    clear c0 c1 c2 c3 c4 c5 c6 c7 c8 hc0 hcj hn had h3 h4 h5 h6 h7 h8
    have A0 := fun W (mW : Mod [] W3 W) k => BS.out.every W mW k
    have A1 := fun W (mW : Mod [] W3 W) k => (T3.out.at 0 rfl).every W mW k
    unfold spotCells at HGY
    simp only at HGY
    refine calm_of ?_
    refine Ch.wp_region_chain [(8, 7)] ?l'1 6 [true, true, true, true, true, true] [] [] (by kernel_rfl) ?hl1 ?hB1 ?hT1 ?hsl1 ?hAl1 ?hQ1 ?main1
    case hl1 => simp only [Ch.waitsFor, waitFor, List.modify_succ_cons, List.modify_zero_cons]; exact rfl
    case hB1 => kernel_rfl
    case hT1 => simp []
    case hsl1 => kernel_rfl
    case hAl1 => (intro i hi; cases hi)
    case hQ1 => (intro _ _ d _ _ h; cases d <;> exact h)
    simp only [pickM]
    iterate 6
     refine steady_go (a' := ?_) (by kernel_rfl) ?_ (fun w' hw' K Q hK => ?_) ?_
     rotate_left 2
     · go_wp2_with fail; exact hK _ (Mod.refl _ _)
     rotate_left
     · rfl
    refine steady_done ?_
    refine Ch.chain_end ?_
    refine lates_end (fun hD w' hw' hF => ?_)
    simp only [List.drop_succ_cons, List.drop_zero]
    have HM3 := Lib.hid (HMM.out.then hw')
    have HF3 := Lib.hid (HFM.out.mod hw')
    have T4 := Lib.hid (T3.out.call hw')
    clear Y0 Y1 Y2 Y3 Y4 Y5 Y6 Y7 Y8 A0 A1 hF hD hw'
    go_wp2_with fail
    refine (HGY.out _ HM3.out HF3.out).mono ?_
    rintro e W5 ⟨m5, -, hr5⟩
    have T5 := Lib.hid (T4.out.off (T4.out.mod.trans m5 (fun x hx hlt => by have := HBB.out; simp at hx; omega)) (fun p hp => m5.block p.1 ((T4.out.blk p hp).2.lt) (fun hm => by
      have := HBB.out
      simp at hm
      simp only [List.mem_cons, List.not_mem_nil, or_false] at hp
      rcases hp with rfl | rfl <;> simp at hm <;> omega)))
    have HSZ := Lib.hid (show w.heap.size + 2 ≤ w'.heap.size by have := HBB.out; have := HM3.out.size; omega)
    cases hg : Vr.glyphR regs at' gl with
    | error k =>
      rw [hg] at hr5
      obtain rfl : e = .returned (.tuple #[.agg zeroGlyphL.toArray, .int .i64 k]) := hr5
      have HAT2 := Lib.hid (HAT.out.trans hg)
      have T6 := Lib.hid (setN_mod (w0 := w) (b := w.heap.size + 1) (by omega) zeroGlyphL 0 W5 T5.out.mod)
      have B6 := Lib.hid ((T5.out.at 1 rfl).over zeroGlyphL rfl)
      have z0 := (T5.out.at 1 rfl).cell 0
      have z1 := (T5.out.at 1 rfl).cell 1
      have z2 := (T5.out.at 1 rfl).cell 2
      have z3 := (T5.out.at 1 rfl).cell 3
      have z4 := (T5.out.at 1 rfl).cell 4
      have z5 := (T5.out.at 1 rfl).cell 5
      have z6 := (T5.out.at 1 rfl).cell 6
      have z7 := (T5.out.at 1 rfl).cell 7
      have z8 := (T5.out.at 1 rfl).cell 8
      have zf := fun k => (T5.out.at 1 rfl).frozen k
      simp only [List.getElem?_toArray, List.getElem?_cons_zero, List.getElem?_cons_succ] at z0 z1 z2 z3 z4 z5 z6 z7 z8
      clear hg m5 HAT HGY HM3 HF3 T4
      unfold zeroGlyphL
      go_wp2_with fail
      refine calm_normal ?_
      go_wp2_with fail
      exact vg_ret _ (w.heap.size + 1) _ _ _ _ _ _ _ _ _ _ _ _ B6.out rfl rfl rfl (by rw [HAT2.out]; exact ⟨T6.out, rfl⟩)
    | ok g' =>
      rw [hg] at hr5
      obtain ⟨cs, rfl, hG⟩ := hr5
      obtain ⟨x3, x4, x5, x6, x7, x8, rfl, hgn, hga, r3, r4, r5, r6, r7, r8⟩ := hG
      obtain ⟨p3, k3, rfl, -⟩ := r3.form
      obtain ⟨p4, k4, rfl, -⟩ := r4.form
      obtain ⟨p5, k5, rfl, -⟩ := r5.form
      obtain ⟨p6, k6, rfl, -⟩ := r6.form
      obtain ⟨p7, k7, rfl, -⟩ := r7.form
      obtain ⟨p8, k8, rfl, -⟩ := r8.form
      have HAT2 := Lib.hid (HAT.out.trans hg)
      have HG := Lib.hid (show RGlyph w'.heap.size W5 [.string g'.name, .int .i64 g'.adv, .bool g'.mark, .slice p3 g'.pts.length k3, .slice p4 g'.ends.length k4, .slice p5 g'.parts.length k5, .slice p6 g'.anchors.length k6, .slice p7 g'.deltas.length k7, .slice p8 g'.hint.length k8] g' from ⟨_, _, _, _, _, _, rfl, hgn, hga, r3, r4, r5, r6, r7, r8⟩)
      have T6 := Lib.hid (setN_mod (w0 := w) (b := w.heap.size + 1) (by omega) [.string g'.name, .int .i64 g'.adv, .bool g'.mark, .slice p3 g'.pts.length k3, .slice p4 g'.ends.length k4, .slice p5 g'.parts.length k5, .slice p6 g'.anchors.length k6, .slice p7 g'.deltas.length k7, .slice p8 g'.hint.length k8] 0 W5 T5.out.mod)
      have B6 := Lib.hid ((T5.out.at 1 rfl).over [.string g'.name, .int .i64 g'.adv, .bool g'.mark, .slice p3 g'.pts.length k3, .slice p4 g'.ends.length k4, .slice p5 g'.parts.length k5, .slice p6 g'.anchors.length k6, .slice p7 g'.deltas.length k7, .slice p8 g'.hint.length k8] rfl)
      have HA := Lib.hid (setN_above (b := w.heap.size + 1) (B := w'.heap.size) (by have := HSZ.out; omega) [.string g'.name, .int .i64 g'.adv, .bool g'.mark, .slice p3 g'.pts.length k3, .slice p4 g'.ends.length k4, .slice p5 g'.parts.length k5, .slice p6 g'.anchors.length k6, .slice p7 g'.deltas.length k7, .slice p8 g'.hint.length k8] 0 W5)
      have z0 := (T5.out.at 1 rfl).cell 0
      have z1 := (T5.out.at 1 rfl).cell 1
      have z2 := (T5.out.at 1 rfl).cell 2
      have z3 := (T5.out.at 1 rfl).cell 3
      have z4 := (T5.out.at 1 rfl).cell 4
      have z5 := (T5.out.at 1 rfl).cell 5
      have z6 := (T5.out.at 1 rfl).cell 6
      have z7 := (T5.out.at 1 rfl).cell 7
      have z8 := (T5.out.at 1 rfl).cell 8
      have zf := fun k => (T5.out.at 1 rfl).frozen k
      simp only [List.getElem?_toArray, List.getElem?_cons_zero, List.getElem?_cons_succ] at z0 z1 z2 z3 z4 z5 z6 z7 z8
      clear hg m5 HAT HGY HM3 HF3 T4 hgn hga r3 r4 r5 r6 r7 r8
      go_wp2_with fail
      refine calm_normal ?_
      go_wp2_with fail
      exact vg_ret _ (w.heap.size + 1) _ _ _ _ _ _ _ _ _ _ _ _ B6.out rfl rfl rfl (by rw [HAT2.out]; exact ⟨T6.out, _, rfl, RGlyph.lower _ _ _ _ _ (RGlyph.stay _ _ _ _ _ HG.out HA.out) (by have := HSZ.out; omega)⟩)
end Go.Proofs.Ytaloembfekdkoaa
