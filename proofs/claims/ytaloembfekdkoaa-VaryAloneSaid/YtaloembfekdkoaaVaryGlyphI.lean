/- vary: a glyph at a place: what stands behind each round. -/
import Derived.Test.YtaloembfekdkoaaVaryGlyphP
import Derived.Test.YtaloembfekdkoaaVaryStill
import Derived.Test.YtaloembfekdkoaaMapRange
namespace Go.Proofs.Ytaloembfekdkoaa
open Go.RowKit
set_option linter.unusedVariables false
theorem CopyOut.rows {α : Type} {k B B2 : Nat} {R : Nat → World → List Value → α → Prop} {enc : α → List Value} {t : TypeId} {l : List α} {n : Nat} {v : Value} {w : World} (he : ∀ x, (enc x).length = k) (hn : n = l.length) (hl : l.length ≤ maxLen) (hR : ∀ x ∈ l, R B2 w (enc x) x) (hB : B2 ≤ B) (h : CopyOut B t (l.flatMap enc) n v w) : Rows k R B2 w v l := by
  subst hn
  rcases h with ⟨h0, rfl⟩ | ⟨b, rfl, hb, hB'⟩
  · obtain rfl : l = [] := List.eq_nil_of_length_eq_zero h0
    exact Rows.nil w
  · exact rows_blk he hl hR (Nat.le_trans hB hb) hB' (by rw [← flat_length he, List.take_length])
theorem CopyOut.mod {B : Nat} {t : TypeId} {cs : List Value} {n : Nat} {v : Value} {w w' : World} (h : CopyOut B t cs n v w) (m : Mod [] w w') : CopyOut B t cs n v w' := CopyOut.stays B t cs n v w w' h m
theorem CopyOut.of {B : Nat} {t : TypeId} {cs : List Value} {n : Nat} {v : Value} {w w' : World} (h : CopyOut B t cs n v w) (m : ∀ (b : Nat) (c : Array Value), B ≤ b → w.heap[b]? = some (.cells c t) → w'.heap[b]? = w.heap[b]?) : CopyOut B t cs n v w' := by
  rcases h with h | ⟨b, h1, h2, h3⟩
  · exact .inl h
  · exact .inr ⟨b, h1, h2, (m b _ h2 h3).trans h3⟩
theorem rows_all {α : Type} {k B B2 : Nat} {R : Nat → World → List Value → α → Prop} {enc : α → List Value} {l : List α} {oa : Option Addr} {n cap : Nat} {w w2 : World} (h : Rows k R B w (.slice oa n cap) l) (hto : ∀ cs x, R B w cs x → R B2 w2 (enc x) x) : ∀ x ∈ l, R B2 w2 (enc x) x := by
  intro x hx
  obtain ⟨i, hi, rfl⟩ := List.getElem_of_mem hx
  obtain ⟨a, _, _, cs, _, _, _, hr⟩ := h.at i hi
  exact hto cs _ hr
theorem flat_pt : ∀ (ps : List DPoint) (i : Nat) (x y : Int) (h : i < ps.length), ((ps.set i ⟨x, y, (ps[i]).on⟩).flatMap encPoint) = ((ps.flatMap encPoint).set (i * 3) (.int .i64 x)).set (i * 3 + 1) (.int .i64 y)
  | p :: r, 0, x, y, _ => rfl
  | p :: r, i + 1, x, y, h => by
    have ih := flat_pt r i x y (by simpa using h)
    rw [show (i + 1) * 3 = i * 3 + 3 by omega]
    show encPoint p ++ _ = ((encPoint p ++ _).set _ _).set _ _
    rw [show ((p :: r)[i + 1]).on = (r[i]'(by simpa using h)).on from rfl]
    simp only [encPoint, List.cons_append, List.nil_append, List.set_cons_succ]
    exact congrArg (fun l => Value.int .i64 p.x :: Value.int .i64 p.y :: Value.bool p.on :: l) ih
theorem curAdv_nil {m : List (Int × Sh)} {a : Int} : Vr.curAdv m [] a = a := by unfold Vr.curAdv; rw [if_neg (by simp)]
theorem curPts_nil {m : List (Int × Sh)} {ps : List DPoint} : Vr.curPts m [] ps = ps := by
  apply List.ext_getElem?
  intro q
  rcases Nat.lt_or_ge q ps.length with hq | hq
  · rw [curPts_at m _ ps q hq, List.getElem?_eq_getElem hq]
    simp [Vr.curPt]
  · rw [List.getElem?_eq_none (by rw [curPts_length]; exact hq), List.getElem?_eq_none hq]
theorem fine_nil {m : List (Int × Sh)} {a : Int} {ps : List DPoint} : Vr.fine m [] a ps := ⟨fun h => absurd h (by simp), fun i h hm => absurd hm (by simp)⟩
def Calm (Q : Exit → Act → World → Prop) (e : Exit) (a : Act) (w : World) : Prop := match e with | .panic _ => False | e => Q e a w
theorem calm_of {P : Program} {c : Code} {Q : Exit → Act → World → Prop} {a : Act} {w : World} (h : c.wp P (Calm Q) a w) : c.wp P Q a w := Code.wp_mono (fun e a w h => by cases e <;> first | exact h | exact h.elim) h
theorem calm_normal {Q : Exit → Act → World → Prop} {a : Act} {w : World} (h : Q .normal a w) : Calm Q .normal a w := h
def toldCells (g : DGlyph) (a : Int) (o3 o4 o5 o6 o8 : Option Addr) (c3 c4 c5 c6 c8 : Nat) : Array Value := #[.string g.name, .int .i64 a, .bool g.mark, .slice o3 g.pts.length c3, .slice o4 g.ends.length c4, .slice o5 g.parts.length c5, .slice o6 g.anchors.length c6, .slice none 0 0, .slice o8 g.hint.length c8]
structure GlTold (B : Nat) (g : DGlyph) (ps : List DPoint) (o3 o4 o5 o6 o8 : Option Addr) (c3 c4 c5 c6 c8 : Nat) (w : World) : Prop where
  len : ps.length = g.pts.length
  pts : CopyOut B 74 (ps.flatMap encPoint) g.pts.length (.slice o3 g.pts.length c3) w
  ends : CopyOut B 3 (g.ends.flatMap encInt) g.ends.length (.slice o4 g.ends.length c4) w
  parts : CopyOut B 79 (g.parts.flatMap encPart) g.parts.length (.slice o5 g.parts.length c5) w
  anchors : CopyOut B 81 (g.anchors.flatMap encAnchor) g.anchors.length (.slice o6 g.anchors.length c6) w
  hint : CopyOut B 64 (g.hint.flatMap encIns) g.hint.length (.slice o8 g.hint.length c8) w
structure GlI (w : World) (fb : Nat) (regs : List DRegion) (xs : List (Int × Int)) (sc gc : Array Value) (g : DGlyph) (M : List (Int × Value)) (mb rb : Nat) (o3 o4 o5 o6 o8 : Option Addr) (c3 c4 c5 c6 c8 : Nat) (a : Int) (ps : List DPoint) (D : List Int) (n : Nat) (wr : World) : Prop where
  own : OwnF [fb] w wr [(w.heap.size, sc, 55), (w.heap.size + 1, gc, 44), (w.heap.size + 1 + 1, toldCells g a o3 o4 o5 o6 o8 c3 c4 c5 c6 c8, 44), (w.heap.size + 1 + 1 + 1, #[.int .i64 0], 33)]
  rng : IRange wr mb rb M D n
  mbb : w.heap.size + 4 ≤ mb
  rbb : w.heap.size + 4 ≤ rb
  fac : FacMap wr fb regs xs
  told : GlTold (w.heap.size + 4) g ps o3 o4 o5 o6 o8 c3 c4 c5 c6 c8 wr
section
variable {B : Nat} {w : World} {fb : Nat} {regs : List DRegion} {xs : List (Int × Int)} {sc gc : Array Value} {g : DGlyph} {M : List (Int × Value)} {mb rb : Nat} {o3 o4 o5 o6 o8 : Option Addr} {c3 c4 c5 c6 c8 : Nat} {a : Int} {ps : List DPoint} {D : List Int} {n : Nat} {wr w' : World}
theorem GlTold.mod (h : GlTold B g ps o3 o4 o5 o6 o8 c3 c4 c5 c6 c8 wr) (m : Mod [] wr w') : GlTold B g ps o3 o4 o5 o6 o8 c3 c4 c5 c6 c8 w' := ⟨h.len, h.pts.mod m, h.ends.mod m, h.parts.mod m, h.anchors.mod m, h.hint.mod m⟩
theorem GlTold.of (h : GlTold B g ps o3 o4 o5 o6 o8 c3 c4 c5 c6 c8 wr) (m : ∀ (b : Nat) (c : Array Value) (t : TypeId), B ≤ b → wr.heap[b]? = some (.cells c t) → w'.heap[b]? = wr.heap[b]?) : GlTold B g ps o3 o4 o5 o6 o8 c3 c4 c5 c6 c8 w' :=
  ⟨h.len, h.pts.of fun b c => m b c _, h.ends.of fun b c => m b c _, h.parts.of fun b c => m b c _, h.anchors.of fun b c => m b c _, h.hint.of fun b c => m b c _⟩
theorem GlI.mod (h : GlI w fb regs xs sc gc g M mb rb o3 o4 o5 o6 o8 c3 c4 c5 c6 c8 a ps D n wr) (m : Mod [] wr w') : GlI w fb regs xs sc gc g M mb rb o3 o4 o5 o6 o8 c3 c4 c5 c6 c8 a ps D n w' :=
  ⟨h.own.call m, h.rng.mod m (by simp) (by simp), h.mbb, h.rbb, h.fac.mod m, h.told.mod m⟩
theorem GlI.step {D' : List Int} {n' : Nat} (h : GlI w fb regs xs sc gc g M mb rb o3 o4 o5 o6 o8 c3 c4 c5 c6 c8 a ps D n wr) (m : Mod [rb] wr w') (hr : IRange w' mb rb M D' n') : GlI w fb regs xs sc gc g M mb rb o3 o4 o5 o6 o8 c3 c4 c5 c6 c8 a ps D' n' w' := by
  have hrb := h.rbb
  have hfb := h.own.old fb (by simp)
  have hblk : ∀ (b : Nat) (c : Array Value) (t : TypeId), wr.heap[b]? = some (.cells c t) → w'.heap[b]? = wr.heap[b]? := fun b c t hb => m.block b (Array.getElem?_eq_some_iff.1 hb).1 (fun hm => by
    simp at hm
    obtain ⟨_, _, _, _, _, _, _, _, h4, _⟩ := h.rng
    rw [← hm, hb] at h4
    cases h4)
  refine ⟨h.own.off ⟨m.os.trans h.own.mod.os, m.tape.trans h.own.mod.tape, m.output.trans h.own.mod.output, Nat.le_trans h.own.mod.size m.size, fun k hk hn => ?_⟩ fun p hp => hblk p.1 _ _ (h.own.blk p hp).2, hr, h.mbb, h.rbb, h.fac.of (m.block fb ?_ (by simp; omega)), h.told.of fun b c t _ hb => hblk b c t hb⟩
  · rw [m.block k (Nat.lt_of_lt_of_le hk h.own.mod.size) (by simp; omega)]
    exact h.own.mod.block k hk hn
  · exact Nat.lt_of_lt_of_le hfb h.own.mod.size
theorem OwnF.over {F : List Nat} {w0 w : World} {l : List (Nat × Array Value × TypeId)} {b : Nat} {cs : Array Value} {t : TypeId} (S : OwnF F w0 w l) (k : Nat) (hk : l[k]? = some (b, cs, t)) (vs : List Value) (hl : vs.length = cs.size) : OwnF F w0 (setN w b 0 vs) (l.set k (b, vs.toArray, t)) := by
  obtain ⟨hkl, hke⟩ := List.getElem?_eq_some_iff.1 hk
  have hmap : (l.set k (b, vs.toArray, t)).map (·.1) = l.map (·.1) := by
    rw [List.map_set]
    apply List.ext_getElem?
    intro j
    rw [List.getElem?_set]
    split
    · rename_i hj
      subst hj
      simp [hkl, hke]
    · rfl
  have hge := S.ge k hk
  refine ⟨⟨?_, ?_, ?_, by rw [setN_size]; exact S.mod.size, fun x hx hn => by rw [setN_other (by omega)]; exact S.mod.block x hx hn⟩, S.old, fun p hp => ?_, by rw [hmap]; exact S.nodup⟩
  · exact (setN_mod (w0 := { w with heap := #[] }) (Nat.zero_le b) vs 0 w ⟨rfl, rfl, rfl, Nat.zero_le _, fun x hx => absurd hx (Nat.not_lt_zero x)⟩).os.trans S.mod.os
  · exact (setN_mod (w0 := { w with heap := #[] }) (Nat.zero_le b) vs 0 w ⟨rfl, rfl, rfl, Nat.zero_le _, fun x hx => absurd hx (Nat.not_lt_zero x)⟩).tape.trans S.mod.tape
  · exact (setN_mod (w0 := { w with heap := #[] }) (Nat.zero_le b) vs 0 w ⟨rfl, rfl, rfl, Nat.zero_le _, fun x hx => absurd hx (Nat.not_lt_zero x)⟩).output.trans S.mod.output
  · obtain ⟨j, hj⟩ := List.getElem?_of_mem hp
    rw [List.getElem?_set] at hj
    split at hj
    · rename_i hkj
      subst hkj
      simp only [Option.some.injEq] at hj
      subst hj
      exact ⟨hge, (S.at k hk).over vs hl⟩
    · rename_i hkj
      have hm := List.mem_of_getElem? hj
      refine ⟨(S.blk p hm).1, (setN_other (fun he => ?_) _ _ _).trans (S.blk p hm).2⟩
      have hjl : j < l.length := (List.getElem?_eq_some_iff.1 hj).1
      have := nodup_get S.nodup
      rcases Nat.lt_or_ge k j with h | h
      · exact this k j h (by simpa using hjl) (by simp only [List.getElem?_map, hk, hj, Option.map_some]; rw [← he])
      · exact this j k (by omega) (by simpa using hkl) (by simp only [List.getElem?_map, hk, hj, Option.map_some]; rw [← he])
theorem other_cell {w : World} {b b' k : Nat} {v : Value} (hb : b' ≠ b) : (w.setCell ⟨b, k, none⟩ v).heap[b']? = w.heap[b']? := setN_other hb [v] k w
theorem GlI.adv (a' : Int) (h : GlI w fb regs xs sc gc g M mb rb o3 o4 o5 o6 o8 c3 c4 c5 c6 c8 a ps D n wr) : GlI w fb regs xs sc gc g M mb rb o3 o4 o5 o6 o8 c3 c4 c5 c6 c8 a' ps D n (wr.setCell ⟨w.heap.size + 1 + 1, 1, none⟩ (.int .i64 a')) := by
  have hfb := h.own.old fb (by simp)
  have hmb := h.mbb
  have hrb := h.rbb
  exact ⟨h.own.set 2 rfl 1 (.int .i64 a'), h.rng.of (other_cell (by omega)) (other_cell (by omega)), h.mbb, h.rbb, h.fac.of (other_cell (by omega)), h.told.of fun b c t hb _ => other_cell (by omega)⟩
theorem GlI.pt (h : GlI w fb regs xs sc gc g M mb rb o3 o4 o5 o6 o8 c3 c4 c5 c6 c8 a ps D n wr) {i pb : Nat} (x y : Int) (hi : i < ps.length) (ho : o3 = some ⟨pb, 0, none⟩) :
    GlI w fb regs xs sc gc g M mb rb o3 o4 o5 o6 o8 c3 c4 c5 c6 c8 a (ps.set i ⟨x, y, (ps[i]).on⟩) D n ((wr.setCell ⟨pb, i * 3, none⟩ (.int .i64 x)).setCell ⟨pb, i * 3 + 1, none⟩ (.int .i64 y)) := by
  have hfb := h.own.old fb (by simp)
  obtain ⟨pb', hpe, hpB, hP⟩ : ∃ b, Value.slice o3 g.pts.length c3 = .slice (some ⟨b, 0, none⟩) g.pts.length g.pts.length ∧ w.heap.size + 4 ≤ b ∧ Blk wr b (ps.flatMap encPoint).toArray 74 := by
    rcases h.told.pts with ⟨h0, _⟩ | h1
    · have := h.told.len; omega
    · exact h1
  rw [ho] at hpe
  obtain rfl : pb = pb' := by simp at hpe; exact hpe.1
  have other : ∀ b : Nat, b ≠ pb → ((wr.setCell ⟨pb, i * 3, none⟩ (.int .i64 x)).setCell ⟨pb, i * 3 + 1, none⟩ (.int .i64 y)).heap[b]? = wr.heap[b]? := fun b hb => (other_cell hb).trans (other_cell hb)
  have cellNe : ∀ (b : Nat) (c : Array Value) (t : TypeId), wr.heap[b]? = some (.cells c t) → t ≠ 74 → b ≠ pb := fun b c t hb ht he => by
    subst he
    unfold Blk at hP
    rw [hb] at hP
    simp at hP
    exact ht hP.2
  have hmp : mb ≠ pb := fun he => by
    subst he
    obtain ⟨_, _, _, _, _, h1, _⟩ := h.rng
    unfold Blk at hP
    rw [h1] at hP
    cases hP
  have hrp : rb ≠ pb := fun he => by
    subst he
    obtain ⟨_, _, _, _, _, _, _, _, h4, _⟩ := h.rng
    unfold Blk at hP
    rw [h4] at hP
    cases hP
  have mp := (h.own.mod.setNew (p := ⟨pb, i * 3, none⟩) (show w.heap.size ≤ pb by omega) (.int .i64 x)).setNew (p := ⟨pb, i * 3 + 1, none⟩) (show w.heap.size ≤ pb by omega) (.int .i64 y)
  refine ⟨h.own.off mp fun p hp => other p.1 ?_, h.rng.of (other mb hmp) (other rb hrp), h.mbb, h.rbb, h.fac.of (other fb (by omega)), ⟨by rw [List.length_set]; exact h.told.len, .inr ⟨pb, ?_, hpB, ?_⟩, h.told.ends.of fun b c _ hb => other b (cellNe b c _ hb (by decide)), h.told.parts.of fun b c _ hb => other b (cellNe b c _ hb (by decide)), h.told.anchors.of fun b c _ hb => other b (cellNe b c _ hb (by decide)), h.told.hint.of fun b c _ hb => other b (cellNe b c _ hb (by decide))⟩⟩
  · simp only [List.mem_cons, List.not_mem_nil, or_false] at hp
    rcases hp with rfl | rfl | rfl | rfl <;> simp only <;> omega
  · rw [ho, hpe]
  · rw [flat_pt ps i x y hi]
    have := (hP.set (i * 3) (.int .i64 x)).set (i * 3 + 1) (.int .i64 y)
    simpa using this
theorem GlI.pt' (h : GlI w fb regs xs sc gc g M mb rb o3 o4 o5 o6 o8 c3 c4 c5 c6 c8 a ps D n wr) {i pb : Nat} {p : DPoint} (x y : Int) (hi : ps[i]? = some p) (ho : o3 = some ⟨pb, 0, none⟩) :
    GlI w fb regs xs sc gc g M mb rb o3 o4 o5 o6 o8 c3 c4 c5 c6 c8 a (ps.set i ⟨x, y, p.on⟩) D n ((wr.setCell ⟨pb, i * 3, none⟩ (.int .i64 x)).setCell ⟨pb, i * 3 + 1, none⟩ (.int .i64 y)) := by
  obtain ⟨hl, rfl⟩ := List.getElem?_eq_some_iff.1 hi
  exact h.pt x y hl ho
theorem moved_in {n b l r : Int} (hl : -16384 ≤ l) (h : Vr.movedR n b l = some r) : I64 r := by
  unfold Vr.movedR at h
  split at h
  · cases h; unfold I64; omega
  · cases h
theorem curAdv_in {m : List (Int × Sh)} {a : Int} (h : I64 a) : I64 (Vr.curAdv m D a) := by
  unfold Vr.curAdv Vr.advR
  split
  · split
    · exact h
    · rename_i sh _
      cases hm : Vr.movedR a (Rat.roundR sh.1.1 sh.1.2) 0 with
      | none => exact h
      | some r => exact moved_in (by omega) hm
  · exact h
theorem ptR_in {m : List (Int × Sh)} {i : Nat} {p : DPoint} (h : I64 p.x ∧ I64 p.y) : I64 ((Vr.ptR m i p).getD p).x ∧ I64 ((Vr.ptR m i p).getD p).y := by
  unfold Vr.ptR
  split
  · exact h
  · split
    · exact h
    · rename_i h1
      split
      · exact h
      · rename_i h2
        exact ⟨moved_in (by omega) h1, moved_in (by omega) h2⟩
theorem curPts_in {m : List (Int × Sh)} {ps : List DPoint} (h : ∀ x ∈ ps, I64 x.x ∧ I64 x.y) : ∀ x ∈ Vr.curPts m D ps, I64 x.x ∧ I64 x.y := by
  intro x hx
  obtain ⟨i, hi, rfl⟩ := List.getElem_of_mem hx
  have hi' : i < ps.length := by rw [curPts_length] at hi; exact hi
  have := curPts_at m D ps i hi'
  rw [List.getElem?_eq_getElem hi] at this
  simp only [Option.some.injEq] at this
  rw [this]
  unfold Vr.curPt
  split
  · exact ptR_in (h _ (List.getElem_mem hi'))
  · exact h _ (List.getElem_mem hi')
theorem GlTold.glyph {B2 : Nat} {W : World} (h : GlTold B g ps o3 o4 o5 o6 o8 c3 c4 c5 c6 c8 W) (hB : B2 ≤ B) (hn : g.name.size ≤ maxLen) (ha : I64 a) (hp : ∀ x ∈ ps, I64 x.x ∧ I64 x.y) {w1 : World}
    (h4 : ∀ x ∈ g.ends, RInt 0 w1 (encInt x) x) (h5 : ∀ x ∈ g.parts, RPart 0 w1 (encPart x) x) (h6 : ∀ x ∈ g.anchors, RAnchor 0 w1 (encAnchor x) x) (h8 : ∀ x ∈ g.hint, RIns 0 w1 (encIns x) x)
    (l3 : g.pts.length ≤ maxLen) (l4 : g.ends.length ≤ maxLen) (l5 : g.parts.length ≤ maxLen) (l6 : g.anchors.length ≤ maxLen) (l8 : g.hint.length ≤ maxLen) :
    RGlyph B2 W [.string g.name, .int .i64 a, .bool g.mark, .slice o3 g.pts.length c3, .slice o4 g.ends.length c4, .slice o5 g.parts.length c5, .slice o6 g.anchors.length c6, .slice none 0 0, .slice o8 g.hint.length c8] { g with adv := a, pts := ps, deltas := [] } :=
  ⟨_, _, _, _, _, _, rfl, hn, ha, h.pts.rows encPoint_len h.len.symm (by rw [h.len]; exact l3) (fun x hx => ⟨rfl, hp x hx⟩) hB, h.ends.rows encInt_len rfl l4 (fun x hx => encInt_to 0 B2 w1 W _ x (h4 x hx)) hB, h.parts.rows encPart_len rfl l5 (fun x hx => encPart_to 0 B2 w1 W _ x (h5 x hx)) hB, h.anchors.rows encAnchor_len rfl l6 (fun x hx => encAnchor_to 0 B2 w1 W _ x (h6 x hx)) hB, Rows.nil _, h.hint.rows encIns_len rfl l8 (fun x hx => encIns_to 0 B2 w1 W _ x (h8 x hx)) hB⟩
end
end Go.Proofs.Ytaloembfekdkoaa
