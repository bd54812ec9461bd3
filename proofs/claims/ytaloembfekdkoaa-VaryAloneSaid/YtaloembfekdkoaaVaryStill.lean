/- vary: still, a glyph of its own. -/
import Derived.Test.YtaloembfekdkoaaVaryCopy
import Derived.Test.YtaloembfekdkoaaGKit
namespace Go.Proofs.Ytaloembfekdkoaa
open Go.RowKit
set_option linter.unusedVariables false
set_option maxRecDepth 100000
def CopyOut (B : Nat) (t : TypeId) (cs : List Value) (n : Nat) (v : Value) (w : World) : Prop := (n = 0 ∧ v = .slice none 0 0) ∨ ∃ b, v = .slice (some ⟨b, 0, none⟩) n n ∧ B ≤ b ∧ Blk w b cs.toArray t
theorem CopyOut.stays (B : Nat) (t : TypeId) (cs : List Value) (n : Nat) (v : Value) : Stays (CopyOut B t cs n v) := fun _ _ h m => by
  rcases h with h | ⟨b, h1, h2, h3⟩
  · exact .inl h
  · exact .inr ⟨b, h1, h2, h3.kept m (by simp)⟩
theorem CopyOut.above {B : Nat} {t : TypeId} {cs : List Value} {n : Nat} {v : Value} {w w' : World} (h : CopyOut B t cs n v w) (m : Above B w w') : CopyOut B t cs n v w' := by
  rcases h with h | ⟨b, h1, h2, h3⟩
  · exact .inl h
  · exact .inr ⟨b, h1, h2, (m b h2 h3.lt).trans h3⟩
theorem CopyOut.lower {B B' : Nat} {t : TypeId} {cs : List Value} {n : Nat} {v : Value} {w : World} (h : CopyOut B t cs n v w) (m : B' ≤ B) : CopyOut B' t cs n v w := by
  rcases h with h | ⟨b, h1, h2, h3⟩
  · exact .inl h
  · exact .inr ⟨b, h1, Nat.le_trans m h2, h3⟩
theorem CopyOut.form {B : Nat} {t : TypeId} {cs : List Value} {n : Nat} {v : Value} {w : World} (h : CopyOut B t cs n v w) : ∃ oa c, v = .slice oa n c := by
  rcases h with ⟨rfl, h⟩ | ⟨b, h1, h2, h3⟩
  · exact ⟨_, _, h⟩
  · exact ⟨_, _, h1⟩
theorem copy_out {P : Program} {f : FuncId} {args : Array Value} {w0 w : World} {t : TypeId} {cs : List Value} {n : Nat} (h : Calls P f args w (CopyRes w t cs n)) (m : Mod [] w0 w) :
    Calls P f args w fun e w' => ∃ v, e = .returned v ∧ CopyOut w0.heap.size t cs n v w' ∧ Mod [] w w' := h.mono fun e w' ⟨v, he, hm, hv⟩ => ⟨v, he, by
  rcases hv with h | ⟨b, h1, h2, h3⟩
  · exact .inl h
  · exact .inr ⟨b, h1, Nat.le_trans m.size h2, h3⟩, hm⟩
def Pair2 (P Q : Value → World → Prop) (v : Value) (w : World) : Prop := ∃ a b, v = .agg #[a, b] ∧ P a w ∧ Q b w
theorem Pair2.stays {P Q : Value → World → Prop} (hP : ∀ v, Stays (P v)) (hQ : ∀ v, Stays (Q v)) (v : Value) : Stays (Pair2 P Q v) := fun _ _ ⟨a, b, h, h1, h2⟩ m => ⟨a, b, h, hP _ _ _ h1 m, hQ _ _ _ h2 m⟩
def StillOut (B : Nat) (g : DGlyph) (v : Value) (w : World) : Prop := ∃ u3 u4 u5 u6 u8, v = .agg #[.string g.name, .int .i64 g.adv, .bool g.mark, u3, u4, u5, u6, .slice none 0 0, u8] ∧
  CopyOut B 74 (g.pts.flatMap encPoint) g.pts.length u3 w ∧ CopyOut B 3 (g.ends.flatMap encInt) g.ends.length u4 w ∧ CopyOut B 79 (g.parts.flatMap encPart) g.parts.length u5 w ∧ CopyOut B 81 (g.anchors.flatMap encAnchor) g.anchors.length u6 w ∧ CopyOut B 64 (g.hint.flatMap encIns) g.hint.length u8 w
def GSmall (g : DGlyph) : Prop := g.pts.length * 24 ≤ 140737488351232 ∧ g.ends.length * 8 ≤ 140737488351232 ∧ g.parts.length * 24 ≤ 140737488351232 ∧ g.anchors.length * 32 ≤ 140737488351232 ∧ g.deltas.length * 32 ≤ 140737488351232 ∧ g.hint.length * 16 ≤ 140737488351232
set_option maxHeartbeats 4000000 in
theorem still_any (g : DGlyph) (B : Nat) (cs : List Value) (w : World) (h : RGlyph B w cs g) (hs : GSmall g) :
    Calls Try.prog 26 #[.agg cs.toArray] w fun e w' => ∃ v, e = .returned v ∧ Mod [] w w' ∧ StillOut w.heap.size g v w' := by
  obtain ⟨v3, v4, v5, v6, v7, v8, rfl, hn, ha, h3, h4, h5, h6, h7, h8⟩ := h
  obtain ⟨s1, s2, s3, s4, s5, s6⟩ := hs
  obtain ⟨o3, c3, rfl, -⟩ := h3.form
  obtain ⟨o4, c4, rfl, -⟩ := h4.form
  obtain ⟨o5, c5, rfl, -⟩ := h5.form
  obtain ⟨o6, c6, rfl, -⟩ := h6.form
  obtain ⟨o7, c7, rfl, -⟩ := h7.form
  obtain ⟨o8, c8, rfl, -⟩ := h8.form
  have H3 := Lib.hid (fun W (m : Mod [] w W) => copy_Point _ _ _ W (h3.mod RPoint.stay m) s1)
  have H4 := Lib.hid (fun W (m : Mod [] w W) => copy_Int _ _ _ W (h4.mod RInt.stay m) s2)
  have H5 := Lib.hid (fun W (m : Mod [] w W) => copy_Part _ _ _ W (h5.mod RPart.stay m) s3)
  have H6 := Lib.hid (fun W (m : Mod [] w W) => copy_Anchor _ _ _ W (h6.mod RAnchor.stay m) s4)
  have H8 := Lib.hid (fun W (m : Mod [] w W) => copy_Ins _ _ _ W (h8.mod RIns.stay m) s6)
  obtain ⟨name, adv, mark, pts, ends, parts, anchors, deltas, hint⟩ := g
  simp only at *
  have T := Lib.hid (own2 w #[.string name, .int .i64 adv, .bool mark, .slice o3 pts.length c3, .slice o4 ends.length c4, .slice o5 parts.length c5, .slice o6 anchors.length c6, .slice o7 deltas.length c7, .slice o8 hint.length c8] 44 #[.string ⟨#[]⟩, .int .i64 0, .bool false, .slice none 0 0, .slice none 0 0, .slice none 0 0, .slice none 0 0, .slice none 0 0, .slice none 0 0] 44)
  clear h3 h4 h5 h6 h7 h8 hn ha s1 s2 s3 s4 s5 s6
  go_enter Try.func26, Try.ntmps26
  go_upto_region 1 with fail
  generalize (w.alloc (.cells #[.string name, .int .i64 adv, .bool mark, .slice o3 pts.length c3, .slice o4 ends.length c4, .slice o5 parts.length c5, .slice o6 anchors.length c6, .slice o7 deltas.length c7, .slice o8 hint.length c8] 44)).alloc (.cells #[.string ⟨#[]⟩, .int .i64 0, .bool false, .slice none 0 0, .slice none 0 0, .slice none 0 0, .slice none 0 0, .slice none 0 0, .slice none 0 0] 44) = W0 at *
  have A0 := (T.out.at 0 rfl).every
  refine Sq.wp_region_toks 24 [(0, none), (1, none), (2, none), (3, none), (4, none), (5, none), (6, none), (7, none), (8, none), (10, none), (11, none), (12, none), (15, none), (16, none), (18, none), (19, none), (21, none), (22, none), (9, some (CopyOut W0.heap.size 74 (pts.flatMap encPoint) pts.length)), (13, some (CopyOut W0.heap.size 3 (ends.flatMap encInt) ends.length)), (14, none), (17, some (CopyOut W0.heap.size 79 (parts.flatMap encPart) parts.length)), (20, some (CopyOut W0.heap.size 81 (anchors.flatMap encAnchor) anchors.length)), (23, some (CopyOut W0.heap.size 64 (hint.flatMap encIns) hint.length))] (by kernel_rfl) (by kernel_rfl) (Sq.nodup_of (by kernel_rfl)) ?hTS65 ?mainS65
  case hTS65 =>
    intro p hp T hT v
    simp only [List.mem_cons, List.not_mem_nil, or_false] at hp
    rcases hp with rfl | rfl | rfl | rfl | rfl | rfl | rfl | rfl | rfl | rfl | rfl | rfl | rfl | rfl | rfl | rfl | rfl | rfl | rfl | rfl | rfl | rfl | rfl | rfl <;> first | (cases hT; done) | (cases hT; first | exact CopyOut.stays _ _ _ _ _)
  refine Sq.v_go (a' := ?_) rfl (by kernel_rfl) ?_ (fun w' hw' K Q hK => ?_) ?_
  rotate_left 2
  · go_wp2_with fail; exact hK _ (Mod.refl _ _)
  rotate_left
  · rfl
  refine Sq.v_go (a' := ?_) rfl (by kernel_rfl) ?_ (fun w' hw' K Q hK => ?_) ?_
  rotate_left 2
  · go_wp2_with fail; exact hK _ (Mod.refl _ _)
  rotate_left
  · rfl
  refine Sq.v_go (a' := ?_) rfl (by kernel_rfl) ?_ (fun w' hw' K Q hK => ?_) ?_
  rotate_left 2
  · go_wp2_with fail; exact hK _ (Mod.refl _ _)
  rotate_left
  · rfl
  refine Sq.v_go (a' := ?_) rfl (by kernel_rfl) ?_ (fun w' hw' K Q hK => ?_) ?_
  rotate_left 2
  · go_wp2_with fail; exact hK _ (Mod.refl _ _)
  rotate_left
  · rfl
  refine Sq.v_go (a' := ?_) rfl (by kernel_rfl) ?_ (fun w' hw' K Q hK => ?_) ?_
  rotate_left 2
  · go_wp2_with fail; exact hK _ (Mod.refl _ _)
  rotate_left
  · rfl
  refine Sq.v_go (a' := ?_) rfl (by kernel_rfl) ?_ (fun w' hw' K Q hK => ?_) ?_
  rotate_left 2
  · go_wp2_with fail; exact hK _ (Mod.refl _ _)
  rotate_left
  · rfl
  refine Sq.v_go (a' := ?_) rfl (by kernel_rfl) ?_ (fun w' hw' K Q hK => ?_) ?_
  rotate_left 2
  · go_wp2_with fail; exact hK _ (Mod.refl _ _)
  rotate_left
  · rfl
  refine Sq.v_go (a' := ?_) rfl (by kernel_rfl) ?_ (fun w' hw' K Q hK => ?_) ?_
  rotate_left 2
  · go_wp2_with fail; exact hK _ (Mod.refl _ _)
  rotate_left
  · rfl
  refine Sq.v_go (a' := ?_) rfl (by kernel_rfl) ?_ (fun w' hw' K Q hK => ?_) ?_
  rotate_left 2
  · go_wp2_with fail; exact hK _ (Mod.refl _ _)
  rotate_left
  · rfl
  refine Sq.v_go (a' := ?_) rfl (by kernel_rfl) ?_ (fun w' hw' K Q hK => ?_) ?_
  rotate_left 2
  · go_wp2_with fail; exact hK _ (Mod.refl _ _)
  rotate_left
  · rfl
  refine Sq.v_go (a' := ?_) rfl (by kernel_rfl) ?_ (fun w' hw' K Q hK => ?_) ?_
  rotate_left 2
  · go_wp2_with fail; exact hK _ (Mod.refl _ _)
  rotate_left
  · rfl
  refine Sq.v_go (a' := ?_) rfl (by kernel_rfl) ?_ (fun w' hw' K Q hK => ?_) ?_
  rotate_left 2
  · go_wp2_with fail; exact hK _ (Mod.refl _ _)
  rotate_left
  · rfl
  refine Sq.v_go (a' := ?_) rfl (by kernel_rfl) ?_ (fun w' hw' K Q hK => ?_) ?_
  rotate_left 2
  · go_wp2_with fail; exact hK _ (Mod.refl _ _)
  rotate_left
  · rfl
  refine Sq.v_go (a' := ?_) rfl (by kernel_rfl) ?_ (fun w' hw' K Q hK => ?_) ?_
  rotate_left 2
  · go_wp2_with fail; exact hK _ (Mod.refl _ _)
  rotate_left
  · rfl
  refine Sq.v_go (a' := ?_) rfl (by kernel_rfl) ?_ (fun w' hw' K Q hK => ?_) ?_
  rotate_left 2
  · go_wp2_with fail; exact hK _ (Mod.refl _ _)
  rotate_left
  · rfl
  refine Sq.v_go (a' := ?_) rfl (by kernel_rfl) ?_ (fun w' hw' K Q hK => ?_) ?_
  rotate_left 2
  · go_wp2_with fail; exact hK _ (Mod.refl _ _)
  rotate_left
  · rfl
  refine Sq.v_go (a' := ?_) rfl (by kernel_rfl) ?_ (fun w' hw' K Q hK => ?_) ?_
  rotate_left 2
  · go_wp2_with fail; exact hK _ (Mod.refl _ _)
  rotate_left
  · rfl
  refine Sq.v_go (a' := ?_) rfl (by kernel_rfl) ?_ (fun w' hw' K Q hK => ?_) ?_
  rotate_left 2
  · go_wp2_with fail; exact hK _ (Mod.refl _ _)
  rotate_left
  · rfl
  refine Sq.k_go (f := ?_) rfl rfl (fun v => by simp only [Act.put]; (try simp only [List.setIfInBounds_toArray]); (try simp only [List.set_cons_succ, List.set_cons_zero]); exact rfl) (fun w' hw' hF K Q hK => ?_) (fun kv9 hkv9 => ?_)
  · clear hF
    go_wp2_with fail
    refine (copy_out (H3.out _ (T.out.mod.then hw')) hw').mono ?_
    rintro e w'' ⟨v, rfl, hv, mm⟩
    go_wp2_with fail
    exact hK _ _ mm hv
  obtain ⟨_, -, q3⟩ := hkv9; obtain ⟨u3, e3, rfl⟩ := q3.form; clear q3
  refine Sq.k_go (f := ?_) rfl rfl (fun v => by simp only [Act.put]; (try simp only [List.setIfInBounds_toArray]); (try simp only [List.set_cons_succ, List.set_cons_zero]); exact rfl) (fun w' hw' hF K Q hK => ?_) (fun kv13 hkv13 => ?_)
  · clear hF
    go_wp2_with fail
    refine (copy_out (H4.out _ (T.out.mod.then hw')) hw').mono ?_
    rintro e w'' ⟨v, rfl, hv, mm⟩
    go_wp2_with fail
    exact hK _ _ mm hv
  obtain ⟨_, -, q4⟩ := hkv13; obtain ⟨u4, e4, rfl⟩ := q4.form; clear q4
  refine Sq.v_go (a' := ?_) rfl (by kernel_rfl) ?_ (fun w' hw' K Q hK => ?_) ?_
  rotate_left 2
  · go_wp2_with fail; exact hK _ (Mod.refl _ _)
  rotate_left
  · rfl
  refine Sq.k_go (f := ?_) rfl rfl (fun v => by simp only [Act.put]; (try simp only [List.setIfInBounds_toArray]); (try simp only [List.set_cons_succ, List.set_cons_zero]); exact rfl) (fun w' hw' hF K Q hK => ?_) (fun kv17 hkv17 => ?_)
  · clear hF
    go_wp2_with fail
    refine (copy_out (H5.out _ (T.out.mod.then hw')) hw').mono ?_
    rintro e w'' ⟨v, rfl, hv, mm⟩
    go_wp2_with fail
    exact hK _ _ mm hv
  obtain ⟨_, -, q5⟩ := hkv17; obtain ⟨u5, e5, rfl⟩ := q5.form; clear q5
  refine Sq.k_go (f := ?_) rfl rfl (fun v => by simp only [Act.put]; (try simp only [List.setIfInBounds_toArray]); (try simp only [List.set_cons_succ, List.set_cons_zero]); exact rfl) (fun w' hw' hF K Q hK => ?_) (fun kv20 hkv20 => ?_)
  · clear hF
    go_wp2_with fail
    refine (copy_out (H6.out _ (T.out.mod.then hw')) hw').mono ?_
    rintro e w'' ⟨v, rfl, hv, mm⟩
    go_wp2_with fail
    exact hK _ _ mm hv
  obtain ⟨_, -, q6⟩ := hkv20; obtain ⟨u6, e6, rfl⟩ := q6.form; clear q6
  refine Sq.k_go (f := ?_) rfl rfl (fun v => by simp only [Act.put]; (try simp only [List.setIfInBounds_toArray]); (try simp only [List.set_cons_succ, List.set_cons_zero]); exact rfl) (fun w' hw' hF K Q hK => ?_) (fun kv23 hkv23 => ?_)
  · clear hF
    go_wp2_with fail
    refine (copy_out (H8.out _ (T.out.mod.then hw')) hw').mono ?_
    rintro e w'' ⟨v, rfl, hv, mm⟩
    go_wp2_with fail
    exact hK _ _ mm hv
  obtain ⟨_, -, q8⟩ := hkv23; obtain ⟨u8, e8, rfl⟩ := q8.form; clear q8
  refine Sq.nil_go ?_
  intro w' hw' hF
  simp only [List.drop_succ_cons, List.drop_zero]
  have HF := Lib.hid hF
  have T1 := Lib.hid (T.out.call hw')
  have hB2 : w.heap.size + 2 ≤ W0.heap.size := by have := (T.out.at 1 rfl).lt; omega
  have HW := Lib.hid hw'
  clear hF hw' A0 T H3 H4 H5 H6 H8
  have B1 := T1.out.at 1 rfl
  have f0 := B1.cell 0
  have f1 := B1.cell 1
  have f2 := B1.cell 2
  have f3 := B1.cell 3
  have f4 := B1.cell 4
  have f5 := B1.cell 5
  have f6 := B1.cell 6
  have f7 := B1.cell 7
  have f8 := B1.cell 8
  have g0 := fun i => B1.frozen i
  clear B1
  go_wp2_with fail
  clear f0 f1 f2 f3 f4 f5 f6 f7 f8 g0
  have XF : (((((((((w'.setCell ⟨w.heap.size + 1, 0, none⟩ (.string name)).setCell ⟨w.heap.size + 1, 1, none⟩ (.int .i64 adv)).setCell ⟨w.heap.size + 1, 2, none⟩ (.bool mark)).setCell ⟨w.heap.size + 1, 3, none⟩ (.slice u3 pts.length e3)).setCell ⟨w.heap.size + 1, 4, none⟩ (.slice u4 ends.length e4)).setCell ⟨w.heap.size + 1, 5, none⟩ (.slice u5 parts.length e5)).setCell ⟨w.heap.size + 1, 6, none⟩ (.slice u6 anchors.length e6)).setCell ⟨w.heap.size + 1, 7, none⟩ (.slice none 0 0)).setCell ⟨w.heap.size + 1, 8, none⟩ (.slice u8 hint.length e8)) = setN w' (w.heap.size + 1) (0) [.string name, .int .i64 adv, .bool mark, .slice u3 pts.length e3, .slice u4 ends.length e4, .slice u5 parts.length e5, .slice u6 anchors.length e6, .slice none 0 0, .slice u8 hint.length e8] := rfl
  rw [XF]
  clear XF
  have B9 := (T1.out.at 1 rfl).over [.string name, .int .i64 adv, .bool mark, .slice u3 pts.length e3, .slice u4 ends.length e4, .slice u5 parts.length e5, .slice u6 anchors.length e6, .slice none 0 0, .slice u8 hint.length e8] rfl
  have M9 := Lib.hid (setN_mod (w0 := w) (b := w.heap.size + 1) (by omega) [.string name, .int .i64 adv, .bool mark, .slice u3 pts.length e3, .slice u4 ends.length e4, .slice u5 parts.length e5, .slice u6 anchors.length e6, .slice none 0 0, .slice u8 hint.length e8] 0 w' T1.out.mod)
  have A9 := Lib.hid (setN_above (b := w.heap.size + 1) (B := W0.heap.size) (by omega) [.string name, .int .i64 adv, .bool mark, .slice u3 pts.length e3, .slice u4 ends.length e4, .slice u5 parts.length e5, .slice u6 anchors.length e6, .slice none 0 0, .slice u8 hint.length e8] 0 w')
  generalize setN w' (w.heap.size + 1) 0 [.string name, .int .i64 adv, .bool mark, .slice u3 pts.length e3, .slice u4 ends.length e4, .slice u5 parts.length e5, .slice u6 anchors.length e6, .slice none 0 0, .slice u8 hint.length e8] = W9 at *
  have r0 := B9.cell 0
  have r1 := B9.cell 1
  have r2 := B9.cell 2
  have r3 := B9.cell 3
  have r4 := B9.cell 4
  have r5 := B9.cell 5
  have r6 := B9.cell 6
  have r7 := B9.cell 7
  have r8 := B9.cell 8
  simp only [List.getElem?_toArray, List.getElem?_cons_zero, List.getElem?_cons_succ] at r0 r1 r2 r3 r4 r5 r6 r7 r8
  clear B9
  obtain ⟨⟨⟨⟨⟨-, k3⟩, k4⟩, k5⟩, k6⟩, k8⟩ := HF.out
  exact bodyPost_ret (v := .agg #[.string name, .int .i64 adv, .bool mark, .slice u3 pts.length e3, .slice u4 ends.length e4, .slice u5 parts.length e5, .slice u6 anchors.length e6, .slice none 0 0, .slice u8 hint.length e8]) (by simp [results, Try.results26, go_sem, r0, r1, r2, r3, r4, r5, r6, r7, r8]) rfl
    ⟨_, rfl, M9.out, _, _, _, _, _, rfl, (k3.above A9.out).lower (by omega), (k4.above A9.out).lower (by omega), (k5.above A9.out).lower (by omega), (k6.above A9.out).lower (by omega), (k8.above A9.out).lower (by omega)⟩
end Go.Proofs.Ytaloembfekdkoaa
