/- vary: a glyph at a place. -/
import Derived.Test.YtaloembfekdkoaaVaryGlyphP
import Derived.Test.YtaloembfekdkoaaVaryStill
namespace Go.Proofs.Ytaloembfekdkoaa
open Go.RowKit
open Go.ChangeMaps (setBlock)
open Go.MapKept (Stamped)
set_option linter.unusedVariables false
set_option maxRecDepth 100000
def zeroGlyphL : List Value := [.string ⟨#[]⟩, .int .i64 0, .bool false, .slice none 0 0, .slice none 0 0, .slice none 0 0, .slice none 0 0, .slice none 0 0, .slice none 0 0]
theorem gl1_idle (p q : Addr) (w : World) : CallsD Try.prog 25 #[.pointer (some p), .pointer (some q)] .returning w fun e u' w' => e = .returned (.tuple #[]) ∧ u' = .returning ∧ w' = w := by
  refine callsD_of_wpS Try.func25 rfl fun c₀ cs hu => ?_
  apply wpS_seq
  apply wpS_region
  simp [wpOpsS, go_sem, recoverD, hu, Try.ntmps25, Exit.thenS]
  refine wpS_of_wp ?_
  go_wp2_with fail
  cases c₀
  simp_all [bodyPostS, results, Try.results25]
theorem gl1_panic (p q : Nat) (cs : List Value) (hcs : cs.length = 9) (y : Value) (n : Int) (older : List PanicEntry) (w : World) (hpq : q ≠ p) (B : Blk w p cs.toArray 44) (C : Blk w q #[y] 33) :
    CallsD Try.prog 25 #[.pointer (some ⟨p, 0, none⟩), .pointer (some ⟨q, 0, none⟩)] (.panicking ({ v := .iface 33 (.int .i64 n), recovered := false } :: older)) w fun e u' w' =>
      e = .returned (.tuple #[]) ∧ u' = .panicking ({ v := .iface 33 (.int .i64 n), recovered := true } :: older) ∧ w' = (setN w p 0 zeroGlyphL).setCell ⟨q, 0, none⟩ (.int .i64 n) := by
  have b0 : ∀ k, k < 9 → ∃ v, w.cell? ⟨p, k, none⟩ = some v := fun k hk => by
    rw [B.cell k]
    exact ⟨cs[k], by simp [hcs, hk]⟩
  obtain ⟨v0, f0⟩ := b0 0 (by omega)
  obtain ⟨v1, f1⟩ := b0 1 (by omega)
  obtain ⟨v2, f2⟩ := b0 2 (by omega)
  obtain ⟨v3, f3⟩ := b0 3 (by omega)
  obtain ⟨v4, f4⟩ := b0 4 (by omega)
  obtain ⟨v5, f5⟩ := b0 5 (by omega)
  obtain ⟨v6, f6⟩ := b0 6 (by omega)
  obtain ⟨v7, f7⟩ := b0 7 (by omega)
  obtain ⟨v8, f8⟩ := b0 8 (by omega)
  have b1 := fun k => B.frozen k
  have c0 := C.cell 0
  have c1 := C.frozen 0
  simp at c0
  clear b0
  refine callsD_of_wpS Try.func25 rfl fun c₀ cs' hu => ?_
  apply wpS_seq
  apply wpS_region
  simp [wpOpsS, go_sem, recoverD, hu, Try.ntmps25, Exit.thenS]
  refine wpS_of_wp ?_
  go_wp2_with fail
  refine (reason_any n _).mono ?_
  rintro e w1 ⟨rfl, rfl⟩
  go_wp2_with fail
  simp [bodyPostS, results, Try.results25]
  rfl
theorem gl_gives (Q : Ending → World → Prop) (tb eb : Nat) (k : Int) (cs : List Value) (hcs : cs.length = 9) (y : Value) (a : Act) (W : World) (hne : eb ≠ tb) (B : Blk W tb cs.toArray 44) (C : Blk W eb #[y] 33)
    (hd : a.defers = [{ target := .fn (.func 25) #[.pointer (some ⟨tb, 0, none⟩), .pointer (some ⟨eb, 0, none⟩)], args := #[] }]) (s4 : a.tmps[4]? = some (.pointer (some ⟨tb, 0, none⟩))) (s5 : a.tmps[5]? = some (.pointer (some ⟨eb, 0, none⟩)))
    (hQ : Q (.returned (.tuple #[.agg zeroGlyphL.toArray, .int .i64 k])) ((setN W tb 0 zeroGlyphL).setCell ⟨eb, 0, none⟩ (.int .i64 k))) :
    bodyPostD Try.prog Try.f10 Q (.panic [{ v := .iface 33 (.int .i64 k), recovered := false }]) a W := by
  have B' := (B.over zeroGlyphL (by simp [hcs, zeroGlyphL]))
  have B2 : Blk ((setN W tb 0 zeroGlyphL).setCell ⟨eb, 0, none⟩ (.int .i64 k)) tb zeroGlyphL.toArray 44 := (setN_other (b := eb) (b' := tb) (Ne.symm hne) [.int .i64 k] 0 _).trans B'
  have C2 : Blk ((setN W tb 0 zeroGlyphL).setCell ⟨eb, 0, none⟩ (.int .i64 k)) eb #[.int .i64 k] 33 := by
    have := (show Blk (setN W tb 0 zeroGlyphL) eb #[y] 33 from (setN_other hne _ _ _).trans C).set 0 (.int .i64 k)
    simpa using this
  unfold bodyPostD
  simp only
  rw [hd]
  refine leaves_cons (f := 25) (args := #[.pointer (some ⟨tb, 0, none⟩), .pointer (some ⟨eb, 0, none⟩)]) (by simp) (by simp [go_sem]) ?_
  refine (gl1_panic tb eb cs hcs y k [] W hne B C).mono ?_
  rintro e u' w'' ⟨rfl, rfl, rfl⟩
  have r0 := B2.cell 0
  have r1 := B2.cell 1
  have r2 := B2.cell 2
  have r3 := B2.cell 3
  have r4 := B2.cell 4
  have r5 := B2.cell 5
  have r6 := B2.cell 6
  have r7 := B2.cell 7
  have r8 := B2.cell 8
  have q0 := C2.cell 0
  simp only [zeroGlyphL, List.getElem?_toArray, List.getElem?_cons_zero, List.getElem?_cons_succ] at r0 r1 r2 r3 r4 r5 r6 r7 r8 q0
  clear B2 C2 B' B C
  unfold zeroGlyphL at hQ ⊢
  generalize (setN W tb 0 [.string ⟨#[]⟩, .int .i64 0, .bool false, .slice none 0 0, .slice none 0 0, .slice none 0 0, .slice none 0 0, .slice none 0 0, .slice none 0 0]).setCell ⟨eb, 0, none⟩ (.int .i64 k) = W2 at *
  simp [Leaves, settle, results, Try.results10, go_sem, r0, r1, r2, r3, r4, r5, r6, r7, r8, q0, s4, s5]
  exact hQ
theorem gl_returns (Q : Ending → World → Prop) (tb eb : Nat) (x0 x1 x2 x3 x4 x5 x6 x7 x8 y : Value) (a : Act) (W : World) (B : Blk W tb #[x0, x1, x2, x3, x4, x5, x6, x7, x8] 44) (C : Blk W eb #[y] 33)
    (hd : a.defers = [{ target := .fn (.func 25) #[.pointer (some ⟨tb, 0, none⟩), .pointer (some ⟨eb, 0, none⟩)], args := #[] }]) (s4 : a.tmps[4]? = some (.pointer (some ⟨tb, 0, none⟩))) (s5 : a.tmps[5]? = some (.pointer (some ⟨eb, 0, none⟩)))
    (hQ : Q (.returned (.tuple #[.agg #[x0, x1, x2, x3, x4, x5, x6, x7, x8], y])) W) :
    bodyPostD Try.prog Try.f10 Q .ret a W := by
  unfold bodyPostD
  simp only
  rw [hd]
  refine leaves_cons (f := 25) (args := #[.pointer (some ⟨tb, 0, none⟩), .pointer (some ⟨eb, 0, none⟩)]) (by simp) (by simp [go_sem]) ?_
  refine (gl1_idle _ _ _).mono ?_
  rintro e u' w'' ⟨rfl, rfl, rfl⟩
  have r0 := B.cell 0
  have r1 := B.cell 1
  have r2 := B.cell 2
  have r3 := B.cell 3
  have r4 := B.cell 4
  have r5 := B.cell 5
  have r6 := B.cell 6
  have r7 := B.cell 7
  have r8 := B.cell 8
  have q0 := C.cell 0
  simp only [List.getElem?_toArray, List.getElem?_cons_zero, List.getElem?_cons_succ] at r0 r1 r2 r3 r4 r5 r6 r7 r8 q0
  simp [Leaves, settle, results, Try.results10, go_sem, r0, r1, r2, r3, r4, r5, r6, r7, r8, q0, s4, s5]
  exact hQ
theorem movedC_some {n b l r : Int} (w : World) (hn : I64 n) (hb : I64 b) (hl : -16384 ≤ l) (h : Vr.movedR n b l = some r) : Calls Try.prog 29 #[.int .i64 n, .int .i64 b, .int .i64 l] w fun e w' => e = .returned (.int .i64 r) ∧ Mod [] w w' := by
  unfold Vr.movedR at h
  split at h
  · rename_i hh
    cases h
    refine (moved_yes n b l w hn hb hl hh).mono ?_
    rintro e w' ⟨rfl, rfl⟩
    exact ⟨rfl, Mod.refl _ _⟩
  · cases h
theorem movedC_none {n b l : Int} (w : World) (hn : I64 n) (hb : I64 b) (hl : -16384 ≤ l) (h : Vr.movedR n b l = none) : Calls Try.prog 29 #[.int .i64 n, .int .i64 b, .int .i64 l] w fun e w' => e = .panicked [{ v := .iface 33 (.int .i64 3), recovered := false }] ∧ Mod [] w w' := by
  unfold Vr.movedR at h
  split at h
  · cases h
  · rename_i hh
    refine (moved_no n b l w hn hb hl hh).mono ?_
    rintro e w' ⟨rfl, rfl⟩
    exact ⟨rfl, Mod.refl _ _⟩
end Go.Proofs.Ytaloembfekdkoaa
