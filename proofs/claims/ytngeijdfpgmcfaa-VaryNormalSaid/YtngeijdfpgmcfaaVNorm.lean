/-
  vary: reason; the closure that Normal defers.
  vary: Normal, refused for its arguments' number.
  A row of ratios of the call's own, as pairs in memory.
  Rows of the call's own beside its blocks: what keeps them.
  vary: Normal, where every number lies on its axis; and where one does not.
  A region that draws its order, in which one operation gives up, and all that comes ahead of it is steady: one walk serves every order.
  vary: Normal, where a number does not lie on its axis.
  The document's made of layer 16: a ratio of two numbers.
  The document's Normal of layer 16.
  The document's Normal of layer 16, where a number is off its axis.
  VaryNormal: the walk.
-/
import Derived.Test.YtngeijdfpgmcfaaVaryFactor
import Derived.Test.YtngeijdfpgmcfaaVarySame
import Derived.Laws.AppendOwn
import Derived.Test.YtngeijdfpgmcfaaMono
import Derived.Test.YtngeijdfpgmcfaaVaryAlong
import Derived.Test.YtngeijdfpgmcfaaVaryBig
import Derived.Test.YtngeijdfpgmcfaaBigMake
import Derived.Test.YtngeijdfpgmcfaaVaried

namespace Go.Proofs.Ytngeijdfpgmcfaa
open Go.RowKit
set_option linter.unusedVariables false

set_option maxRecDepth 20000 in
theorem reason_any (n : Int) (w : World) : Calls Try.prog 10 #[.iface 34 (.int .i64 n)] w fun e w' => e = .returned (.int .i64 n) ∧ w = w' := by
  have hta : ∀ w : World, (Instr.typeAssert (.iface 34 (.int .i64 n)) 20 34 true).run Try.prog w = .ok (.tuple #[.int .i64 n, .bool true]) w := fun w => by kernel_rfl
  go_enter Try.func10, Try.ntmps10
  go_wp2_with fail
  go_ret
  exact ⟨rfl, rfl⟩
theorem nor1_idle (p q : Addr) (w : World) : CallsD Try.prog 9 #[.pointer (some p), .pointer (some q)] .returning w fun e u' w' => e = .returned (.tuple #[]) ∧ u' = .returning ∧ w' = w := by
  refine callsD_of_wpS Try.func9 rfl fun c₀ cs hu => ?_
  apply wpS_seq
  apply wpS_region
  simp [wpOpsS, go_sem, recoverD, hu, Try.ntmps9, Exit.thenS]
  refine wpS_of_wp ?_
  go_wp2_with fail
  cases c₀
  simp_all [bodyPostS, results, Try.results9]
theorem nor1_panic (p q : Nat) (x y : Value) (n : Int) (older : List PanicEntry) (w : World) (hpq : p ≠ q) (B : Blk w p #[x] 33) (C : Blk w q #[y] 34) :
    CallsD Try.prog 9 #[.pointer (some ⟨p, 0, none⟩), .pointer (some ⟨q, 0, none⟩)] (.panicking ({ v := .iface 34 (.int .i64 n), recovered := false } :: older)) w fun e u' w' =>
      e = .returned (.tuple #[]) ∧ u' = .panicking ({ v := .iface 34 (.int .i64 n), recovered := true } :: older) ∧ w' = (w.setCell ⟨p, 0, none⟩ (.slice none 0 0)).setCell ⟨q, 0, none⟩ (.int .i64 n) := by
  have b0 := B.cell 0
  have b1 := B.frozen 0
  have c0 := C.cell 0
  have c1 := C.frozen 0
  simp at b0 c0
  refine callsD_of_wpS Try.func9 rfl fun c₀ cs hu => ?_
  apply wpS_seq
  apply wpS_region
  simp [wpOpsS, go_sem, recoverD, hu, Try.ntmps9, Exit.thenS]
  refine wpS_of_wp ?_
  go_wp2_with fail
  refine (reason_any n _).mono ?_
  rintro e w1 ⟨rfl, rfl⟩
  go_wp2_with fail
  simp [bodyPostS, results, Try.results9]
end Go.Proofs.Ytngeijdfpgmcfaa

namespace Go.Proofs.Ytngeijdfpgmcfaa
open Go.RowKit
set_option linter.unusedVariables false

/-- A slice's header. -/
structure Hd where
  a : Option Addr
  n : Nat
  c : Nat
def Hd.v (h : Hd) : Value := .slice h.a h.n h.c
/-- A font's cells. -/
def fontCells (u : Int) (g c l fe ax rg fu cv : Hd) : Array Value := #[.int .i64 u, .slice g.a g.n g.c, .slice c.a c.n c.c, .slice l.a l.n l.c, .slice fe.a fe.n fe.c, .slice ax.a ax.n ax.c, .slice rg.a rg.n rg.c, .slice fu.a fu.n fu.c, .slice cv.a cv.n cv.c]

set_option maxHeartbeats 2000000 in
theorem normal_arg (u : Int) (g c l fe ax rg fu cv : Hd) (pa : Option Addr) (pn pc : Nat) (w : World) (hne : pn ≠ ax.n) :
    Calls Try.prog 5 #[.agg (fontCells u g c l fe ax rg fu cv), .slice pa pn pc] w fun e w' => e = .returned (.tuple #[.slice none 0 0, .int .i64 1]) ∧ Mod [] w w' := by
  have hmf : ∀ (fn : Fn) (first cap : Array Value) (w : World), (Instr.makeFunc fn first cap).run Try.prog w = .ok (.func fn first cap) w := fun _ _ _ _ => rfl
  unfold fontCells
  have T := Lib.hid (own3 w (fontCells u g c l fe ax rg fu cv) 31 #[.slice none 0 0] 33 #[.int .i64 0] 34)
  have k1 : (((pn : Int)) != (ax.n : Int)) = true := by simp; omega
  have k1' : ((pn : Int) == (ax.n : Int)) = false := by simp; omega
  clear hne
  go_enter_defers Try.func5, Try.ntmps5
  go_wp2_with fail
  have T2 := Lib.hid ((T.out.set 1 rfl 0 (.slice none 0 0)).set 2 rfl 0 (.int .i64 1))
  have B1 := T.out.at 1 rfl
  have B2 := T.out.at 2 rfl
  unfold fontCells at T2 B1 B2
  clear T
  generalize ((w.alloc (.cells #[.int .i64 u, .slice g.a g.n g.c, .slice c.a c.n c.c, .slice l.a l.n l.c, .slice fe.a fe.n fe.c, .slice ax.a ax.n ax.c, .slice rg.a rg.n rg.c, .slice fu.a fu.n fu.c, .slice cv.a cv.n cv.c] 31)).alloc (.cells #[.slice none 0 0] 33)).alloc (.cells #[.int .i64 0] 34) = W0 at *
  refine leaves_cons (f := 9) (args := #[.pointer (some ⟨w.heap.size + 1, 0, none⟩), .pointer (some ⟨w.heap.size + 1 + 1, 0, none⟩)]) (by simp) (by simp [go_sem]) ?_
  refine (nor1_panic (w.heap.size + 1) (w.heap.size + 1 + 1) _ _ 1 [] _ (by omega) B1 B2).mono ?_
  rintro e u' w'' ⟨rfl, rfl, rfl⟩
  have r0 := (T2.out.at 1 rfl).cell 0
  have r1 := (T2.out.at 2 rfl).cell 0
  have HM := Lib.hid T2.out.mod
  simp at r0 r1
  clear T2 B1 B2
  generalize (W0.setCell ⟨w.heap.size + 1, 0, none⟩ (.slice none 0 0)).setCell ⟨w.heap.size + 1 + 1, 0, none⟩ (.int .i64 1) = W2 at *
  simp [Leaves, settle, results, Try.results5, go_sem, r0, r1]
  exact HM.out
end Go.Proofs.Ytngeijdfpgmcfaa

namespace Go.Proofs.Ytngeijdfpgmcfaa
open Go.RowKit
set_option linter.unusedVariables false

def flatP (l : List (Int × Int)) : List Value := l.flatMap fun p => [.int .i64 p.1, .int .i64 p.2]
theorem flatP_length (l : List (Int × Int)) : (flatP l).length = l.length * 2 := by
  induction l with
  | nil => rfl
  | cons p r ih => unfold flatP at *; rw [List.flatMap_cons, List.length_append, ih, List.length_cons]; simp; omega
theorem flatP_snoc (l : List (Int × Int)) (p : Int × Int) : flatP (l ++ [p]) = flatP l ++ [.int .i64 p.1, .int .i64 p.2] := by unfold flatP; rw [List.flatMap_append]; simp
theorem flatP_at : ∀ (l : List (Int × Int)) (i : Nat) (h : i < l.length), (flatP l)[i * 2]? = some (.int .i64 l[i].1) ∧ (flatP l)[i * 2 + 1]? = some (.int .i64 l[i].2)
  | p :: r, 0, _ => ⟨rfl, rfl⟩
  | p :: r, i + 1, h => by
    have ih := flatP_at r i (by simpa using h)
    have e : flatP (p :: r) = .int .i64 p.1 :: .int .i64 p.2 :: flatP r := rfl
    rw [e, show (i + 1) * 2 = i * 2 + 1 + 1 by omega, List.getElem?_cons_succ, List.getElem?_cons_succ, List.getElem?_cons_succ, List.getElem?_cons_succ]
    exact ih
theorem pairs_of_owns {w : World} {B : Nat} {v : Value} {l : List (Int × Int)} (h : w.ownsRow B 51 2 v l.length (flatP l)) : PairsAt w v l := by
  rcases h.2 with ⟨rfl, hn⟩ | ⟨g, cap, cur, rfl, _, hg, _, _, _, ht⟩
  · exact ⟨none, 0, by rw [hn], fun i hi => by omega⟩
  · refine ⟨some ⟨g, 0, none⟩, cap, rfl, fun i hi => ⟨g, rfl, ?_⟩⟩
    obtain ⟨h1, h2⟩ := flatP_at l i hi
    rw [← ht, List.getElem?_take, if_pos (by omega)] at h1 h2
    exact ⟨by simpa [World.cell?, hg] using h1, by simpa [World.cell?, hg] using h2⟩
end Go.Proofs.Ytngeijdfpgmcfaa

namespace Go.Proofs.Ytngeijdfpgmcfaa
open Go.RowKit
set_option linter.unusedVariables false

section
variable {w0 w w' : World} {B : Nat} {e : TypeId} {size : Nat} {v : Value} {n : Nat} {xs : List Value}
theorem own_form (h : w.ownsRow B e size v n xs) : ∃ oa c, v = .slice oa n c := by
  rcases h.2 with ⟨rfl, hn⟩ | ⟨g, cap, cur, rfl, _⟩
  · exact ⟨none, 0, by rw [hn]⟩
  · exact ⟨_, _, rfl⟩
theorem owns_mod (h : w.ownsRow B e size v n xs) (m : Mod [] w w') : w'.ownsRow B e size v n xs :=
  h.kept (row := none) ⟨m.os, m.tape, m.output, m.size, fun k hk _ => m.block k hk (by simp)⟩ (by cases v.ownBlock <;> simp)
theorem owns_set (h : w.ownsRow B e size v n xs) {p : Addr} (hp : p.block < B) (x : Value) : (w.setCell p x).ownsRow B e size v n xs := by
  refine h.kept (row := some p.block) ⟨rfl, rfl, rfl, by simp, fun k hk hn => Below.heap_setCell w p x k (fun he => hn (by rw [he]))⟩ ?_
  right
  intro he
  have := h.lt p.block he
  omega
theorem Own.grown {l : List (Nat × Array Value × TypeId)} {row : Option Nat} (S : Own w0 w l) (g : w.grownBy w' row) (hr : ∀ k, row = some k → B ≤ k) (hB : w0.heap.size ≤ B) (hl : ∀ p ∈ l, p.1 < B) : Own w0 w' l := by
  refine ⟨⟨g.os.trans S.mod.os, g.tape.trans S.mod.tape, g.output.trans S.mod.output, Nat.le_trans S.mod.size g.size, fun k hk hn => ?_⟩, fun p hp => ⟨(S.blk p hp).1, ?_⟩, S.nodup⟩
  · rw [g.block k (Nat.lt_of_lt_of_le hk S.mod.size) (fun he => by have := hr k he.symm; omega), S.mod.block k hk hn]
  · exact (g.block p.1 (S.blk p hp).2.lt (fun he => by have := hr _ he.symm; have := hl p hp; omega)).trans (S.blk p hp).2
theorem owns_lower {B' : Nat} (h : w.ownsRow B e size v n xs) (hB : B' ≤ B) : w.ownsRow B' e size v n xs := by
  refine ⟨h.1, ?_⟩
  rcases h.2 with h | ⟨g, cap, cur, h1, h2, h3⟩
  · exact .inl h
  · exact .inr ⟨g, cap, cur, h1, Nat.le_trans hB h2, h3⟩
end
end Go.Proofs.Ytngeijdfpgmcfaa

namespace Go.Proofs.Ytngeijdfpgmcfaa
open Go.RowKit
set_option linter.unusedVariables false

/-- An axis, ys it is read. -/
structure Ax where
  s : ByteArray
  l : Int
  d : Int
  m : Int
/-- Axes and a place in memory. -/
def AxesAt (W : World) (oa : Option Addr) (ys : List Ax) : Prop := ∀ i (h : i < ys.length), ∃ a : Addr, oa = some a ∧ W.cell? ((a.add (i * 4)).add 0) = some (.string ys[i].s) ∧ W.cell? ((a.add (i * 4)).add 1) = some (.int .i64 ys[i].l) ∧ W.cell? ((a.add (i * 4)).add 2) = some (.int .i64 ys[i].d) ∧ W.cell? ((a.add (i * 4)).add 3) = some (.int .i64 ys[i].m)
def PlaceAt (W : World) (oa : Option Addr) (xs : List Int) : Prop := ∀ i (h : i < xs.length), ∃ a : Addr, oa = some a ∧ W.cell? (a.add i) = some (.int .i64 xs[i])
theorem AxesAt.mod {W W' : World} {oa : Option Addr} {ys : List Ax} (h : AxesAt W oa ys) (m : Mod [] W W') : AxesAt W' oa ys := fun i hi => by
  obtain ⟨a, ha, h0, h1, h2, h3⟩ := h i hi
  exact ⟨a, ha, cell_kept m h0, cell_kept m h1, cell_kept m h2, cell_kept m h3⟩
theorem PlaceAt.mod {W W' : World} {oa : Option Addr} {xs : List Int} (h : PlaceAt W oa xs) (m : Mod [] W W') : PlaceAt W' oa xs := fun i hi => by
  obtain ⟨a, ha, h0⟩ := h i hi
  exact ⟨a, ha, cell_kept m h0⟩
def Vr.places : List Int → List Ax → List (Int × Int)
  | x :: xs, a :: ys => Vr.alongR x a.l a.d a.m :: Vr.places xs ys
  | _, _ => []
def Vr.allOn : List Int → List Ax → Prop
  | x :: xs, a :: ys => Vr.onAxis x a.l a.d a.m ∧ Vr.allOn xs ys
  | _, _ => True

theorem cells_two_new (w : World) (x y : Value) (t : TypeId) : ∀ (j : Nat) (u : Value), [x, y][j]? = some u → (w.alloc (.cells #[x, y] t)).cell? (Addr.add ⟨w.heap.size, 0, none⟩ j) = some u
  | 0, u, h => by simpa [Addr.add] using h
  | 1, u, h => by simpa [Addr.add] using h
  | j + 2, u, h => by simp at h
theorem cells_two_at {w : World} {b : Nat} {x y : Value} {t : TypeId} (h : Blk w b #[x, y] t) : ∀ (j : Nat) (u : Value), [x, y][j]? = some u → w.cell? (Addr.add ⟨b, 0, none⟩ j) = some u
  | 0, u, e => by have := h.cell 0; simp [Addr.add] at this e ⊢; rw [this, e]
  | 1, u, e => by have := h.cell 1; simp [Addr.add] at this e ⊢; rw [this, e]
  | j + 2, u, e => by simp at e
/-- A new row of these cells. -/
def NewSl (B : Nat) (cs : Array Value) (t : TypeId) (n : Nat) (v : Value) (w : World) : Prop := ∃ b, v = .slice (some ⟨b, 0, none⟩) n n ∧ B ≤ b ∧ Blk w b cs t
theorem NewSl.stays (B : Nat) (cs : Array Value) (t : TypeId) (n : Nat) (v : Value) : Stays (NewSl B cs t n v) := fun _ _ ⟨b, h1, h2, h3⟩ m => ⟨b, h1, h2, h3.kept m (by simp)⟩
theorem late_slice {P : Program} {W : World} {o : Oper} {a : Act} {cs : Array Value} {t : TypeId} {n : Nat} (h : ∀ w, (execOp a.eval o).run P w = .ok (.value (.slice (some ⟨w.heap.size, 0, none⟩) n n)) (w.alloc (.cells cs t))) : Late P o a W (NewSl W.heap.size cs t n) := by
  intro w hw
  unfold Oper.wp
  rw [h w]
  exact ⟨_, rfl, (Mod.refl _ _).alloc _, w.heap.size, rfl, hw.size, Blk.new w cs t⟩
theorem pairs_of_owns2 {w : World} {B : Nat} {v : Value} {n : Nat} {l : List (Int × Int)} (h : w.ownsRow B 51 2 v n (flatP l)) (hn : n = l.length) : PairsAt w v l := by subst hn; exact pairs_of_owns h
theorem places_length : ∀ (xs : List Int) (ys : List Ax), (Vr.places xs ys).length = min xs.length ys.length
  | [], _ => by simp [Vr.places]
  | x :: xs, [] => by simp [Vr.places]
  | x :: xs, a :: ys => by simp only [Vr.places, List.length_cons, places_length xs ys]; omega
theorem places_at : ∀ (xs : List Int) (ys : List Ax) (i : Nat) (h1 : i < xs.length) (h2 : i < ys.length), (Vr.places xs ys)[i]? = some (Vr.alongR xs[i] ys[i].l ys[i].d ys[i].m)
  | x :: xs, a :: ys, 0, _, _ => rfl
  | x :: xs, a :: ys, i + 1, h1, h2 => by
    simp only [Vr.places, List.getElem?_cons_succ, List.getElem_cons_succ]
    exact places_at xs ys i (by simpa using h1) (by simpa using h2)
theorem allOn_at : ∀ (xs : List Int) (ys : List Ax) (i : Nat) (h1 : i < xs.length) (h2 : i < ys.length), Vr.allOn xs ys → Vr.onAxis xs[i] ys[i].l ys[i].d ys[i].m
  | x :: xs, a :: ys, 0, _, _, h => h.1
  | x :: xs, a :: ys, i + 1, h1, h2, h => allOn_at xs ys i (by simpa using h1) (by simpa using h2) h.2
theorem Try.info_Ratio : (Try.prog.info? 51).map (fun i => (i.zero, i.size, i.bytes)) = some (some (.agg #[.int .i64 0, .int .i64 0]), 2, 16) := by kernel_rfl

set_option maxRecDepth 100000 in
set_option maxHeartbeats 4000000 in
theorem normal_yes (u : Int) (g c l fe ax rg fu cv : Hd) (pa : Option Addr) (pc : Nat) (xs : List Int) (ys : List Ax) (w : World) (hx : xs.length = ax.n) (ha : ys.length = ax.n) (h6 : ax.n ≤ 6)
    (hX : PlaceAt w pa xs) (hA : AxesAt w ax.a ys) (hOn : Vr.allOn xs ys) :
    Calls Try.prog 5 #[.agg (fontCells u g c l fe ax rg fu cv), .slice pa xs.length pc] w fun e w' => ∃ v, e = .returned (.tuple #[v, .int .i64 0]) ∧ Mod [] w w' ∧ PairsAt w' v (Vr.places xs ys) := by
  have hmf : ∀ (fn : Fn) (first cap : Array Value) (w : World), (Instr.makeFunc fn first cap).run Try.prog w = .ok (.func fn first cap) w := fun _ _ _ _ => rfl
  obtain ⟨axa, axn, axc⟩ := ax
  simp only at hx ha h6 hA
  obtain ⟨i0, hti, hz0, hz1, hz2⟩ := info_parts Try.info_Ratio
  unfold fontCells
  have T := Lib.hid (own3 w (fontCells u g c l fe ⟨axa, axn, axc⟩ rg fu cv) 31 #[.slice none 0 0] 33 #[.int .i64 0] 34)
  have k1 : (((xs.length : Nat) : Int) != (axn : Int)) = false := by simp; omega
  have k1' : (((xs.length : Nat) : Int) == (axn : Int)) = true := by simp; omega
  have HA := Lib.hid hA
  have HX := Lib.hid hX
  have HO := Lib.hid hOn
  have HL := Lib.hid (And.intro hx (And.intro ha h6))
  clear hA hX hOn hx ha h6
  go_enter_defers Try.func5, Try.ntmps5
  go_upto_region 4 with fail
  unfold fontCells at T
  generalize ((w.alloc (.cells #[.int .i64 u, .slice g.a g.n g.c, .slice c.a c.n c.c, .slice l.a l.n l.c, .slice fe.a fe.n fe.c, .slice axa axn axc, .slice rg.a rg.n rg.c, .slice fu.a fu.n fu.c, .slice cv.a cv.n cv.c] 31)).alloc (.cells #[.slice none 0 0] 33)).alloc (.cells #[.int .i64 0] 34) = W0 at *
  go_wp2_with fail
  go_loopg [18] xs.length (fun gk i18 wr => ∃ i : Nat, i18 = .int .i64 (i : Int) ∧ Hid (i + gk = xs.length) ∧ Hid (∃ v, Own w wr [(w.heap.size, #[.int .i64 u, .slice g.a g.n g.c, .slice c.a c.n c.c, .slice l.a l.n l.c, .slice fe.a fe.n fe.c, .slice axa axn axc, .slice rg.a rg.n rg.c, .slice fu.a fu.n fu.c, .slice cv.a cv.n cv.c], 31), (w.heap.size + 1, #[v], 33), (w.heap.size + 1 + 1, #[.int .i64 0], 34)] ∧ wr.ownsRow (w.heap.size + 3) 51 2 v i (flatP ((Vr.places xs ys).take i))))
  case atStart => exact ⟨0, rfl, by show 0 + xs.length = xs.length; omega, .slice none 0 0, T.out, World.ownsRow_nil _ _ _ _⟩
  case round =>
    obtain ⟨i, rfl, hi, HV⟩ := hrel
    obtain ⟨v, TT, hR⟩ := HV.out
    obtain ⟨va, vc, rfl⟩ := own_form hR
    have TT := Lib.hid TT
    have HR := Lib.hid hR
    clear HV hR T
    by_cases hn : i = xs.length
    · subst hn
      have p0 : wr.cell? ⟨w.heap.size + 1, 0, none⟩ = some (.slice va xs.length vc) := by rw [(TT.out.at 1 rfl).cell]; rfl
      have p1 := (TT.out.at 1 rfl).frozen 0
      have q0 : wr.cell? ⟨w.heap.size + 1 + 1, 0, none⟩ = some (.int .i64 0) := by rw [(TT.out.at 2 rfl).cell]; rfl
      have q1 := (TT.out.at 2 rfl).frozen 0
      go_wp2_with fail
      obtain ⟨hx1, hx2, hx3⟩ := HL.out
      rw [List.take_of_length_le (by rw [places_length]; omega)] at HR
      have T2 := Lib.hid ((TT.out.set 1 rfl 0 (.slice va xs.length vc)).set 2 rfl 0 (.int .i64 0))
      have HP := Lib.hid (pairs_of_owns2 (owns_set (owns_set HR.out (p := ⟨w.heap.size + 1, 0, none⟩) (by simp) (.slice va xs.length vc)) (p := ⟨w.heap.size + 1 + 1, 0, none⟩) (by simp) (.int .i64 0)) (by rw [places_length]; omega))
      have r0 : ((wr.setCell ⟨w.heap.size + 1, 0, none⟩ (.slice va xs.length vc)).setCell ⟨w.heap.size + 1 + 1, 0, none⟩ (.int .i64 0)).cell? ⟨w.heap.size + 1, 0, none⟩ = some (.slice va xs.length vc) := by rw [(T2.out.at 1 rfl).cell]; rfl
      have r1 : ((wr.setCell ⟨w.heap.size + 1, 0, none⟩ (.slice va xs.length vc)).setCell ⟨w.heap.size + 1 + 1, 0, none⟩ (.int .i64 0)).cell? ⟨w.heap.size + 1 + 1, 0, none⟩ = some (.int .i64 0) := by rw [(T2.out.at 2 rfl).cell]; rfl
      generalize (wr.setCell ⟨w.heap.size + 1, 0, none⟩ (.slice va xs.length vc)).setCell ⟨w.heap.size + 1 + 1, 0, none⟩ (.int .i64 0) = W9 at *
      clear p0 p1 q0 q1
      refine leaves_cons (f := 9) (args := #[.pointer (some ⟨w.heap.size + 1, 0, none⟩), .pointer (some ⟨w.heap.size + 1 + 1, 0, none⟩)]) (by simp) (by simp [go_sem]) ?_
      refine (nor1_idle _ _ _).mono ?_
      rintro e u' w'' ⟨rfl, rfl, rfl⟩
      simp [Leaves, settle, results, Try.results5, go_sem, r0, r1]
      exact ⟨T2.out.mod, HP.out⟩
    · have hlt : i < xs.length := by have := hi.out; omega
      have hlt2 : (i : Int) < (xs.length : Int) := by omega
      have h0 : (0 : Int) ≤ (i : Int) := by omega
      have hiy : i < ys.length := by have := HL.out; omega
      obtain ⟨a, rfl, x0⟩ := HX.out.mod TT.out.mod i hlt
      obtain ⟨b, rfl, a0, a1, a2, a3⟩ := HA.out.mod TT.out.mod i hiy
      have p0 : wr.cell? ⟨w.heap.size + 1, 0, none⟩ = some (.slice va i vc) := by rw [(TT.out.at 1 rfl).cell]; rfl
      have HOi := Lib.hid (allOn_at xs ys i hlt hiy HO.out)
      have HPi := Lib.hid (places_at xs ys i hlt hiy)
      have HAl := Lib.hid (fun W => along_yes ys[i].s xs[i] ys[i].l ys[i].d ys[i].m W HOi.out)
      generalize Vr.alongR xs[i] ys[i].l ys[i].d ys[i].m = rr at *
      obtain ⟨ra, rb⟩ := rr
      clear HOi
      generalize xs[i] = x at *
      generalize ys[i].s = sx at *
      generalize ys[i].l = lx at *
      generalize ys[i].d = dx at *
      generalize ys[i].m = mx at *
      simp only [show ∀ q : Addr, q.add 0 = q from fun q => by simp [Addr.add], show ∀ q : Addr, q.add 1 = ⟨q.block, q.off + 1, none⟩ from fun q => by simp [Addr.add], show ∀ q : Addr, q.add 2 = ⟨q.block, q.off + 2, none⟩ from fun q => by simp [Addr.add], show ∀ q : Addr, q.add 3 = ⟨q.block, q.off + 3, none⟩ from fun q => by simp [Addr.add]] at a0 a1 a2 a3
      simp only at HAl
      have A0 := (TT.out.at 0 rfl).every
      have A1 := (TT.out.at 1 rfl).every
      have Y0 : ∀ W, Mod [] wr W → W.cell? (b.add (i * 4)) = some (.string sx) := fun W m => cell_kept m a0
      have Y1 : ∀ W, Mod [] wr W → W.cell? ⟨(b.add (i * 4)).block, (b.add (i * 4)).off + 1, none⟩ = some (.int .i64 lx) := fun W m => cell_kept m a1
      have Y2 : ∀ W, Mod [] wr W → W.cell? ⟨(b.add (i * 4)).block, (b.add (i * 4)).off + 2, none⟩ = some (.int .i64 dx) := fun W m => cell_kept m a2
      have Y3 : ∀ W, Mod [] wr W → W.cell? ⟨(b.add (i * 4)).block, (b.add (i * 4)).off + 3, none⟩ = some (.int .i64 mx) := fun W m => cell_kept m a3
      have hb2 : (i : Int) < (axn : Int) := by have := HL.out; omega
      go_upto_region 7 with fail
      clear a0 a1 a2 a3 x0 p0
      refine wp_region_mask 9 [true, true, true, true, true, true, true, true, false] [(8, NewSl wr.heap.size #[.int .i64 ra, .int .i64 rb] 51 1)] (by kernel_rfl) (by kernel_rfl) (by simp [NewSl.stays]) ?_
      simp only [pickM]
      refine steady_go (a' := ?_) (by kernel_rfl) ?_ (fun w' hw' K Q hK => ?_) ?_
      rotate_left 2
      · go_wp2_with fail; exact hK _ (Mod.refl _ _)
      rotate_left
      · rfl
      refine steady_go (a' := ?_) (by kernel_rfl) ?_ (fun w' hw' K Q hK => ?_) ?_
      rotate_left 2
      · go_wp2_with fail; exact hK _ (Mod.refl _ _)
      rotate_left
      · rfl
      refine steady_go (a' := ?_) (by kernel_rfl) ?_ (fun w' hw' K Q hK => ?_) ?_
      rotate_left 2
      · go_wp2_with fail; exact hK _ (Mod.refl _ _)
      rotate_left
      · rfl
      refine steady_go (a' := ?_) (by kernel_rfl) ?_ (fun w' hw' K Q hK => ?_) ?_
      rotate_left 2
      · go_wp2_with fail; exact hK _ (Mod.refl _ _)
      rotate_left
      · rfl
      refine steady_go (a' := ?_) (by kernel_rfl) ?_ (fun w' hw' K Q hK => ?_) ?_
      rotate_left 2
      · go_wp2_with fail; exact hK _ (Mod.refl _ _)
      rotate_left
      · rfl
      refine steady_go (a' := ?_) (by kernel_rfl) ?_ (fun w' hw' K Q hK => ?_) ?_
      rotate_left 2
      · go_wp2_with fail; exact hK _ (Mod.refl _ _)
      rotate_left
      · rfl
      refine steady_go (a' := ?_) (by kernel_rfl) ?_ (fun w' hw' K Q hK => ?_) ?_
      rotate_left 2
      · go_wp2_with fail; exact hK _ (Mod.refl _ _)
      rotate_left
      · rfl
      refine steady_go (a' := ?_) (by kernel_rfl) ?_ (fun w' hw' K Q hK => ?_) ?_
      rotate_left 2
      · go_wp2_with fail
        refine ((calls_mod HAl.out) _ hw').mono ?_
        rintro e w'' ⟨rfl, m''⟩
        go_wp2_with fail
        exact hK _ m''
      rotate_left
      · rfl
      refine steady_done ?_
      refine lates_one rfl rfl (late_slice ?_) (fun sv w' hw' hF => ?_)
      · intro w'
        go_simp
      obtain ⟨-, b8, rfl, hb8, B8⟩ := hF
      simp only [List.drop_succ_cons, List.drop_zero]
      have T3 := Lib.hid (TT.out.call hw')
      have HR3 := Lib.hid (owns_mod HR.out hw')
      clear A0 A1 Y0 Y1 Y2 Y3 HAl TT HR hw'
      go_wp2_with (at_builtin; refine wpList_append_own _ rfl _ _ 33 rfl (w.heap.size + 3) 51 i0 (.agg #[.int .i64 0, .int .i64 0]) 2 16 Try.underlying33 hti hz0 hz1 hz2 rfl (by decide) _ _ _ rfl HR3.out ⟨b8, 0, none⟩ 1 1 [.int .i64 ra, .int .i64 rb] rfl rfl ?_ ?_ ?_ ?_ ?_ ?_)
      · exact cells_two_at B8
      · simp [Value.oneCell']
      · have := HL.out; unfold maxLen; omega
      · have := HL.out; omega
      · have := (T3.out.at 2 rfl).lt; simp at this ⊢; omega
      intro v' w1 hown' hgrow _
      obtain ⟨va', vc', rfl⟩ := own_form hown'
      have T4 := Lib.hid (Own.grown T3.out hgrow (fun k hk => (HR3.out.lt k hk).1) (by omega) (by simp))
      have HR4 := Lib.hid hown'
      clear hown' hgrow T3 HR3
      have p0 := (T4.out.at 1 rfl).cell 0
      have p1 := (T4.out.at 1 rfl).frozen 0
      have e1 : IntKind.i64.wrap ((i : Int) + 1) = (i : Int) + 1 := IntWalk.i64_in _ (by have := HL.out; omega)
      have T5 := Lib.hid (T4.out.set 1 rfl 0 (.slice va' (i + 1) vc'))
      have HR5 := Lib.hid (owns_set HR4.out (p := ⟨w.heap.size + 1, 0, none⟩) (by simp) (.slice va' (i + 1) vc'))
      go_wp2_with fail
      go_roundg (gk - 1)
      case measure => have := hi.out; omega
      case rel =>
        refine ⟨i + 1, by rw [Int.natCast_add]; rfl, ?_, _, T5.out, ?_⟩
        · have := hi.out; show i + 1 + (gk - 1) = xs.length; omega
        · rw [List.take_add_one, HPi.out]
          simp only [Option.toList_some]
          rw [flatP_snoc]
          exact HR5.out
end Go.Proofs.Ytngeijdfpgmcfaa

namespace Go.Proofs.Ytngeijdfpgmcfaa
open Go.RowKit
set_option linter.unusedVariables false
namespace Dm
section
variable {P : Program} {ops : Array Oper} {md : Region.Mode} {W : World} {D : List PanicEntry → World → Prop}

/-- The operation gives up, in whatever world. -/
def Doom (P : Program) (o : Oper) (a : Act) (W : World) (D : List PanicEntry → World → Prop) : Prop :=
  ∀ w, Mod [] W w → o.wp P a w (fun _ _ => False) (fun e _ w' => ∃ c, e = .panic c ∧ Mod [] W w' ∧ D c w')

theorem doom_put {o : Oper} (hs : ∀ cs b, o.op ≠ .select cs b) {a : Act} {d : Option Tmp} {v : Value} (h1 : ∀ t, d = some t → t ∉ o.looksAt ops)
    (h : Doom P o (a.put d v) W D) : Doom P o a W D := by
  intro w hw
  have h3 := h w hw
  unfold Oper.wp at *
  rw [execOp_put o hs a d v h1] at h3
  generalize (execOp a.eval o).run P w = r at *
  cases r with
  | ok n w' =>
    cases n <;> simp only [Oper.upon] at h3 ⊢
    case enter f args =>
      refine Calls.mono h3 fun e w'' he => ?_
      cases e with
      | returned u => exact he.elim
      | panicked c => exact he
      | outgrown => obtain ⟨_, _, c, e, _⟩ := he; cases e
    case row row args => exact Rows.mono h3 fun u w'' he => he.elim
  | halt x w' => cases x <;> simp only [Oper.upon] at h3 ⊢ <;> exact h3
theorem wp_of_doom {o : Oper} {a : Act} {K : Act → World → Prop} {Q : Exit → Act → World → Prop} {w : World} (hw : Mod [] W w) (h : Doom P o a W D)
    (hQ : ∀ c w', Mod [] W w' → D c w' → Q (.panic c) a w') : o.wp P a w K Q := by
  have h3 := h w hw
  unfold Oper.wp at *
  generalize (execOp a.eval o).run P w = r at *
  cases r with
  | ok n w' =>
    cases n <;> simp only [Oper.upon] at h3 ⊢
    case enter f args =>
      refine Calls.mono h3 fun e w'' he => ?_
      cases e with
      | returned u => exact he.elim
      | panicked c => obtain ⟨c', e, m, d⟩ := he; cases e; exact hQ _ _ m d
      | outgrown => obtain ⟨_, _, c, e, _⟩ := he; cases e
    case row row args => exact Rows.mono h3 fun u w'' he => he.elim
  | halt x w' => cases x <;> simp only [Oper.upon] at h3 ⊢ <;> (obtain ⟨c', e, m, d⟩ := h3; cases e; exact hQ _ _ m d)

def dOp (P : Program) (ops : Array Oper) (W : World) (D : List PanicEntry → World → Prop) (k i : Nat) (K : Act → Prop) (a : Act) : Prop :=
  match ops[i]? with
  | some o => if i = k then o.guard = none ∧ Doom P o a W D else if Region.wanted o (yielded ops a.tmps) then ∃ v, Steady P o a W v ∧ K (a.put o.dst v) else K (a.put o.dst undef)
  | none => False
def wpAnyD (P : Program) (md : Region.Mode) (ops : Array Oper) (W : World) (D : List PanicEntry → World → Prop) (k : Nat) : Nat → Array Bool → Act → Prop
  | 0, _, _ => False
  | f + 1, listed, a => Region.ready md ops listed ≠ [] ∧ ∀ i ∈ Region.ready md ops listed, dOp P ops W D k i (wpAnyD P md ops W D k f (listed.setIfInBounds i true)) a

theorem dOp_put {k j : Nat} {oi oj : Oper} {v : Value} (hj : ops[j]? = some oj) (hap : oi.apart ops oj = true)
    (hsi : ∀ cs b, oi.op ≠ .select cs b) (hsj : ∀ cs b, oj.op ≠ .select cs b) {K : Act → Prop} {a : Act}
    (hy : YieldsS P ops W oi v a) (h : dOp P ops W D k j K (a.put oi.dst v)) :
    dOp P ops W D k j (fun a' => YieldsS P ops W oi v a' ∧ K (a'.put oi.dst v)) a := by
  by_cases hjk : j = k
  · subst hjk
    unfold dOp at *
    simp only [hj, if_true] at h ⊢
    obtain ⟨h1, h2, h3⟩ := Oper.apart_spec hap
    exact ⟨h.1, doom_put hsj h1 h.2⟩
  · have h' : mOp P ops W (fun _ => none) j (fun a _ => K a) (a.put oi.dst v) (fun _ => True) := by
      unfold dOp at h
      unfold mOp
      simp only [hj, if_neg hjk] at h ⊢
      exact h
    have h2 := mOp_put (L := fun _ => none) hj hap hsi hsj hy h'
    unfold mOp at h2
    unfold dOp
    simp only [hj, if_neg hjk] at h2 ⊢
    exact h2

theorem dOp_same {k j : Nat} {a : Act} {K K' : Act → Prop} (h : ∀ a, K a → K' a) (hh : dOp P ops W D k j K a) : dOp P ops W D k j K' a := by
  unfold dOp at *
  split
  · rename_i o ho
    simp only [ho] at hh
    split
    · rename_i hjk; rw [if_pos hjk] at hh; exact hh
    · rename_i hjk
      rw [if_neg hjk] at hh
      split
      · rename_i hw; rw [if_pos hw] at hh; obtain ⟨v, h1, h2⟩ := hh; exact ⟨v, h1, h _ h2⟩
      · rename_i hw; rw [if_neg hw] at hh; exact h _ hh
  · rename_i ho
    simp only [ho] at hh

theorem wpAnyD_first {k i : Nat} {oi : Oper} {v : Value} (hi : ops[i]? = some oi) (hik : i ≠ k) (hsel : ∀ (j : Nat) (o : Oper) cs b, ops[j]? = some o → o.op ≠ .select cs b) :
    ∀ (f : Nat) (listed : Array Bool) (a : Act),
      (∀ j oj, ops[j]? = some oj → j ≠ i → listed.getD j true = false → (∀ e ∈ oj.after, Region.binds md e = true → e.on ≠ i) → oi.apart ops oj = true) →
      i ∈ Region.ready md ops listed → YieldsS P ops W oi v a →
      wpAnyD P md ops W D k f (listed.setIfInBounds i true) (a.put oi.dst v) → wpAnyD P md ops W D k (f + 1) listed a := by
  intro f
  induction f with
  | zero => intro _ _ _ _ _ H; exact H.elim
  | succ f ih =>
    intro listed a hfree hr hy H
    have hun := (mem_ready.1 hr).1
    refine ⟨fun h => (by rw [h] at hr; cases hr), fun j hj => ?_⟩
    by_cases hji : j = i
    · subst hji
      unfold dOp
      simp only [hi, if_neg hik]
      rcases hy with ⟨hw, hv⟩ | ⟨hw, rfl⟩
      · rw [if_pos hw]; exact ⟨v, hv, H⟩
      · rw [if_neg (by rw [hw]; exact Bool.false_ne_true)]; exact H
    · have h1 := H.2 j (ready_mono hj hji)
      obtain ⟨hjun, oj, hoj, hall⟩ := mem_ready.1 hj
      have hnot : ∀ e ∈ oj.after, Region.binds md e = true → e.on ≠ i := fun e he hb heq => by
        have h1 := hall e he hb
        rw [heq, getD_both hun] at h1
        cases h1
      have h2 := dOp_put hoj (hfree j oj hoj hji hjun hnot) (fun cs b => hsel i oi cs b hi) (fun cs b => hsel j oj cs b hoj) hy h1
      have hfree' : ∀ k ok, ops[k]? = some ok → k ≠ i → (listed.setIfInBounds j true).getD k true = false →
          (∀ e ∈ ok.after, Region.binds md e = true → e.on ≠ i) → oi.apart ops ok = true := fun k ok hk hki hun hno => by
        refine hfree k ok hk hki ?_ hno
        by_cases hjk : j = k
        · subst hjk; exact hjun
        · rw [getD_set_ne true hjk] at hun; exact hun
      refine dOp_same (fun a' h3 => ih (listed.setIfInBounds j true) a' hfree' (ready_mono hr (Ne.symm hji)) h3.1 ?_) h2
      rw [Array.setIfInBounds_comm _ _ hji]
      exact h3.2

/-- The order that is handed in serves, and leads to the one that gives up. -/
def ordD (md : Region.Mode) (ops : Array Oper) (k : Nat) : List Nat → Array Bool → Bool
  | [], listed => Region.ready md ops listed == [k]
  | i :: l, listed => decide (i ≠ k) && (Region.ready md ops listed).contains i && Region.free md ops listed i && ordD md ops k l (listed.setIfInBounds i true)

theorem wpAnyD_ord {k : Nat} {ok : Oper} (hk : ops[k]? = some ok) (hg : ok.guard = none) (hsel : Region.noSelect ops = true) :
    ∀ (l : List Nat) (listed : Array Bool) (a : Act), ordD md ops k l listed = true → wpSteady P ops W (fun a => Doom P ok a W D) l a → wpAnyD P md ops W D k (l.length + 1) listed a
  | [], listed, a, hB, h => by
    have hr : Region.ready md ops listed = [k] := by simpa [ordD] using hB
    refine ⟨by rw [hr]; simp, fun i hi => ?_⟩
    rw [hr] at hi
    obtain rfl := List.mem_singleton.1 hi
    unfold dOp
    simp only [hk, if_true]
    exact ⟨hg, h⟩
  | i :: l, listed, a, hB, h => by
    simp only [ordD, Bool.and_eq_true, decide_eq_true_eq] at hB
    obtain ⟨⟨⟨hik, hr⟩, hf⟩, hB'⟩ := hB
    have hr' : i ∈ Region.ready md ops listed := by simpa using hr
    unfold wpSteady at h
    cases ho : ops[i]? with
    | none => simp only [ho] at h
    | some o =>
      simp only [ho] at h
      obtain ⟨v, hy, hk'⟩ : ∃ v, YieldsS P ops W o v a ∧ wpSteady P ops W (fun a => Doom P ok a W D) l (a.put o.dst v) := by
        by_cases hw : Region.wanted o (yielded ops a.tmps) = true
        · simp only [hw, if_true] at h
          obtain ⟨v, h1, h2⟩ := h
          exact ⟨v, .inl ⟨hw, h1⟩, h2⟩
        · simp only [hw] at h
          exact ⟨undef, .inr ⟨by simpa using hw, rfl⟩, h⟩
      rw [List.length_cons]
      exact wpAnyD_first ho hik (Region.noSelect_spec hsel) (l.length + 1) listed a (Region.free_spec ho hf) hr' hy (wpAnyD_ord hk hg hsel l _ _ hB' hk')

/-- The frame is the region's first one, but for the slots that the region writes. -/
structure Good (ops : Array Oper) (a0 a : Act) : Prop where
  defers : a.defers = a0.defers
  tmps : ∀ t : Tmp, (∀ (i : Nat) (o : Oper), ops[i]? = some o → o.dst ≠ some t) → a.tmps[t]? = a0.tmps[t]?
theorem Good.put {a0 a : Act} (h : Good ops a0 a) {i : Nat} {o : Oper} (ho : ops[i]? = some o) (v : Value) : Good ops a0 (a.put o.dst v) := by
  refine ⟨?_, fun t ht => ?_⟩
  · rw [← h.defers]; cases o.dst <;> rfl
  · rw [← h.tmps t ht]
    have := ht i o ho
    cases hd : o.dst with
    | none => rfl
    | some s =>
      rw [hd] at this
      simp only [Act.put]
      exact Array.getElem?_setIfInBounds_ne (fun e => this (by rw [e]))

theorem Good.slot {a0 a : Act} (h : Good ops a0 a) (t : Tmp) (ht : (ops.all fun o => o.dst != some t) = true) : a.tmps[t]? = a0.tmps[t]? := by
  refine h.tmps t fun i o ho => ?_
  have := Array.all_eq_true_iff_forall_mem.1 ht o (Array.mem_of_getElem? ho)
  simpa using this

theorem wpAny_of_D {k : Nat} {Q : Exit → Act → World → Prop} {a0 : Act} {g : Nat} (hQ : ∀ c a w', Good ops a0 a → Mod [] W w' → D c w' → Q (.panic c) a w') :
    ∀ (f : Nat) (listed : Array Bool) (a : Act) (w : World), Mod [] W w → Good ops a0 a → wpAnyD P md ops W D k f listed a → wpAny P md ops Q (f + g) listed a w
  | 0, _, _, _, _, _, h => h.elim
  | f + 1, listed, a, w, hw, hG, h => by
    rw [show f + 1 + g = (f + g) + 1 by omega]
    refine ⟨fun h0 => absurd h0 h.1, fun i hi => ?_⟩
    have hh := h.2 i hi
    unfold dOp at hh
    unfold wpOp
    split at hh
    · rename_i o ho
      simp only [ho]
      split at hh
      · rename_i hik
        obtain ⟨hg, hd⟩ := hh
        simp only [Region.wanted, hg, if_true]
        exact .inl (wp_of_doom hw hd fun c w' m d => hQ c a w' hG m d)
      · split at hh
        · rename_i hwn
          rw [if_pos hwn]
          obtain ⟨v, h1, h2⟩ := hh
          exact .inl (wp_of_steady hw h1 fun w' m => wpAny_of_D hQ f _ _ _ (hw.then m) (hG.put ho v) h2)
        · rename_i hwn
          rw [if_neg hwn]
          exact wpAny_of_D hQ f _ _ _ hw (hG.put ho undef) hh
    · exact hh.elim

theorem wp_region_doom {id : Nat} {Q : Exit → Act → World → Prop} {a : Act} {w : World} {l : List Oper} (mask : List Bool) (k : Nat) (D : List PanicEntry → World → Prop)
    (hm : P.follows .mixedOrders = true) {ok : Oper} (hk : l.toArray[k]? = some ok) (hg : ok.guard = none)
    (hB : (Region.noSelect l.toArray && ordD .any l.toArray k (idxM 0 mask) (Array.replicate l.toArray.size false) && decide ((idxM 0 mask).length + 1 ≤ l.length) && decide (mask.length ≤ l.length)) = true)
    (hQ : ∀ c a' w', Good l.toArray a a' → Mod [] w w' → D c w' → Q (.panic c) a' w')
    (h : WSteady P l.toArray w (fun a' => Doom P ok a' w D) (pickM l mask) a) :
    (Code.region id l.toArray true).wp P Q a w := by
  simp only [Bool.and_eq_true, decide_eq_true_eq] at hB
  obtain ⟨⟨⟨hsel, hord⟩, hlen⟩, hml⟩ := hB
  have H := wpAnyD_ord (P := P) (W := w) (D := D) hk hg hsel (idxM 0 mask) _ a hord (steady_of_list mask 0 l a (by simp) hml h.out)
  refine wp_region_any hm ?_
  have := wpAny_of_D (Q := Q) (a0 := a) (g := l.length - ((idxM 0 mask).length + 1)) hQ _ _ _ { w with drawn := w.drawn + 1 } ((Mod.refl [] w).drew) ⟨rfl, fun _ _ => rfl⟩ H
  rw [show (idxM 0 mask).length + 1 + (l.length - ((idxM 0 mask).length + 1)) = l.toArray.size by simp; omega] at this
  exact this
end
end Dm
end Go.Proofs.Ytngeijdfpgmcfaa

namespace Go.Proofs.Ytngeijdfpgmcfaa
open Go.RowKit
set_option linter.unusedVariables false

set_option maxRecDepth 100000 in
set_option maxHeartbeats 4000000 in
theorem normal_no (u : Int) (g c l fe ax rg fu cv : Hd) (pa : Option Addr) (pc : Nat) (xs : List Int) (ys : List Ax) (w : World) (hx : xs.length = ax.n) (ha : ys.length = ax.n) (h6 : ax.n ≤ 6)
    (hX : PlaceAt w pa xs) (hA : AxesAt w ax.a ys) (hOn : ¬ Vr.allOn xs ys) :
    Calls Try.prog 5 #[.agg (fontCells u g c l fe ax rg fu cv), .slice pa xs.length pc] w fun e w' => e = .returned (.tuple #[.slice none 0 0, .int .i64 60]) ∧ Mod [] w w' := by
  have hmf : ∀ (fn : Fn) (first cap : Array Value) (w : World), (Instr.makeFunc fn first cap).run Try.prog w = .ok (.func fn first cap) w := fun _ _ _ _ => rfl
  obtain ⟨axa, axn, axc⟩ := ax
  simp only at hx ha h6 hA
  obtain ⟨i0, hti, hz0, hz1, hz2⟩ := info_parts Try.info_Ratio
  unfold fontCells
  have T := Lib.hid (own3 w (fontCells u g c l fe ⟨axa, axn, axc⟩ rg fu cv) 31 #[.slice none 0 0] 33 #[.int .i64 0] 34)
  have k1 : (((xs.length : Nat) : Int) != (axn : Int)) = false := by simp; omega
  have k1' : (((xs.length : Nat) : Int) == (axn : Int)) = true := by simp; omega
  have HA := Lib.hid hA
  have HX := Lib.hid hX
  have HO := Lib.hid hOn
  have HL := Lib.hid (And.intro hx (And.intro ha h6))
  clear hA hX hOn hx ha h6
  go_enter_defers Try.func5, Try.ntmps5
  go_upto_region 4 with fail
  unfold fontCells at T
  generalize ((w.alloc (.cells #[.int .i64 u, .slice g.a g.n g.c, .slice c.a c.n c.c, .slice l.a l.n l.c, .slice fe.a fe.n fe.c, .slice axa axn axc, .slice rg.a rg.n rg.c, .slice fu.a fu.n fu.c, .slice cv.a cv.n cv.c] 31)).alloc (.cells #[.slice none 0 0] 33)).alloc (.cells #[.int .i64 0] 34) = W0 at *
  go_wp2_with fail
  go_loopg [18] xs.length (fun gk i18 wr => ∃ i : Nat, i18 = .int .i64 (i : Int) ∧ Hid (i + gk = xs.length) ∧ Hid (∃ v, Own w wr [(w.heap.size, #[.int .i64 u, .slice g.a g.n g.c, .slice c.a c.n c.c, .slice l.a l.n l.c, .slice fe.a fe.n fe.c, .slice axa axn axc, .slice rg.a rg.n rg.c, .slice fu.a fu.n fu.c, .slice cv.a cv.n cv.c], 31), (w.heap.size + 1, #[v], 33), (w.heap.size + 1 + 1, #[.int .i64 0], 34)] ∧ wr.ownsRow (w.heap.size + 3) 51 2 v i (flatP ((Vr.places xs ys).take i)) ∧ ¬ Vr.allOn (xs.drop i) (ys.drop i)))
  case atStart => exact ⟨0, rfl, by show 0 + xs.length = xs.length; omega, .slice none 0 0, T.out, World.ownsRow_nil _ _ _ _, HO.out⟩
  case round =>
    obtain ⟨i, rfl, hi, HV⟩ := hrel
    obtain ⟨v, TT, hR, hO⟩ := HV.out
    obtain ⟨va, vc, rfl⟩ := own_form hR
    have TT := Lib.hid TT
    have HR := Lib.hid hR
    have HO := Lib.hid hO
    clear HV hR T hO
    by_cases hn : i = xs.length
    · exact absurd (show Vr.allOn (xs.drop i) (ys.drop i) by rw [hn, List.drop_length]; exact trivial) HO.out
    · have hlt : i < xs.length := by have := hi.out; omega
      have hlt2 : (i : Int) < (xs.length : Int) := by omega
      have h0 : (0 : Int) ≤ (i : Int) := by omega
      have hiy : i < ys.length := by have := HL.out; omega
      obtain ⟨a, rfl, x0⟩ := HX.out.mod TT.out.mod i hlt
      obtain ⟨b, rfl, a0, a1, a2, a3⟩ := HA.out.mod TT.out.mod i hiy
      have p0 : wr.cell? ⟨w.heap.size + 1, 0, none⟩ = some (.slice va i vc) := by rw [(TT.out.at 1 rfl).cell]; rfl
      by_cases hon : Vr.onAxis xs[i] ys[i].l ys[i].d ys[i].m
      case neg =>
        have HAl := Lib.hid (fun W => along_no ys[i].s xs[i] ys[i].l ys[i].d ys[i].m W hon)
        clear hon HO
        generalize xs[i] = x at *
        generalize ys[i].s = sx at *
        generalize ys[i].l = lx at *
        generalize ys[i].d = dx at *
        generalize ys[i].m = mx at *
        simp only [show ∀ q : Addr, q.add 0 = q from fun q => by simp [Addr.add], show ∀ q : Addr, q.add 1 = ⟨q.block, q.off + 1, none⟩ from fun q => by simp [Addr.add], show ∀ q : Addr, q.add 2 = ⟨q.block, q.off + 2, none⟩ from fun q => by simp [Addr.add], show ∀ q : Addr, q.add 3 = ⟨q.block, q.off + 3, none⟩ from fun q => by simp [Addr.add]] at a0 a1 a2 a3
        have p5 : wr.cell? ⟨w.heap.size, 5, none⟩ = some (.slice (some b) axn axc) := by rw [(TT.out.at 0 rfl).cell]; rfl
        have hb2 : (i : Int) < (axn : Int) := by have := HL.out; omega
        go_upto_region 7 with fail
        clear x0
        have A0 := (TT.out.at 0 rfl).every
        have A1 := (TT.out.at 1 rfl).every
        have Y0 : ∀ W, Mod [] wr W → W.cell? (b.add (i * 4)) = some (.string sx) := fun W m => cell_kept m a0
        have Y1 : ∀ W, Mod [] wr W → W.cell? ⟨(b.add (i * 4)).block, (b.add (i * 4)).off + 1, none⟩ = some (.int .i64 lx) := fun W m => cell_kept m a1
        have Y2 : ∀ W, Mod [] wr W → W.cell? ⟨(b.add (i * 4)).block, (b.add (i * 4)).off + 2, none⟩ = some (.int .i64 dx) := fun W m => cell_kept m a2
        have Y3 : ∀ W, Mod [] wr W → W.cell? ⟨(b.add (i * 4)).block, (b.add (i * 4)).off + 3, none⟩ = some (.int .i64 mx) := fun W m => cell_kept m a3
        clear a0 a1 a2 a3 p0 p5
        refine Dm.wp_region_doom [true, true, true, true, true, true, true, false, false, false, false] 7 (fun c _ => c = [{ v := .iface 34 (.int .i64 60), recovered := false }]) (by kernel_rfl) rfl rfl (by kernel_rfl) ?hQ ?main
        case main =>
          simp only [pickM]
          refine steady_go (a' := ?_) (by kernel_rfl) ?_ (fun w' hw' K Q hK => ?_) ?_
          rotate_left 2
          · go_wp2_with fail; exact hK _ (Mod.refl _ _)
          rotate_left
          · rfl
          refine steady_go (a' := ?_) (by kernel_rfl) ?_ (fun w' hw' K Q hK => ?_) ?_
          rotate_left 2
          · go_wp2_with fail; exact hK _ (Mod.refl _ _)
          rotate_left
          · rfl
          refine steady_go (a' := ?_) (by kernel_rfl) ?_ (fun w' hw' K Q hK => ?_) ?_
          rotate_left 2
          · go_wp2_with fail; exact hK _ (Mod.refl _ _)
          rotate_left
          · rfl
          refine steady_go (a' := ?_) (by kernel_rfl) ?_ (fun w' hw' K Q hK => ?_) ?_
          rotate_left 2
          · go_wp2_with fail; exact hK _ (Mod.refl _ _)
          rotate_left
          · rfl
          refine steady_go (a' := ?_) (by kernel_rfl) ?_ (fun w' hw' K Q hK => ?_) ?_
          rotate_left 2
          · go_wp2_with fail; exact hK _ (Mod.refl _ _)
          rotate_left
          · rfl
          refine steady_go (a' := ?_) (by kernel_rfl) ?_ (fun w' hw' K Q hK => ?_) ?_
          rotate_left 2
          · go_wp2_with fail; exact hK _ (Mod.refl _ _)
          rotate_left
          · rfl
          refine steady_go (a' := ?_) (by kernel_rfl) ?_ (fun w' hw' K Q hK => ?_) ?_
          rotate_left 2
          · go_wp2_with fail; exact hK _ (Mod.refl _ _)
          rotate_left
          · rfl
          refine steady_done ?_
          intro w' hw'
          go_wp2_with fail
          refine (HAl.out _).mono ?_
          rintro e w4 ⟨rfl, m4⟩
          go_wp2_with fail
          exact hw'.then m4
        case hQ =>
          intro c a' w' hG hm hc
          subst hc
          have s4 := hG.slot 4 (by kernel_rfl)
          have s5 := hG.slot 5 (by kernel_rfl)
          have hd := hG.defers
          simp only [List.getElem?_toArray, List.getElem?_cons_succ, List.getElem?_cons_zero] at s4 s5
          have T2 := Lib.hid (((TT.out.call hm).set 1 rfl 0 (.slice none 0 0)).set 2 rfl 0 (.int .i64 60))
          have B1 := (TT.out.call hm).at 1 rfl
          have B2 := (TT.out.call hm).at 2 rfl
          simp only [Exit.inBlock, Exit.then]
          change bodyPostD _ _ _ _ _ _
          unfold bodyPostD
          simp only
          rw [hd]
          simp only
          refine leaves_cons (f := 9) (args := #[.pointer (some ⟨w.heap.size + 1, 0, none⟩), .pointer (some ⟨w.heap.size + 1 + 1, 0, none⟩)]) (by simp) (by simp [go_sem]) ?_
          refine (nor1_panic (w.heap.size + 1) (w.heap.size + 1 + 1) _ _ 60 [] _ (by omega) B1 B2).mono ?_
          rintro e u' w'' ⟨rfl, rfl, rfl⟩
          have r0 := (T2.out.at 1 rfl).cell 0
          have r1 := (T2.out.at 2 rfl).cell 0
          have HM := Lib.hid T2.out.mod
          simp at r0 r1
          clear T2 B1 B2
          generalize (w'.setCell ⟨w.heap.size + 1, 0, none⟩ (.slice none 0 0)).setCell ⟨w.heap.size + 1 + 1, 0, none⟩ (.int .i64 60) = W2 at *
          simp [Leaves, settle, results, Try.results5, go_sem, r0, r1, s4, s5]
          exact HM.out
      have HOi := Lib.hid hon
      have HON := Lib.hid (show ¬ Vr.allOn (xs.drop (i + 1)) (ys.drop (i + 1)) from fun h => HO.out (by rw [List.drop_eq_getElem_cons hlt, List.drop_eq_getElem_cons hiy]; exact ⟨hon, h⟩))
      clear hon
      have HPi := Lib.hid (places_at xs ys i hlt hiy)
      have HAl := Lib.hid (fun W => along_yes ys[i].s xs[i] ys[i].l ys[i].d ys[i].m W HOi.out)
      generalize Vr.alongR xs[i] ys[i].l ys[i].d ys[i].m = rr at *
      obtain ⟨ra, rb⟩ := rr
      clear HOi
      generalize xs[i] = x at *
      generalize ys[i].s = sx at *
      generalize ys[i].l = lx at *
      generalize ys[i].d = dx at *
      generalize ys[i].m = mx at *
      simp only [show ∀ q : Addr, q.add 0 = q from fun q => by simp [Addr.add], show ∀ q : Addr, q.add 1 = ⟨q.block, q.off + 1, none⟩ from fun q => by simp [Addr.add], show ∀ q : Addr, q.add 2 = ⟨q.block, q.off + 2, none⟩ from fun q => by simp [Addr.add], show ∀ q : Addr, q.add 3 = ⟨q.block, q.off + 3, none⟩ from fun q => by simp [Addr.add]] at a0 a1 a2 a3
      simp only at HAl
      have A0 := (TT.out.at 0 rfl).every
      have A1 := (TT.out.at 1 rfl).every
      have Y0 : ∀ W, Mod [] wr W → W.cell? (b.add (i * 4)) = some (.string sx) := fun W m => cell_kept m a0
      have Y1 : ∀ W, Mod [] wr W → W.cell? ⟨(b.add (i * 4)).block, (b.add (i * 4)).off + 1, none⟩ = some (.int .i64 lx) := fun W m => cell_kept m a1
      have Y2 : ∀ W, Mod [] wr W → W.cell? ⟨(b.add (i * 4)).block, (b.add (i * 4)).off + 2, none⟩ = some (.int .i64 dx) := fun W m => cell_kept m a2
      have Y3 : ∀ W, Mod [] wr W → W.cell? ⟨(b.add (i * 4)).block, (b.add (i * 4)).off + 3, none⟩ = some (.int .i64 mx) := fun W m => cell_kept m a3
      have hb2 : (i : Int) < (axn : Int) := by have := HL.out; omega
      go_upto_region 7 with fail
      clear a0 a1 a2 a3 x0 p0
      refine wp_region_mask 9 [true, true, true, true, true, true, true, true, false] [(8, NewSl wr.heap.size #[.int .i64 ra, .int .i64 rb] 51 1)] (by kernel_rfl) (by kernel_rfl) (by simp [NewSl.stays]) ?_
      simp only [pickM]
      refine steady_go (a' := ?_) (by kernel_rfl) ?_ (fun w' hw' K Q hK => ?_) ?_
      rotate_left 2
      · go_wp2_with fail; exact hK _ (Mod.refl _ _)
      rotate_left
      · rfl
      refine steady_go (a' := ?_) (by kernel_rfl) ?_ (fun w' hw' K Q hK => ?_) ?_
      rotate_left 2
      · go_wp2_with fail; exact hK _ (Mod.refl _ _)
      rotate_left
      · rfl
      refine steady_go (a' := ?_) (by kernel_rfl) ?_ (fun w' hw' K Q hK => ?_) ?_
      rotate_left 2
      · go_wp2_with fail; exact hK _ (Mod.refl _ _)
      rotate_left
      · rfl
      refine steady_go (a' := ?_) (by kernel_rfl) ?_ (fun w' hw' K Q hK => ?_) ?_
      rotate_left 2
      · go_wp2_with fail; exact hK _ (Mod.refl _ _)
      rotate_left
      · rfl
      refine steady_go (a' := ?_) (by kernel_rfl) ?_ (fun w' hw' K Q hK => ?_) ?_
      rotate_left 2
      · go_wp2_with fail; exact hK _ (Mod.refl _ _)
      rotate_left
      · rfl
      refine steady_go (a' := ?_) (by kernel_rfl) ?_ (fun w' hw' K Q hK => ?_) ?_
      rotate_left 2
      · go_wp2_with fail; exact hK _ (Mod.refl _ _)
      rotate_left
      · rfl
      refine steady_go (a' := ?_) (by kernel_rfl) ?_ (fun w' hw' K Q hK => ?_) ?_
      rotate_left 2
      · go_wp2_with fail; exact hK _ (Mod.refl _ _)
      rotate_left
      · rfl
      refine steady_go (a' := ?_) (by kernel_rfl) ?_ (fun w' hw' K Q hK => ?_) ?_
      rotate_left 2
      · go_wp2_with fail
        refine ((calls_mod HAl.out) _ hw').mono ?_
        rintro e w'' ⟨rfl, m''⟩
        go_wp2_with fail
        exact hK _ m''
      rotate_left
      · rfl
      refine steady_done ?_
      refine lates_one rfl rfl (late_slice ?_) (fun sv w' hw' hF => ?_)
      · intro w'
        go_simp
      obtain ⟨-, b8, rfl, hb8, B8⟩ := hF
      simp only [List.drop_succ_cons, List.drop_zero]
      have T3 := Lib.hid (TT.out.call hw')
      have HR3 := Lib.hid (owns_mod HR.out hw')
      clear A0 A1 Y0 Y1 Y2 Y3 HAl TT HR hw'
      go_wp2_with (at_builtin; refine wpList_append_own _ rfl _ _ 33 rfl (w.heap.size + 3) 51 i0 (.agg #[.int .i64 0, .int .i64 0]) 2 16 Try.underlying33 hti hz0 hz1 hz2 rfl (by decide) _ _ _ rfl HR3.out ⟨b8, 0, none⟩ 1 1 [.int .i64 ra, .int .i64 rb] rfl rfl ?_ ?_ ?_ ?_ ?_ ?_)
      · exact cells_two_at B8
      · simp [Value.oneCell']
      · have := HL.out; unfold maxLen; omega
      · have := HL.out; omega
      · have := (T3.out.at 2 rfl).lt; simp at this ⊢; omega
      intro v' w1 hown' hgrow _
      obtain ⟨va', vc', rfl⟩ := own_form hown'
      have T4 := Lib.hid (Own.grown T3.out hgrow (fun k hk => (HR3.out.lt k hk).1) (by omega) (by simp))
      have HR4 := Lib.hid hown'
      clear hown' hgrow T3 HR3
      have p0 := (T4.out.at 1 rfl).cell 0
      have p1 := (T4.out.at 1 rfl).frozen 0
      have e1 : IntKind.i64.wrap ((i : Int) + 1) = (i : Int) + 1 := IntWalk.i64_in _ (by have := HL.out; omega)
      have T5 := Lib.hid (T4.out.set 1 rfl 0 (.slice va' (i + 1) vc'))
      have HR5 := Lib.hid (owns_set HR4.out (p := ⟨w.heap.size + 1, 0, none⟩) (by simp) (.slice va' (i + 1) vc'))
      go_wp2_with fail
      go_roundg (gk - 1)
      case measure => have := hi.out; omega
      case rel =>
        refine ⟨i + 1, by rw [Int.natCast_add]; rfl, ?_, _, T5.out, ?_, HON.out⟩
        · have := hi.out; show i + 1 + (gk - 1) = xs.length; omega
        · rw [List.take_add_one, HPi.out]
          simp only [Option.toList_some]
          rw [flatP_snoc]
          exact HR5.out
end Go.Proofs.Ytngeijdfpgmcfaa

namespace Go.Proofs.Ytngeijdfpgmcfaa
open Go.RowKit
set_option linter.unusedVariables false
set_option maxRecDepth 100000

set_option maxHeartbeats 2000000 in
theorem madeV_any (n d : Int) (w : World) (hn : -9223372036854775808 ≤ n ∧ n ≤ 9223372036854775807) (hd : -9223372036854775808 ≤ d ∧ d ≤ 9223372036854775807) :
    Calls Try.prog 12 #[.int .i64 n, .int .i64 d] w fun e w' => e = .returned (.agg #[.int .i64 (Rat.told n d).1, .int .i64 (Rat.told n d).2.1]) ∧ Mod [] w w' := by
  have T := Lib.hid (own1 w #[.int .i64 0, .int .i64 0] 51)
  have H1 := Lib.hid (fun W => makeRef_any n d W hn hd)
  generalize Rat.told n d = r at *
  obtain ⟨ra, rb, rc⟩ := r
  clear hn hd
  unfold toldV at H1
  simp only at H1 ⊢
  go_enter Try.func12, Try.ntmps12
  go_wp2_with fail
  refine (H1.out _).mono ?_
  rintro e w1 ⟨rfl, m1⟩
  have T1 := Lib.hid ((T.out.call m1).alloc #[.int .i64 ra, .int .i64 rb] 51)
  clear m1 T H1
  go_upto_region 2 with fail
  generalize w1.alloc (.cells #[.int .i64 ra, .int .i64 rb] 51) = W1 at *
  generalize w1.heap.size = b1 at *
  obtain ⟨p0, p1, -, -⟩ := (T1.out.at 1 rfl).two
  obtain ⟨q0, q1, z0, z1⟩ := (T1.out.at 0 rfl).two
  go_wp2_with fail
  obtain ⟨r0, r1, M⟩ := told_end T1.out 0 rfl (.int .i64 ra) (.int .i64 rb)
  have HM := Lib.hid M
  clear M z0 z1 q0 q1 p0 p1
  generalize (W1.setCell ⟨w.heap.size, 0, none⟩ (.int .i64 ra)).setCell ⟨w.heap.size, 1, none⟩ (.int .i64 rb) = W3 at *
  exact bodyPost_ret (v := .agg #[.int .i64 ra, .int .i64 rb]) (by simp [results, Try.results12, go_sem, r0, r1]) rfl ⟨rfl, HM.out⟩
end Go.Proofs.Ytngeijdfpgmcfaa

namespace Go.Proofs.Ytngeijdfpgmcfaa
open Go.RowKit
set_option linter.unusedVariables false
set_option maxRecDepth 100000

set_option maxHeartbeats 2000000 in
theorem ref_arg (u : Int) (g c l fe ax rg fu cv : Hd) (pa : Option Addr) (pn pc : Nat) (w : World) (hne : pn ≠ ax.n) :
    Calls Try.prog 6 #[.agg (fontCells u g c l fe ax rg fu cv), .slice pa pn pc] w fun e w' => e = .returned (.tuple #[.slice none 0 0, .int .i64 1]) ∧ Mod [] w w' := by
  unfold fontCells
  have T := Lib.hid (own1 w (fontCells u g c l fe ax rg fu cv) 31)
  have k1 : (((pn : Int)) != (ax.n : Int)) = true := by simp; omega
  have k1' : ((pn : Int) == (ax.n : Int)) = false := by simp; omega
  have HM := Lib.hid T.out.mod
  clear hne T
  unfold fontCells at HM
  go_enter Try.func6, Try.ntmps6
  go_wp2_with fail
  go_ret2
  exact ⟨rfl, HM.out⟩

theorem along_told (v l d m : Int) (h : Vr.onAxis v l d m) : (v < d → Vr.alongR v l d m = ((Rat.told (v - d) (d - l)).1, (Rat.told (v - d) (d - l)).2.1)) ∧ (d < v → Vr.alongR v l d m = ((Rat.told (v - d) (m - d)).1, (Rat.told (v - d) (m - d)).2.1)) ∧ (v = d → Vr.alongR v l d m = ((Rat.told 0 1).1, (Rat.told 0 1).2.1)) := by
  obtain ⟨h1, h2, h3, h4, h5, h6⟩ := h
  have e : ∀ n d, Rat.told n d = Rat.makeR n d := fun _ _ => rfl
  refine ⟨fun h => ?_, fun h => ?_, fun h => ?_⟩
  · unfold Vr.alongR
    rw [if_pos h, e, made_some (by omega) (by omega) (by omega)]
  · unfold Vr.alongR
    rw [if_neg (by omega), if_pos h, e, made_some (by omega) (by omega) (by omega)]
  · unfold Vr.alongR
    rw [if_neg (by omega), if_neg (by omega)]
    decide +kernel

set_option maxHeartbeats 4000000 in
theorem ref_yes (u : Int) (g c l fe ax rg fu cv : Hd) (pa : Option Addr) (pc : Nat) (xs : List Int) (ys : List Ax) (w : World) (hx : xs.length = ax.n) (ha : ys.length = ax.n) (h6 : ax.n ≤ 6)
    (hX : PlaceAt w pa xs) (hA : AxesAt w ax.a ys) (hOn : Vr.allOn xs ys) :
    Calls Try.prog 6 #[.agg (fontCells u g c l fe ax rg fu cv), .slice pa xs.length pc] w fun e w' => ∃ v, e = .returned (.tuple #[v, .int .i64 0]) ∧ Mod [] w w' ∧ PairsAt w' v (Vr.places xs ys) := by
  obtain ⟨axa, axn, axc⟩ := ax
  simp only at hx ha h6 hA
  obtain ⟨i0, hti, hz0, hz1, hz2⟩ := info_parts Try.info_Ratio
  unfold fontCells
  have T := Lib.hid (own1 w (fontCells u g c l fe ⟨axa, axn, axc⟩ rg fu cv) 31)
  have k1 : (((xs.length : Nat) : Int) != (axn : Int)) = false := by simp; omega
  have k1' : (((xs.length : Nat) : Int) == (axn : Int)) = true := by simp; omega
  have HA := Lib.hid hA
  have HX := Lib.hid hX
  have HO := Lib.hid hOn
  have HL := Lib.hid (And.intro hx (And.intro ha h6))
  clear hA hX hOn hx ha h6
  go_enter Try.func6, Try.ntmps6
  go_upto_region 3 with fail
  unfold fontCells at T
  generalize w.alloc (.cells #[.int .i64 u, .slice g.a g.n g.c, .slice c.a c.n c.c, .slice l.a l.n l.c, .slice fe.a fe.n fe.c, .slice axa axn axc, .slice rg.a rg.n rg.c, .slice fu.a fu.n fu.c, .slice cv.a cv.n cv.c] 31) = W0 at *
  have H0 := Lib.hid (World.ownsRow_made (base := w.heap.size + 1) (e := 51) (size := 2) W0 #[] 0 (by have := (T.out.at 0 rfl).lt; omega) (by decide) rfl)
  have T0 := Lib.hid (T.out.call ((Mod.refl _ _).alloc (.cells #[] 51)))
  clear T
  go_wp2_with fail
  go_loopg [6, 7] xs.length (fun gk v6 i7 wr => ∃ i : Nat, i7 = .int .i64 (i : Int) ∧ Hid (i + gk = xs.length) ∧ Hid (Own w wr [(w.heap.size, #[.int .i64 u, .slice g.a g.n g.c, .slice c.a c.n c.c, .slice l.a l.n l.c, .slice fe.a fe.n fe.c, .slice axa axn axc, .slice rg.a rg.n rg.c, .slice fu.a fu.n fu.c, .slice cv.a cv.n cv.c], 31)] ∧ wr.ownsRow (w.heap.size + 1) 51 2 v6 i (flatP ((Vr.places xs ys).take i))))
  case atStart => exact ⟨0, rfl, by show 0 + xs.length = xs.length; omega, T0.out, H0.out⟩
  case round =>
    obtain ⟨i, rfl, hi, HV⟩ := hrel
    obtain ⟨TT, hR⟩ := HV.out
    obtain ⟨va, vc, rfl⟩ := own_form hR
    have TT := Lib.hid TT
    have HR := Lib.hid hR
    clear HV hR T0 H0
    by_cases hn : i = xs.length
    · subst hn
      go_wp2_with fail
      go_ret2
      obtain ⟨hx1, hx2, hx3⟩ := HL.out
      rw [List.take_of_length_le (by rw [places_length]; omega)] at HR
      exact ⟨_, rfl, TT.out.mod, pairs_of_owns2 HR.out (by rw [places_length]; omega)⟩
    · have hlt : i < xs.length := by have := hi.out; omega
      have hlt2 : (i : Int) < (xs.length : Int) := by omega
      have h0 : (0 : Int) ≤ (i : Int) := by omega
      have hiy : i < ys.length := by have := HL.out; omega
      have hb2 : (i : Int) < (axn : Int) := by have := HL.out; omega
      obtain ⟨a, rfl, x0⟩ := HX.out.mod TT.out.mod i hlt
      obtain ⟨b, rfl, a0, a1, a2, a3⟩ := HA.out.mod TT.out.mod i hiy
      have hon := allOn_at xs ys i hlt hiy HO.out
      have HPi := Lib.hid (places_at xs ys i hlt hiy)
      obtain ⟨t1, t2, t3⟩ := along_told xs[i] ys[i].l ys[i].d ys[i].m hon
      generalize Vr.alongR xs[i] ys[i].l ys[i].d ys[i].m = rr at *
      generalize xs[i] = x at *
      generalize ys[i].s = sx at *
      generalize ys[i].l = lx at *
      generalize ys[i].d = dx at *
      generalize ys[i].m = mx at *
      simp only [show ∀ q : Addr, q.add 0 = q from fun q => by simp [Addr.add], show ∀ q : Addr, q.add 1 = ⟨q.block, q.off + 1, none⟩ from fun q => by simp [Addr.add], show ∀ q : Addr, q.add 2 = ⟨q.block, q.off + 2, none⟩ from fun q => by simp [Addr.add], show ∀ q : Addr, q.add 3 = ⟨q.block, q.off + 3, none⟩ from fun q => by simp [Addr.add]] at a0 a1 a2 a3
      have f5 : wr.cell? ⟨w.heap.size, 5, none⟩ = some (.slice (some b) axn axc) := by rw [(TT.out.at 0 rfl).cell]; rfl
      obtain ⟨h1, h2, h3, h4, h5, h6⟩ := hon
      have j1 : decide (lx < -16384) = false := decide_eq_false (by omega)
      have j2 : decide (dx < lx) = false := decide_eq_false (by omega)
      have j3 : decide (mx < dx) = false := decide_eq_false (by omega)
      have j4 : decide (16384 < mx) = false := decide_eq_false (by omega)
      have j5 : decide (x < lx) = false := decide_eq_false (by omega)
      have j6 : decide (mx < x) = false := decide_eq_false (by omega)
      have e1 : IntKind.i64.wrap ((i : Int) + 1) = (i : Int) + 1 := IntWalk.i64_in _ (by have := HL.out; omega)
      have HB := Lib.hid (And.intro h1 (And.intro h2 (And.intro h3 (And.intro h4 (And.intro h5 h6)))))
      clear h1 h2 h3 h4 h5 h6
      have T2 := Lib.hid (TT.out.call ((Mod.refl _ _).alloc (.cells #[.string sx, .int .i64 lx, .int .i64 dx, .int .i64 mx] 54)))
      have HR2 := Lib.hid (World.ownsRow.alloc HR.out (.cells #[.string sx, .int .i64 lx, .int .i64 dx, .int .i64 mx] 54))
      have B8 := Blk.new wr #[.string sx, .int .i64 lx, .int .i64 dx, .int .i64 mx] 54
      go_upto_region 8 with fail
      have X0 := cell_kept (w' := wr.alloc (.cells #[.string sx, .int .i64 lx, .int .i64 dx, .int .i64 mx] 54)) ((Mod.refl _ _).alloc _) x0
      obtain ⟨q1, q2, q3⟩ := axisBlk B8
      generalize wr.alloc (.cells #[.string sx, .int .i64 lx, .int .i64 dx, .int .i64 mx] 54) = W8 at *
      generalize wr.heap.size = b8 at *
      clear x0 a0 a1 a2 a3 f5 TT HR B8
      by_cases hlx : x < dx
      · have j7 : decide (x < dx) = true := decide_eq_true hlx
        have hr := t1 hlx
        subst hr
        have hb := HB.out
        have HM := Lib.hid (fun W => madeV_any (x - dx) (dx - lx) W (by omega) (by omega))
        generalize Rat.told (x - dx) (dx - lx) = r at *
        obtain ⟨ra, rb, rc⟩ := r
        simp only at HM
        have e2 : IntKind.i64.wrap (x - dx) = x - dx := IntWalk.i64_in _ (by have := HB.out; omega)
        have e3 : IntKind.i64.wrap (dx - lx) = dx - lx := IntWalk.i64_in _ (by have := HB.out; omega)
        clear t1 t2 t3 HB
        go_wp2_with fail
        refine (HM.out _).mono ?_
        rintro e w3 ⟨rfl, m3⟩
        have T3 := Lib.hid ((T2.out.call m3).call ((Mod.refl _ _).alloc (.cells #[.int .i64 ra, .int .i64 rb] 51)))
        have HR3 := Lib.hid (World.ownsRow.alloc (owns_mod HR2.out m3) (.cells #[.int .i64 ra, .int .i64 rb] 51))
        have B3 := Blk.new w3 #[.int .i64 ra, .int .i64 rb] 51
        clear T2 HR2 m3 HM
        go_wp2_with (at_builtin; refine wpList_append_own _ rfl _ _ 33 rfl (w.heap.size + 1) 51 i0 (.agg #[.int .i64 0, .int .i64 0]) 2 16 Try.underlying33 hti hz0 hz1 hz2 rfl (by decide) _ _ _ rfl HR3.out ⟨w3.heap.size, 0, none⟩ 1 1 [.int .i64 ra, .int .i64 rb] rfl rfl ?_ ?_ ?_ ?_ ?_ ?_)
        · exact cells_two_at B3
        · simp [Value.oneCell']
        · have := HL.out; unfold maxLen; omega
        · have := HL.out; omega
        · have := (T3.out.at 0 rfl).lt; simp at this ⊢; omega
        intro v' w1 hown' hgrow _
        have T4 := Lib.hid (Own.grown T3.out hgrow (fun k hk => (HR3.out.lt k hk).1) (by omega) (by simp))
        have HR4 := Lib.hid hown'
        clear hown' hgrow T3 HR3 B3
        go_wp2_with fail
        go_roundg (gk - 1)
        case measure => have := hi.out; omega
        case rel =>
          refine ⟨i + 1, by rw [Int.natCast_add]; rfl, ?_, T4.out, ?_⟩
          · have := hi.out; show i + 1 + (gk - 1) = xs.length; omega
          · rw [List.take_add_one, HPi.out]
            simp only [Option.toList_some]
            rw [flatP_snoc]
            exact HR4.out
      · have j7 : decide (x < dx) = false := decide_eq_false hlx
        by_cases hgx : dx < x
        · have j8 : decide (dx < x) = true := decide_eq_true hgx
          have hr := t2 hgx
          subst hr
          have hb := HB.out
          have HM := Lib.hid (fun W => madeV_any (x - dx) (mx - dx) W (by omega) (by omega))
          generalize Rat.told (x - dx) (mx - dx) = r at *
          obtain ⟨ra, rb, rc⟩ := r
          simp only at HM
          have e2 : IntKind.i64.wrap (x - dx) = x - dx := IntWalk.i64_in _ (by have := HB.out; omega)
          have e3 : IntKind.i64.wrap (mx - dx) = mx - dx := IntWalk.i64_in _ (by have := HB.out; omega)
          clear t1 t2 t3 HB
          go_wp2_with fail
          refine (HM.out _).mono ?_
          rintro e w3 ⟨rfl, m3⟩
          have T3 := Lib.hid ((T2.out.call m3).call ((Mod.refl _ _).alloc (.cells #[.int .i64 ra, .int .i64 rb] 51)))
          have HR3 := Lib.hid (World.ownsRow.alloc (owns_mod HR2.out m3) (.cells #[.int .i64 ra, .int .i64 rb] 51))
          have B3 := Blk.new w3 #[.int .i64 ra, .int .i64 rb] 51
          clear T2 HR2 m3 HM
          go_wp2_with (at_builtin; refine wpList_append_own _ rfl _ _ 33 rfl (w.heap.size + 1) 51 i0 (.agg #[.int .i64 0, .int .i64 0]) 2 16 Try.underlying33 hti hz0 hz1 hz2 rfl (by decide) _ _ _ rfl HR3.out ⟨w3.heap.size, 0, none⟩ 1 1 [.int .i64 ra, .int .i64 rb] rfl rfl ?_ ?_ ?_ ?_ ?_ ?_)
          · exact cells_two_at B3
          · simp [Value.oneCell']
          · have := HL.out; unfold maxLen; omega
          · have := HL.out; omega
          · have := (T3.out.at 0 rfl).lt; simp at this ⊢; omega
          intro v' w1 hown' hgrow _
          have T4 := Lib.hid (Own.grown T3.out hgrow (fun k hk => (HR3.out.lt k hk).1) (by omega) (by simp))
          have HR4 := Lib.hid hown'
          clear hown' hgrow T3 HR3 B3
          go_wp2_with fail
          go_roundg (gk - 1)
          case measure => have := hi.out; omega
          case rel =>
            refine ⟨i + 1, by rw [Int.natCast_add]; rfl, ?_, T4.out, ?_⟩
            · have := hi.out; show i + 1 + (gk - 1) = xs.length; omega
            · rw [List.take_add_one, HPi.out]
              simp only [Option.toList_some]
              rw [flatP_snoc]
              exact HR4.out
        · have j8 : decide (dx < x) = false := decide_eq_false hgx
          have hr := t3 (by omega)
          subst hr
          have HM := Lib.hid (fun W => madeV_any 0 1 W (by omega) (by omega))
          generalize Rat.told 0 1 = r at *
          obtain ⟨ra, rb, rc⟩ := r
          simp only at HM
          clear t1 t2 t3 HB
          go_wp2_with fail
          refine (HM.out _).mono ?_
          rintro e w3 ⟨rfl, m3⟩
          have T3 := Lib.hid ((T2.out.call m3).call ((Mod.refl _ _).alloc (.cells #[.int .i64 ra, .int .i64 rb] 51)))
          have HR3 := Lib.hid (World.ownsRow.alloc (owns_mod HR2.out m3) (.cells #[.int .i64 ra, .int .i64 rb] 51))
          have B3 := Blk.new w3 #[.int .i64 ra, .int .i64 rb] 51
          clear T2 HR2 m3 HM
          go_wp2_with (at_builtin; refine wpList_append_own _ rfl _ _ 33 rfl (w.heap.size + 1) 51 i0 (.agg #[.int .i64 0, .int .i64 0]) 2 16 Try.underlying33 hti hz0 hz1 hz2 rfl (by decide) _ _ _ rfl HR3.out ⟨w3.heap.size, 0, none⟩ 1 1 [.int .i64 ra, .int .i64 rb] rfl rfl ?_ ?_ ?_ ?_ ?_ ?_)
          · exact cells_two_at B3
          · simp [Value.oneCell']
          · have := HL.out; unfold maxLen; omega
          · have := HL.out; omega
          · have := (T3.out.at 0 rfl).lt; simp at this ⊢; omega
          intro v' w1 hown' hgrow _
          have T4 := Lib.hid (Own.grown T3.out hgrow (fun k hk => (HR3.out.lt k hk).1) (by omega) (by simp))
          have HR4 := Lib.hid hown'
          clear hown' hgrow T3 HR3 B3
          go_wp2_with fail
          go_roundg (gk - 1)
          case measure => have := hi.out; omega
          case rel =>
            refine ⟨i + 1, by rw [Int.natCast_add]; rfl, ?_, T4.out, ?_⟩
            · have := hi.out; show i + 1 + (gk - 1) = xs.length; omega
            · rw [List.take_add_one, HPi.out]
              simp only [Option.toList_some]
              rw [flatP_snoc]
              exact HR4.out
end Go.Proofs.Ytngeijdfpgmcfaa

namespace Go.Proofs.Ytngeijdfpgmcfaa
open Go.RowKit
set_option linter.unusedVariables false
set_option maxRecDepth 100000

set_option maxHeartbeats 4000000 in
theorem ref_no (u : Int) (g c l fe ax rg fu cv : Hd) (pa : Option Addr) (pc : Nat) (xs : List Int) (ys : List Ax) (w : World) (hx : xs.length = ax.n) (ha : ys.length = ax.n) (h6 : ax.n ≤ 6)
    (hX : PlaceAt w pa xs) (hA : AxesAt w ax.a ys) (hOn : ¬ Vr.allOn xs ys) :
    Calls Try.prog 6 #[.agg (fontCells u g c l fe ax rg fu cv), .slice pa xs.length pc] w fun e w' => e = .returned (.tuple #[.slice none 0 0, .int .i64 60]) ∧ Mod [] w w' := by
  obtain ⟨axa, axn, axc⟩ := ax
  simp only at hx ha h6 hA
  obtain ⟨i0, hti, hz0, hz1, hz2⟩ := info_parts Try.info_Ratio
  unfold fontCells
  have T := Lib.hid (own1 w (fontCells u g c l fe ⟨axa, axn, axc⟩ rg fu cv) 31)
  have k1 : (((xs.length : Nat) : Int) != (axn : Int)) = false := by simp; omega
  have k1' : (((xs.length : Nat) : Int) == (axn : Int)) = true := by simp; omega
  have HA := Lib.hid hA
  have HX := Lib.hid hX
  have HO := Lib.hid hOn
  have HL := Lib.hid (And.intro hx (And.intro ha h6))
  clear hA hX hOn hx ha h6
  go_enter Try.func6, Try.ntmps6
  go_upto_region 3 with fail
  unfold fontCells at T
  generalize w.alloc (.cells #[.int .i64 u, .slice g.a g.n g.c, .slice c.a c.n c.c, .slice l.a l.n l.c, .slice fe.a fe.n fe.c, .slice axa axn axc, .slice rg.a rg.n rg.c, .slice fu.a fu.n fu.c, .slice cv.a cv.n cv.c] 31) = W0 at *
  have H0 := Lib.hid (World.ownsRow_made (base := w.heap.size + 1) (e := 51) (size := 2) W0 #[] 0 (by have := (T.out.at 0 rfl).lt; omega) (by decide) rfl)
  have T0 := Lib.hid (T.out.call ((Mod.refl _ _).alloc (.cells #[] 51)))
  clear T
  go_wp2_with fail
  go_loopg [6, 7] xs.length (fun gk v6 i7 wr => ∃ i : Nat, i7 = .int .i64 (i : Int) ∧ Hid (i + gk = xs.length) ∧ Hid (Own w wr [(w.heap.size, #[.int .i64 u, .slice g.a g.n g.c, .slice c.a c.n c.c, .slice l.a l.n l.c, .slice fe.a fe.n fe.c, .slice axa axn axc, .slice rg.a rg.n rg.c, .slice fu.a fu.n fu.c, .slice cv.a cv.n cv.c], 31)] ∧ wr.ownsRow (w.heap.size + 1) 51 2 v6 i (flatP ((Vr.places xs ys).take i)) ∧ ¬ Vr.allOn (xs.drop i) (ys.drop i)))
  case atStart => exact ⟨0, rfl, by show 0 + xs.length = xs.length; omega, T0.out, H0.out, HO.out⟩
  case round =>
    obtain ⟨i, rfl, hi, HV⟩ := hrel
    obtain ⟨TT, hR, hO⟩ := HV.out
    obtain ⟨va, vc, rfl⟩ := own_form hR
    have TT := Lib.hid TT
    have HR := Lib.hid hR
    have HO := Lib.hid hO
    clear HV hR T0 H0 hO
    by_cases hn : i = xs.length
    · exact absurd (show Vr.allOn (xs.drop i) (ys.drop i) by rw [hn, List.drop_length]; exact trivial) HO.out
    · have hlt : i < xs.length := by have := hi.out; omega
      have hlt2 : (i : Int) < (xs.length : Int) := by omega
      have h0 : (0 : Int) ≤ (i : Int) := by omega
      have hiy : i < ys.length := by have := HL.out; omega
      have hb2 : (i : Int) < (axn : Int) := by have := HL.out; omega
      obtain ⟨a, rfl, x0⟩ := HX.out.mod TT.out.mod i hlt
      obtain ⟨b, rfl, a0, a1, a2, a3⟩ := HA.out.mod TT.out.mod i hiy
      by_cases hon : Vr.onAxis xs[i] ys[i].l ys[i].d ys[i].m
      case neg =>
        clear HO
        generalize xs[i] = x at *
        generalize ys[i].s = sx at *
        generalize ys[i].l = lx at *
        generalize ys[i].d = dx at *
        generalize ys[i].m = mx at *
        simp only [show ∀ q : Addr, q.add 0 = q from fun q => by simp [Addr.add], show ∀ q : Addr, q.add 1 = ⟨q.block, q.off + 1, none⟩ from fun q => by simp [Addr.add], show ∀ q : Addr, q.add 2 = ⟨q.block, q.off + 2, none⟩ from fun q => by simp [Addr.add], show ∀ q : Addr, q.add 3 = ⟨q.block, q.off + 3, none⟩ from fun q => by simp [Addr.add]] at a0 a1 a2 a3
        have f5 : wr.cell? ⟨w.heap.size, 5, none⟩ = some (.slice (some b) axn axc) := by rw [(TT.out.at 0 rfl).cell]; rfl
        have T2 := Lib.hid (TT.out.call ((Mod.refl _ _).alloc (.cells #[.string sx, .int .i64 lx, .int .i64 dx, .int .i64 mx] 54)))
        have B8 := Blk.new wr #[.string sx, .int .i64 lx, .int .i64 dx, .int .i64 mx] 54
        have HN := Lib.hid hon
        clear hon
        go_upto_region 8 with fail
        have X0 := cell_kept (w' := wr.alloc (.cells #[.string sx, .int .i64 lx, .int .i64 dx, .int .i64 mx] 54)) ((Mod.refl _ _).alloc _) x0
        obtain ⟨q1, q2, q3⟩ := axisBlk B8
        generalize wr.alloc (.cells #[.string sx, .int .i64 lx, .int .i64 dx, .int .i64 mx] 54) = W8 at *
        generalize wr.heap.size = b8 at *
        clear x0 a0 a1 a2 a3 f5 TT HR B8
        by_cases h0 : lx < -16384
        · have j0 : decide (lx < -16384) = true := decide_eq_true h0
          clear h0 HN
          go_wp2_with fail
          go_ret2
          exact ⟨rfl, T2.out.mod⟩
        have j0 : decide (lx < -16384) = false := decide_eq_false h0
        by_cases h1 : dx < lx
        · have j1 : decide (dx < lx) = true := decide_eq_true h1
          clear h1 HN
          go_wp2_with fail
          go_ret2
          exact ⟨rfl, T2.out.mod⟩
        have j1 : decide (dx < lx) = false := decide_eq_false h1
        by_cases h2 : mx < dx
        · have j2 : decide (mx < dx) = true := decide_eq_true h2
          clear h2 HN
          go_wp2_with fail
          go_ret2
          exact ⟨rfl, T2.out.mod⟩
        have j2 : decide (mx < dx) = false := decide_eq_false h2
        by_cases h3 : 16384 < mx
        · have j3 : decide (16384 < mx) = true := decide_eq_true h3
          clear h3 HN
          go_wp2_with fail
          go_ret2
          exact ⟨rfl, T2.out.mod⟩
        have j3 : decide (16384 < mx) = false := decide_eq_false h3
        by_cases h4 : x < lx
        · have j4 : decide (x < lx) = true := decide_eq_true h4
          clear h4 HN
          go_wp2_with fail
          go_ret2
          exact ⟨rfl, T2.out.mod⟩
        have j4 : decide (x < lx) = false := decide_eq_false h4
        by_cases h5 : mx < x
        · have j5 : decide (mx < x) = true := decide_eq_true h5
          clear h5 HN
          go_wp2_with fail
          go_ret2
          exact ⟨rfl, T2.out.mod⟩
        have j5 : decide (mx < x) = false := decide_eq_false h5
        exact absurd ⟨by omega, by omega, by omega, by omega, by omega, by omega⟩ HN.out
      have HON := Lib.hid (show ¬ Vr.allOn (xs.drop (i + 1)) (ys.drop (i + 1)) from fun h => HO.out (by rw [List.drop_eq_getElem_cons hlt, List.drop_eq_getElem_cons hiy]; exact ⟨hon, h⟩))
      have HPi := Lib.hid (places_at xs ys i hlt hiy)
      obtain ⟨t1, t2, t3⟩ := along_told xs[i] ys[i].l ys[i].d ys[i].m hon
      generalize Vr.alongR xs[i] ys[i].l ys[i].d ys[i].m = rr at *
      generalize xs[i] = x at *
      generalize ys[i].s = sx at *
      generalize ys[i].l = lx at *
      generalize ys[i].d = dx at *
      generalize ys[i].m = mx at *
      simp only [show ∀ q : Addr, q.add 0 = q from fun q => by simp [Addr.add], show ∀ q : Addr, q.add 1 = ⟨q.block, q.off + 1, none⟩ from fun q => by simp [Addr.add], show ∀ q : Addr, q.add 2 = ⟨q.block, q.off + 2, none⟩ from fun q => by simp [Addr.add], show ∀ q : Addr, q.add 3 = ⟨q.block, q.off + 3, none⟩ from fun q => by simp [Addr.add]] at a0 a1 a2 a3
      have f5 : wr.cell? ⟨w.heap.size, 5, none⟩ = some (.slice (some b) axn axc) := by rw [(TT.out.at 0 rfl).cell]; rfl
      obtain ⟨h1, h2, h3, h4, h5, h6⟩ := hon
      have j1 : decide (lx < -16384) = false := decide_eq_false (by omega)
      have j2 : decide (dx < lx) = false := decide_eq_false (by omega)
      have j3 : decide (mx < dx) = false := decide_eq_false (by omega)
      have j4 : decide (16384 < mx) = false := decide_eq_false (by omega)
      have j5 : decide (x < lx) = false := decide_eq_false (by omega)
      have j6 : decide (mx < x) = false := decide_eq_false (by omega)
      have e1 : IntKind.i64.wrap ((i : Int) + 1) = (i : Int) + 1 := IntWalk.i64_in _ (by have := HL.out; omega)
      have HB := Lib.hid (And.intro h1 (And.intro h2 (And.intro h3 (And.intro h4 (And.intro h5 h6)))))
      clear h1 h2 h3 h4 h5 h6
      have T2 := Lib.hid (TT.out.call ((Mod.refl _ _).alloc (.cells #[.string sx, .int .i64 lx, .int .i64 dx, .int .i64 mx] 54)))
      have HR2 := Lib.hid (World.ownsRow.alloc HR.out (.cells #[.string sx, .int .i64 lx, .int .i64 dx, .int .i64 mx] 54))
      have B8 := Blk.new wr #[.string sx, .int .i64 lx, .int .i64 dx, .int .i64 mx] 54
      go_upto_region 8 with fail
      have X0 := cell_kept (w' := wr.alloc (.cells #[.string sx, .int .i64 lx, .int .i64 dx, .int .i64 mx] 54)) ((Mod.refl _ _).alloc _) x0
      obtain ⟨q1, q2, q3⟩ := axisBlk B8
      generalize wr.alloc (.cells #[.string sx, .int .i64 lx, .int .i64 dx, .int .i64 mx] 54) = W8 at *
      generalize wr.heap.size = b8 at *
      clear x0 a0 a1 a2 a3 f5 TT HR B8
      by_cases hlx : x < dx
      · have j7 : decide (x < dx) = true := decide_eq_true hlx
        have hr := t1 hlx
        subst hr
        have hb := HB.out
        have HM := Lib.hid (fun W => madeV_any (x - dx) (dx - lx) W (by omega) (by omega))
        generalize Rat.told (x - dx) (dx - lx) = r at *
        obtain ⟨ra, rb, rc⟩ := r
        simp only at HM
        have e2 : IntKind.i64.wrap (x - dx) = x - dx := IntWalk.i64_in _ (by have := HB.out; omega)
        have e3 : IntKind.i64.wrap (dx - lx) = dx - lx := IntWalk.i64_in _ (by have := HB.out; omega)
        clear t1 t2 t3 HB
        go_wp2_with fail
        refine (HM.out _).mono ?_
        rintro e w3 ⟨rfl, m3⟩
        have T3 := Lib.hid ((T2.out.call m3).call ((Mod.refl _ _).alloc (.cells #[.int .i64 ra, .int .i64 rb] 51)))
        have HR3 := Lib.hid (World.ownsRow.alloc (owns_mod HR2.out m3) (.cells #[.int .i64 ra, .int .i64 rb] 51))
        have B3 := Blk.new w3 #[.int .i64 ra, .int .i64 rb] 51
        clear T2 HR2 m3 HM
        go_wp2_with (at_builtin; refine wpList_append_own _ rfl _ _ 33 rfl (w.heap.size + 1) 51 i0 (.agg #[.int .i64 0, .int .i64 0]) 2 16 Try.underlying33 hti hz0 hz1 hz2 rfl (by decide) _ _ _ rfl HR3.out ⟨w3.heap.size, 0, none⟩ 1 1 [.int .i64 ra, .int .i64 rb] rfl rfl ?_ ?_ ?_ ?_ ?_ ?_)
        · exact cells_two_at B3
        · simp [Value.oneCell']
        · have := HL.out; unfold maxLen; omega
        · have := HL.out; omega
        · have := (T3.out.at 0 rfl).lt; simp at this ⊢; omega
        intro v' w1 hown' hgrow _
        have T4 := Lib.hid (Own.grown T3.out hgrow (fun k hk => (HR3.out.lt k hk).1) (by omega) (by simp))
        have HR4 := Lib.hid hown'
        clear hown' hgrow T3 HR3 B3
        go_wp2_with fail
        go_roundg (gk - 1)
        case measure => have := hi.out; omega
        case rel =>
          refine ⟨i + 1, by rw [Int.natCast_add]; rfl, ?_, T4.out, ?_, HON.out⟩
          · have := hi.out; show i + 1 + (gk - 1) = xs.length; omega
          · rw [List.take_add_one, HPi.out]
            simp only [Option.toList_some]
            rw [flatP_snoc]
            exact HR4.out
      · have j7 : decide (x < dx) = false := decide_eq_false hlx
        by_cases hgx : dx < x
        · have j8 : decide (dx < x) = true := decide_eq_true hgx
          have hr := t2 hgx
          subst hr
          have hb := HB.out
          have HM := Lib.hid (fun W => madeV_any (x - dx) (mx - dx) W (by omega) (by omega))
          generalize Rat.told (x - dx) (mx - dx) = r at *
          obtain ⟨ra, rb, rc⟩ := r
          simp only at HM
          have e2 : IntKind.i64.wrap (x - dx) = x - dx := IntWalk.i64_in _ (by have := HB.out; omega)
          have e3 : IntKind.i64.wrap (mx - dx) = mx - dx := IntWalk.i64_in _ (by have := HB.out; omega)
          clear t1 t2 t3 HB
          go_wp2_with fail
          refine (HM.out _).mono ?_
          rintro e w3 ⟨rfl, m3⟩
          have T3 := Lib.hid ((T2.out.call m3).call ((Mod.refl _ _).alloc (.cells #[.int .i64 ra, .int .i64 rb] 51)))
          have HR3 := Lib.hid (World.ownsRow.alloc (owns_mod HR2.out m3) (.cells #[.int .i64 ra, .int .i64 rb] 51))
          have B3 := Blk.new w3 #[.int .i64 ra, .int .i64 rb] 51
          clear T2 HR2 m3 HM
          go_wp2_with (at_builtin; refine wpList_append_own _ rfl _ _ 33 rfl (w.heap.size + 1) 51 i0 (.agg #[.int .i64 0, .int .i64 0]) 2 16 Try.underlying33 hti hz0 hz1 hz2 rfl (by decide) _ _ _ rfl HR3.out ⟨w3.heap.size, 0, none⟩ 1 1 [.int .i64 ra, .int .i64 rb] rfl rfl ?_ ?_ ?_ ?_ ?_ ?_)
          · exact cells_two_at B3
          · simp [Value.oneCell']
          · have := HL.out; unfold maxLen; omega
          · have := HL.out; omega
          · have := (T3.out.at 0 rfl).lt; simp at this ⊢; omega
          intro v' w1 hown' hgrow _
          have T4 := Lib.hid (Own.grown T3.out hgrow (fun k hk => (HR3.out.lt k hk).1) (by omega) (by simp))
          have HR4 := Lib.hid hown'
          clear hown' hgrow T3 HR3 B3
          go_wp2_with fail
          go_roundg (gk - 1)
          case measure => have := hi.out; omega
          case rel =>
            refine ⟨i + 1, by rw [Int.natCast_add]; rfl, ?_, T4.out, ?_, HON.out⟩
            · have := hi.out; show i + 1 + (gk - 1) = xs.length; omega
            · rw [List.take_add_one, HPi.out]
              simp only [Option.toList_some]
              rw [flatP_snoc]
              exact HR4.out
        · have j8 : decide (dx < x) = false := decide_eq_false hgx
          have hr := t3 (by omega)
          subst hr
          have HM := Lib.hid (fun W => madeV_any 0 1 W (by omega) (by omega))
          generalize Rat.told 0 1 = r at *
          obtain ⟨ra, rb, rc⟩ := r
          simp only at HM
          clear t1 t2 t3 HB
          go_wp2_with fail
          refine (HM.out _).mono ?_
          rintro e w3 ⟨rfl, m3⟩
          have T3 := Lib.hid ((T2.out.call m3).call ((Mod.refl _ _).alloc (.cells #[.int .i64 ra, .int .i64 rb] 51)))
          have HR3 := Lib.hid (World.ownsRow.alloc (owns_mod HR2.out m3) (.cells #[.int .i64 ra, .int .i64 rb] 51))
          have B3 := Blk.new w3 #[.int .i64 ra, .int .i64 rb] 51
          clear T2 HR2 m3 HM
          go_wp2_with (at_builtin; refine wpList_append_own _ rfl _ _ 33 rfl (w.heap.size + 1) 51 i0 (.agg #[.int .i64 0, .int .i64 0]) 2 16 Try.underlying33 hti hz0 hz1 hz2 rfl (by decide) _ _ _ rfl HR3.out ⟨w3.heap.size, 0, none⟩ 1 1 [.int .i64 ra, .int .i64 rb] rfl rfl ?_ ?_ ?_ ?_ ?_ ?_)
          · exact cells_two_at B3
          · simp [Value.oneCell']
          · have := HL.out; unfold maxLen; omega
          · have := HL.out; omega
          · have := (T3.out.at 0 rfl).lt; simp at this ⊢; omega
          intro v' w1 hown' hgrow _
          have T4 := Lib.hid (Own.grown T3.out hgrow (fun k hk => (HR3.out.lt k hk).1) (by omega) (by simp))
          have HR4 := Lib.hid hown'
          clear hown' hgrow T3 HR3 B3
          go_wp2_with fail
          go_roundg (gk - 1)
          case measure => have := hi.out; omega
          case rel =>
            refine ⟨i + 1, by rw [Int.natCast_add]; rfl, ?_, T4.out, ?_, HON.out⟩
            · have := hi.out; show i + 1 + (gk - 1) = xs.length; omega
            · rw [List.take_add_one, HPi.out]
              simp only [Option.toList_some]
              rw [flatP_snoc]
              exact HR4.out
end Go.Proofs.Ytngeijdfpgmcfaa

namespace Go.Proofs.Ytngeijdfpgmcfaa
open Go.RowKit
set_option linter.unusedVariables false
set_option maxRecDepth 100000

theorem axes_list {W : World} {oa : Option Addr} {n : Nat} (h : ∀ i, i < n → ∃ a, oa = some a ∧ ∃ (s : ByteArray) (l d m : Int), W.cell? ((a.add (i * 4)).add 0) = some (.string s) ∧ W.cell? ((a.add (i * 4)).add 1) = some (.int .i64 l) ∧ W.cell? ((a.add (i * 4)).add 2) = some (.int .i64 d) ∧ W.cell? ((a.add (i * 4)).add 3) = some (.int .i64 m) ∧
        (-9223372036854775808 ≤ l ∧ l ≤ 9223372036854775807) ∧ (-9223372036854775808 ≤ d ∧ d ≤ 9223372036854775807) ∧ (-9223372036854775808 ≤ m ∧ m ≤ 9223372036854775807)) : ∃ ys : List Ax, ys.length = n ∧ AxesAt W oa ys := by
  have h' : ∀ i, i < n → ∃ y : Ax, ∃ a : Addr, oa = some a ∧ W.cell? ((a.add (i * 4)).add 0) = some (.string y.s) ∧ W.cell? ((a.add (i * 4)).add 1) = some (.int .i64 y.l) ∧ W.cell? ((a.add (i * 4)).add 2) = some (.int .i64 y.d) ∧ W.cell? ((a.add (i * 4)).add 3) = some (.int .i64 y.m) := fun i hi => by
    obtain ⟨a, ha, s, l, d, m, h0, h1, h2, h3, _⟩ := h i hi
    exact ⟨⟨s, l, d, m⟩, a, ha, h0, h1, h2, h3⟩
  obtain ⟨q, hq⟩ : ∃ q : Nat → Ax, ∀ i, i < n → ∃ a : Addr, oa = some a ∧ W.cell? ((a.add (i * 4)).add 0) = some (.string (q i).s) ∧ W.cell? ((a.add (i * 4)).add 1) = some (.int .i64 (q i).l) ∧ W.cell? ((a.add (i * 4)).add 2) = some (.int .i64 (q i).d) ∧ W.cell? ((a.add (i * 4)).add 3) = some (.int .i64 (q i).m) := by
    refine ⟨fun i => if h : i < n then Classical.choose (h' i h) else ⟨ByteArray.empty, 0, 0, 0⟩, fun i hi => ?_⟩
    simp only [hi, dif_pos]
    exact Classical.choose_spec (h' i hi)
  refine ⟨(List.range n).map q, by simp, fun i hi => ?_⟩
  have hi' : i < n := by simpa using hi
  simpa using hq i hi'

/-- What both tell of a place. -/
def NormalRes (P : Program) (f g : FuncId) (fv pv : Value) (w : World) : Prop := ∃ (k : Int) (l : List (Int × Int)), l.length ≤ 1000000 ∧
  (∀ W, Mod [] w W → Calls P f #[fv, pv] W fun e w' => ∃ v, e = .returned (.tuple #[v, .int .i64 k]) ∧ Mod [] W w' ∧ PairsAt w' v l) ∧
  (∀ W, Mod [] w W → Calls P g #[fv, pv] W fun e w' => ∃ v, e = .returned (.tuple #[v, .int .i64 k]) ∧ Mod [] W w' ∧ PairsAt w' v l)
theorem pairs_nil (w : World) : PairsAt w (.slice none 0 0) [] := ⟨none, 0, rfl, fun i hi => by simp at hi⟩
theorem places_le (xs : List Int) (ys : List Ax) (h : xs.length ≤ 6) : (Vr.places xs ys).length ≤ 1000000 := by rw [places_length]; omega
theorem normal_res (u : Int) (g c l fe ax rg fu cv : Hd) (pa : Option Addr) (pc : Nat) (xs : List Int) (ys : List Ax) (w : World) (ha : ys.length = ax.n) (h6 : ax.n ≤ 6)
    (hX : PlaceAt w pa xs) (hA : AxesAt w ax.a ys) : NormalRes Try.prog 5 6 (.agg (fontCells u g c l fe ax rg fu cv)) (.slice pa xs.length pc) w := by
  by_cases hne : xs.length = ax.n
  · by_cases hOn : Vr.allOn xs ys
    · exact ⟨0, Vr.places xs ys, places_le xs ys (by omega), fun W m => normal_yes u g c l fe ax rg fu cv pa pc xs ys W hne ha h6 (hX.mod m) (hA.mod m) hOn, fun W m => ref_yes u g c l fe ax rg fu cv pa pc xs ys W hne ha h6 (hX.mod m) (hA.mod m) hOn⟩
    · refine ⟨60, [], by simp, fun W m => (normal_no u g c l fe ax rg fu cv pa pc xs ys W hne ha h6 (hX.mod m) (hA.mod m) hOn).mono ?_, fun W m => (ref_no u g c l fe ax rg fu cv pa pc xs ys W hne ha h6 (hX.mod m) (hA.mod m) hOn).mono ?_⟩
      · rintro e w' ⟨he, hm⟩; exact ⟨_, he, hm, pairs_nil _⟩
      · rintro e w' ⟨he, hm⟩; exact ⟨_, he, hm, pairs_nil _⟩
  · refine ⟨1, [], by simp, fun W m => (normal_arg u g c l fe ax rg fu cv pa _ pc W hne).mono ?_, fun W m => (ref_arg u g c l fe ax rg fu cv pa _ pc W hne).mono ?_⟩
    · rintro e w' ⟨he, hm⟩; exact ⟨_, he, hm, pairs_nil _⟩
    · rintro e w' ⟨he, hm⟩; exact ⟨_, he, hm, pairs_nil _⟩

theorem PairsAt.mod {W W' : World} {v : Value} {l : List (Int × Int)} (h : PairsAt W v l) (m : Mod [] W W') : PairsAt W' v l := by
  obtain ⟨oa, cap, rfl, h⟩ := h
  exact ⟨oa, cap, rfl, fun i hi => by obtain ⟨b, hb, h0, h1⟩ := h i hi; exact ⟨b, hb, cell_kept m h0, cell_kept m h1⟩⟩

set_option maxHeartbeats 2000000 in
theorem normal_walk (v0 : Value) (x0 : Unit) (oa : Option Addr) (pn pc : Nat) (xs : List Int) (w : World) (hF : FontIn w v0) (hI : IntsIn w oa pn xs) :
    Calls Try.prog 3 #[v0, .slice oa pn pc] w fun e w' => e = .returned (.bool true) ∧ Below w.heap.size w w' := by
  obtain ⟨u, fa, n, c, rfl, hmax, hG, hAx⟩ := hF
  obtain ⟨rfl, hxm, hx⟩ := hI
  obtain ⟨ys, hyl, hA⟩ := axes_list hAx
  have HBig := Lib.hid (fun W (m : Mod [] w W) => big_any u fa n c W (fun i hi => by
    obtain ⟨a, ha, pa, pn, pc, da, dn, dc, h1, h2, h3, h4⟩ := hG i hi
    exact ⟨a, ha, pa, pn, pc, da, dn, dc, cell_kept m h1, cell_kept m h2, h3, h4⟩))
  have HN := Lib.hid (fun (h6 : n 5 ≤ 6) => normal_res u ⟨fa 1, n 1, c 1⟩ ⟨fa 2, n 2, c 2⟩ ⟨fa 3, n 3, c 3⟩ ⟨fa 4, n 4, c 4⟩ ⟨fa 5, n 5, c 5⟩ ⟨fa 6, n 6, c 6⟩ ⟨fa 7, n 7, c 7⟩ ⟨fa 8, n 8, c 8⟩ oa pc xs ys w hyl h6 (fun i hi => by
    obtain ⟨a, ha, hc, _⟩ := hx i hi
    exact ⟨a, ha, hc⟩) hA)
  unfold fontV at HBig
  unfold fontCells at HN
  simp only at HN
  have T := Lib.hid (own1 w #[.int .i64 u, .slice (fa 1) (n 1) (c 1), .slice (fa 2) (n 2) (c 2), .slice (fa 3) (n 3) (c 3), .slice (fa 4) (n 4) (c 4), .slice (fa 5) (n 5) (c 5), .slice (fa 6) (n 6) (c 6), .slice (fa 7) (n 7) (c 7), .slice (fa 8) (n 8) (c 8)] 31)
  clear hG hAx hA hx hyl
  generalize n 5 = n5 at *
  generalize fa 1 = o1 at *
  generalize fa 2 = o2 at *
  generalize fa 3 = o3 at *
  generalize fa 4 = o4 at *
  generalize fa 5 = o5 at *
  generalize fa 6 = o6 at *
  generalize fa 7 = o7 at *
  generalize fa 8 = o8 at *
  generalize n 1 = n1 at *
  generalize n 2 = n2 at *
  generalize n 3 = n3 at *
  generalize n 4 = n4 at *
  generalize n 6 = n6 at *
  generalize n 7 = n7 at *
  generalize n 8 = n8 at *
  generalize c 1 = c1 at *
  generalize c 2 = c2 at *
  generalize c 3 = c3 at *
  generalize c 4 = c4 at *
  generalize c 5 = c5 at *
  generalize c 6 = c6 at *
  generalize c 7 = c7 at *
  generalize c 8 = c8 at *
  clear hmax
  go_enter Try.func3, Try.ntmps3
  go_upto_region 1 with fail
  have f0 := T.out.at 0 rfl
  generalize w.alloc (.cells #[.int .i64 u, .slice o1 n1 c1, .slice o2 n2 c2, .slice o3 n3 c3, .slice o4 n4 c4, .slice o5 n5 c5, .slice o6 n6 c6, .slice o7 n7 c7, .slice o8 n8 c8] 31) = W0 at *
  have f1 := fun i => f0.cell i
  go_wp2_with fail
  refine (HBig.out _ T.out.mod).mono ?_
  rintro e w1 ⟨v, rfl, m1, bb, rfl, hb6⟩
  have T1 := Lib.hid (T.out.call m1)
  clear m1 T f0 f1
  cases bb with
  | true =>
    go_wp2_with fail
    go_ret
    exact ⟨rfl, T1.out.mod.to_below⟩
  | false =>
    obtain ⟨k, l, hl, HA, HB⟩ := HN.out (hb6 rfl)
    have HA := Lib.hid HA
    have HB := Lib.hid HB
    clear HN hb6 HBig
    by_cases h20 : 20 < xs.length
    · have h20' : (20 : Int) < (xs.length : Int) := by omega
      go_wp2_with fail
      go_ret
      exact ⟨rfl, T1.out.mod.to_below⟩
    · have h20' : ¬ (20 : Int) < (xs.length : Int) := by omega
      have f1 := fun i => (T1.out.at 0 rfl).cell i
      go_wp2_with fail
      refine (HA.out _ T1.out.mod).mono ?_
      rintro e w2 ⟨va, rfl, m2, pa⟩
      have T2 := Lib.hid (T1.out.call m2)
      clear m2 T1 f1 HA
      have f2 := fun i => (T2.out.at 0 rfl).cell i
      go_wp2_with fail
      refine (HB.out _ T2.out.mod).mono ?_
      rintro e w3 ⟨vb, rfl, m3, pb⟩
      have PA := Lib.hid (pa.mod m3)
      have PB := Lib.hid pb
      have T3 := Lib.hid (T2.out.call m3)
      clear m3 T2 f2 HB pa pb
      go_wp2_with fail
      refine (varied_true _).mono ?_
      rintro e w4 ⟨rfl, m4⟩
      have m4 := Mod.of_below m4
      have PA := Lib.hid (PA.out.mod m4)
      have PB := Lib.hid (PB.out.mod m4)
      have T4 := Lib.hid (T3.out.call m4)
      clear m4 T3
      go_wp2_with fail
      refine (same_yes va vb l hl _ PA.out PB.out).mono ?_
      rintro e w5 ⟨rfl, m5⟩
      have T5 := Lib.hid (T4.out.call m5)
      clear m5 T4
      go_wp2_with fail
      go_ret
      exact ⟨by simp, T5.out.mod.to_below⟩
end Go.Proofs.Ytngeijdfpgmcfaa
