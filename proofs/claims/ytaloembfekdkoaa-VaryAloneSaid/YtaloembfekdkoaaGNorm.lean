/-
  vary: reason; the closure that Normal defers.
  vary: Normal, refused for its arguments' number.
-/
import Derived.Test.YtaloembfekdkoaaVaryFactor

namespace Go.Proofs.Ytaloembfekdkoaa
open Go.RowKit
set_option linter.unusedVariables false
set_option maxRecDepth 20000 in
theorem reason_any (n : Int) (w : World) : Calls Try.prog 23 #[.iface 33 (.int .i64 n)] w fun e w' => e = .returned (.int .i64 n) ∧ w = w' := by
  have hta : ∀ w : World, (Instr.typeAssert (.iface 33 (.int .i64 n)) 20 33 true).run Try.prog w = .ok (.tuple #[.int .i64 n, .bool true]) w := fun w => by kernel_rfl
  go_enter Try.func23, Try.ntmps23
  go_wp2_with fail
  go_ret
  exact ⟨rfl, rfl⟩
theorem nor1_idle (p q : Addr) (w : World) : CallsD Try.prog 22 #[.pointer (some p), .pointer (some q)] .returning w fun e u' w' => e = .returned (.tuple #[]) ∧ u' = .returning ∧ w' = w := by
  refine callsD_of_wpS Try.func22 rfl fun c₀ cs hu => ?_
  apply wpS_seq
  apply wpS_region
  simp [wpOpsS, go_sem, recoverD, hu, Try.ntmps22, Exit.thenS]
  refine wpS_of_wp ?_
  go_wp2_with fail
  cases c₀
  simp_all [bodyPostS, results, Try.results22]
theorem nor1_panic (p q : Nat) (x y : Value) (n : Int) (older : List PanicEntry) (w : World) (hpq : p ≠ q) (B : Blk w p #[x] 49) (C : Blk w q #[y] 33) :
    CallsD Try.prog 22 #[.pointer (some ⟨p, 0, none⟩), .pointer (some ⟨q, 0, none⟩)] (.panicking ({ v := .iface 33 (.int .i64 n), recovered := false } :: older)) w fun e u' w' =>
      e = .returned (.tuple #[]) ∧ u' = .panicking ({ v := .iface 33 (.int .i64 n), recovered := true } :: older) ∧ w' = (w.setCell ⟨p, 0, none⟩ (.slice none 0 0)).setCell ⟨q, 0, none⟩ (.int .i64 n) := by
  have b0 := B.cell 0
  have b1 := B.frozen 0
  have c0 := C.cell 0
  have c1 := C.frozen 0
  simp at b0 c0
  refine callsD_of_wpS Try.func22 rfl fun c₀ cs hu => ?_
  apply wpS_seq
  apply wpS_region
  simp [wpOpsS, go_sem, recoverD, hu, Try.ntmps22, Exit.thenS]
  refine wpS_of_wp ?_
  go_wp2_with fail
  refine (reason_any n _).mono ?_
  rintro e w1 ⟨rfl, rfl⟩
  go_wp2_with fail
  simp [bodyPostS, results, Try.results22]
end Go.Proofs.Ytaloembfekdkoaa

namespace Go.Proofs.Ytaloembfekdkoaa
open Go.RowKit
set_option linter.unusedVariables false
structure Hd where
  a : Option Addr
  n : Nat
  c : Nat
def Hd.v (h : Hd) : Value := .slice h.a h.n h.c
def fontCells (u : Int) (g c l fe ax rg fu cv : Hd) : Array Value := #[.int .i64 u, .slice g.a g.n g.c, .slice c.a c.n c.c, .slice l.a l.n l.c, .slice fe.a fe.n fe.c, .slice ax.a ax.n ax.c, .slice rg.a rg.n rg.c, .slice fu.a fu.n fu.c, .slice cv.a cv.n cv.c]
set_option maxHeartbeats 2000000 in
theorem normal_arg (u : Int) (g c l fe ax rg fu cv : Hd) (pa : Option Addr) (pn pc : Nat) (w : World) (hne : pn ≠ ax.n) :
    Calls Try.prog 9 #[.agg (fontCells u g c l fe ax rg fu cv), .slice pa pn pc] w fun e w' => e = .returned (.tuple #[.slice none 0 0, .int .i64 1]) ∧ Mod [] w w' := by
  have hmf : ∀ (fn : Fn) (first cap : Array Value) (w : World), (Instr.makeFunc fn first cap).run Try.prog w = .ok (.func fn first cap) w := fun _ _ _ _ => rfl
  unfold fontCells
  have T := Lib.hid (own3 w (fontCells u g c l fe ax rg fu cv) 31 #[.slice none 0 0] 49 #[.int .i64 0] 33)
  have k1 : (((pn : Int)) != (ax.n : Int)) = true := by simp; omega
  have k1' : ((pn : Int) == (ax.n : Int)) = false := by simp; omega
  clear hne
  go_enter_defers Try.func9, Try.ntmps9
  go_wp2_with fail
  have T2 := Lib.hid ((T.out.set 1 rfl 0 (.slice none 0 0)).set 2 rfl 0 (.int .i64 1))
  have B1 := T.out.at 1 rfl
  have B2 := T.out.at 2 rfl
  unfold fontCells at T2 B1 B2
  clear T
  generalize ((w.alloc (.cells #[.int .i64 u, .slice g.a g.n g.c, .slice c.a c.n c.c, .slice l.a l.n l.c, .slice fe.a fe.n fe.c, .slice ax.a ax.n ax.c, .slice rg.a rg.n rg.c, .slice fu.a fu.n fu.c, .slice cv.a cv.n cv.c] 31)).alloc (.cells #[.slice none 0 0] 49)).alloc (.cells #[.int .i64 0] 33) = W0 at *
  refine leaves_cons (f := 22) (args := #[.pointer (some ⟨w.heap.size + 1, 0, none⟩), .pointer (some ⟨w.heap.size + 1 + 1, 0, none⟩)]) (by simp) (by simp [go_sem]) ?_
  refine (nor1_panic (w.heap.size + 1) (w.heap.size + 1 + 1) _ _ 1 [] _ (by omega) B1 B2).mono ?_
  rintro e u' w'' ⟨rfl, rfl, rfl⟩
  have r0 := (T2.out.at 1 rfl).cell 0
  have r1 := (T2.out.at 2 rfl).cell 0
  have HM := Lib.hid T2.out.mod
  simp at r0 r1
  clear T2 B1 B2
  generalize (W0.setCell ⟨w.heap.size + 1, 0, none⟩ (.slice none 0 0)).setCell ⟨w.heap.size + 1 + 1, 0, none⟩ (.int .i64 1) = W2 at *
  simp [Leaves, settle, results, Try.results9, go_sem, r0, r1]
  exact HM.out
end Go.Proofs.Ytaloembfekdkoaa
