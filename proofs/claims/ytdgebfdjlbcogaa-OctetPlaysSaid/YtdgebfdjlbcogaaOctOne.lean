/- one: a call of a reader. -/
import Derived.Test.YtdgebfdjlbcogaaOctBack0
namespace Go.Proofs.Ytdgebfdjlbcogaa
open Go.RowKit

namespace Oct
theorem and3 (a : Int) : bits .and .i64 a 3 = a % 4 := by
  unfold bits
  show IntKind.i64.wrap _ = _
  rw [IntKind.wrap_i64]
  show ((((BitVec.ofInt 64 a &&& BitVec.ofInt 64 3).toNat : Nat) : Int) + _) % _ - _ = _
  rw [BitVec.toNat_and, show (BitVec.ofInt 64 3).toNat = 3 from rfl, nat_mask2, BitVec.toNat_ofInt]
  omega
/-- What one tells, and where the reader is behind it. -/
def oneR (s : ByteArray) (p : Nat) (f : Bool) (d n : Int) : Int × ByteArray × Nat × Bool :=
  if d % 4 = 0 then ((numR s p f n).1, ⟨#[]⟩, (numR s p f n).2)
  else if d % 4 = 1 then (sgn (numR s p f n).1 n, ⟨#[]⟩, (numR s p f n).2)
  else if d % 4 = 2 then (0, (textR s p f).1, (textR s p f).2)
  else (0, (takeR s p f n).1, (takeR s p f n).2)
end Oct

set_option maxHeartbeats 1000000 in
theorem one_all (b : Nat) (s : ByteArray) (p : Nat) (f : Bool) (d n : Int) (w : World) (h : Rd w b s p f) :
    Calls Try.prog 28 #[.pointer (some ⟨b, 0, none⟩), .agg #[.int .i64 d, .int .i64 n]] w fun e w' => e = .returned (.tuple #[.int .i64 (Oct.oneR s p f d n).1, .string (Oct.oneR s p f d n).2.1]) ∧ Rd w' b s (Oct.oneR s p f d n).2.2.1 (Oct.oneR s p f d n).2.2.2 ∧ Mod [b] w w' := by
  have h3 := Oct.and3 d
  have M0 := Lib.hid ((Mod.refl [b] w).alloc (.cells #[.int .i64 d, .int .i64 n] 48))
  have H1 := Lib.hid (h.alloc (.cells #[.int .i64 d, .int .i64 n] 48))
  have hcs : d % 4 = 0 ∨ d % 4 = 1 ∨ d % 4 = 2 ∨ d % 4 = 3 := by omega
  rcases hcs with hc | hc | hc | hc
  · have HO : Hid (Oct.oneR s p f d n = ((Oct.numR s p f n).1, ⟨#[]⟩, (Oct.numR s p f n).2)) := by unfold Oct.oneR; rw [if_pos hc]; exact rfl
    rw [hc] at h3
    clear hc
    go_enter Try.func28, Try.ntmps28
    go_wp2_with fail
    refine (num_all b s p f n _ H1.out).mono ?_
    rintro e w1 ⟨rfl, hR, hM⟩
    have HR := Lib.hid hR
    have HM := Lib.hid (M0.out.then hM)
    clear hR hM
    go_wp2_with fail
    go_ret2
    rw [HO.out]
    exact ⟨rfl, HR.out, HM.out⟩
  · have HO : Hid (Oct.oneR s p f d n = (Oct.sgn (Oct.numR s p f n).1 n, ⟨#[]⟩, (Oct.numR s p f n).2)) := by unfold Oct.oneR; rw [if_neg (by omega), if_pos hc]; exact rfl
    rw [hc] at h3
    clear hc
    go_enter Try.func28, Try.ntmps28
    go_wp2_with fail
    refine (int_all b s p f n _ H1.out).mono ?_
    rintro e w1 ⟨rfl, hR, hM⟩
    have HR := Lib.hid hR
    have HM := Lib.hid (M0.out.then hM)
    clear hR hM
    go_wp2_with fail
    go_ret2
    rw [HO.out]
    exact ⟨rfl, HR.out, HM.out⟩
  · have HO : Hid (Oct.oneR s p f d n = (0, (Oct.textR s p f).1, (Oct.textR s p f).2)) := by unfold Oct.oneR; rw [if_neg (by omega), if_neg (by omega), if_pos hc]; exact rfl
    rw [hc] at h3
    clear hc
    go_enter Try.func28, Try.ntmps28
    go_wp2_with fail
    refine (Text_all b s p f _ H1.out).mono ?_
    rintro e w1 ⟨rfl, hR, hM⟩
    have HR := Lib.hid hR
    have HM := Lib.hid (M0.out.then hM)
    clear hR hM
    go_wp2_with fail
    go_ret2
    rw [HO.out]
    exact ⟨rfl, HR.out, HM.out⟩
  · have HO : Hid (Oct.oneR s p f d n = (0, (Oct.takeR s p f n).1, (Oct.takeR s p f n).2)) := by unfold Oct.oneR; rw [if_neg (by omega), if_neg (by omega), if_neg (by omega)]; exact rfl
    rw [hc] at h3
    clear hc
    go_enter Try.func28, Try.ntmps28
    go_wp2_with fail
    refine (Take_all b s p f n _ H1.out).mono ?_
    rintro e w1 ⟨rfl, hR, hM⟩
    have HR := Lib.hid hR
    have HM := Lib.hid (M0.out.then hM)
    clear hR hM
    go_wp2_with fail
    go_ret2
    rw [HO.out]
    exact ⟨rfl, HR.out, HM.out⟩

set_option maxHeartbeats 1000000 in
theorem one_nil (d n : Int) (w : World) :
    Calls Try.prog 28 #[.pointer none, .agg #[.int .i64 d, .int .i64 n]] w fun e w' => e = .returned (.tuple #[.int .i64 0, .string ⟨#[]⟩]) ∧ Mod [] w w' := by
  have h3 := Oct.and3 d
  have M0 := Lib.hid ((Mod.refl [] w).alloc (.cells #[.int .i64 d, .int .i64 n] 48))
  have hcs : d % 4 = 0 ∨ d % 4 = 1 ∨ d % 4 = 2 ∨ d % 4 = 3 := by omega
  rcases hcs with hc | hc | hc | hc
  · rw [hc] at h3
    clear hc
    go_enter Try.func28, Try.ntmps28
    go_wp2_with fail
    refine (num_nil n _).mono ?_
    rintro e w1 ⟨rfl, hM⟩
    go_wp2_with fail
    go_ret2
    exact ⟨rfl, M0.out.then hM⟩
  · rw [hc] at h3
    clear hc
    go_enter Try.func28, Try.ntmps28
    go_wp2_with fail
    refine (int_nil n _).mono ?_
    rintro e w1 ⟨rfl, hM⟩
    go_wp2_with fail
    go_ret2
    exact ⟨rfl, M0.out.then hM⟩
  · rw [hc] at h3
    clear hc
    go_enter Try.func28, Try.ntmps28
    go_wp2_with fail
    refine (Text_nil _).mono ?_
    rintro e w1 ⟨rfl, hM⟩
    go_wp2_with fail
    go_ret2
    exact ⟨rfl, M0.out.then hM⟩
  · rw [hc] at h3
    clear hc
    go_enter Try.func28, Try.ntmps28
    go_wp2_with fail
    refine (Take_nil n _).mono ?_
    rintro e w1 ⟨rfl, hM⟩
    go_wp2_with fail
    go_ret2
    exact ⟨rfl, M0.out.then hM⟩
end Go.Proofs.Ytdgebfdjlbcogaa
