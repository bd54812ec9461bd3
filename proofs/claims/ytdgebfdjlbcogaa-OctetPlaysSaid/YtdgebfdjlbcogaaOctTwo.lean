/- two: a call of the reference's reader. -/
import Derived.Test.YtdgebfdjlbcogaaOctOne
import Derived.Test.YtdgebfdjlbcogaaRefRd
namespace Go.Proofs.Ytdgebfdjlbcogaa
open Go.RowKit

set_option maxHeartbeats 1000000 in
theorem two_all (b : Nat) (s : ByteArray) (p : Nat) (f : Bool) (d n : Int) (w : World) (h : Rd w b s p f) :
    Calls Try.prog 29 #[.pointer (some ⟨b, 0, none⟩), .agg #[.int .i64 d, .int .i64 n]] w fun e w' => e = .returned (.tuple #[.int .i64 (Oct.oneR s p f d n).1, .string (Oct.oneR s p f d n).2.1]) ∧ Rd w' b s (Oct.oneR s p f d n).2.2.1 (Oct.oneR s p f d n).2.2.2 ∧ Mod [b] w w' := by
  have h3 := Oct.and3 d
  have M0 := Lib.hid ((Mod.refl [b] w).alloc (.cells #[.int .i64 d, .int .i64 n] 48))
  have H1 := Lib.hid (h.alloc (.cells #[.int .i64 d, .int .i64 n] 48))
  have hcs : d % 4 = 0 ∨ d % 4 = 1 ∨ d % 4 = 2 ∨ d % 4 = 3 := by omega
  rcases hcs with hc | hc | hc | hc
  · have HO : Hid (Oct.oneR s p f d n = ((Oct.numR s p f n).1, ⟨#[]⟩, (Oct.numR s p f n).2)) := by unfold Oct.oneR; rw [if_pos hc]; exact rfl
    rw [hc] at h3
    clear hc
    go_enter Try.func29, Try.ntmps29
    go_wp2_with fail
    refine (rnum_all b s p f n _ H1.out).mono ?_
    rintro e w1 ⟨rfl, hR, hM⟩
    have HR := Lib.hid hR
    have HM := Lib.hid (M0.out.then hM)
    clear hR hM
    go_wp2_with fail
    go_ret2
    rw [HO.out]
    exact ⟨rfl, HR.out, HM.out⟩
  · have HO : Hid (Oct.oneR s p f d n = (Oct.sgn (Oct.numR s p f n).1 n, ⟨#[]⟩, (Oct.numR s p f n).2)) := by unfold Oct.oneR; rw [if_neg (by omega), if_pos hc]; exact rfl
    rw [hc] at h3
    clear hc
    go_enter Try.func29, Try.ntmps29
    go_wp2_with fail
    refine (rint_all b s p f n _ H1.out).mono ?_
    rintro e w1 ⟨rfl, hR, hM⟩
    have HR := Lib.hid hR
    have HM := Lib.hid (M0.out.then hM)
    clear hR hM
    go_wp2_with fail
    go_ret2
    rw [HO.out]
    exact ⟨rfl, HR.out, HM.out⟩
  · have HO : Hid (Oct.oneR s p f d n = (0, (Oct.textR s p f).1, (Oct.textR s p f).2)) := by unfold Oct.oneR; rw [if_neg (by omega), if_neg (by omega), if_pos hc]; exact rfl
    rw [hc] at h3
    clear hc
    go_enter Try.func29, Try.ntmps29
    go_wp2_with fail
    refine (rtextm_all b s p f _ H1.out).mono ?_
    rintro e w1 ⟨rfl, hR, hM⟩
    have HR := Lib.hid hR
    have HM := Lib.hid (M0.out.then hM)
    clear hR hM
    go_wp2_with fail
    go_ret2
    rw [HO.out]
    exact ⟨rfl, HR.out, HM.out⟩
  · have HO : Hid (Oct.oneR s p f d n = (0, (Oct.takeR s p f n).1, (Oct.takeR s p f n).2)) := by unfold Oct.oneR; rw [if_neg (by omega), if_neg (by omega), if_neg (by omega)]; exact rfl
    rw [hc] at h3
    clear hc
    go_enter Try.func29, Try.ntmps29
    go_wp2_with fail
    refine (rtake_all b s p f n _ H1.out).mono ?_
    rintro e w1 ⟨rfl, hR, hM⟩
    have HR := Lib.hid hR
    have HM := Lib.hid (M0.out.then hM)
    clear hR hM
    go_wp2_with fail
    go_ret2
    rw [HO.out]
    exact ⟨rfl, HR.out, HM.out⟩

end Go.Proofs.Ytdgebfdjlbcogaa
