/- The reference's Of, Neg, Plus. -/
import Derived.Test.YtngeijdfpgmcfaaBigWhole
import Derived.Deep.DeepCutAuto
namespace Go.Proofs.Ytngeijdfpgmcfaa
open Go.RowKit
set_option maxRecDepth 100000
set_option linter.unusedVariables false

theorem NumZ.form {w : World} {v : Value} {z : Int} (h : NumZ w v z) : ∃ oa n c, v = .agg #[.bool (decide (z < 0)), .slice oa n c] ∧ Sl w (.slice oa n c) ((Big.dig z.natAbs).map dcell) := by
  obtain ⟨s, rfl, h2⟩ := h
  obtain ⟨oa, c, rfl⟩ := h2.form
  exact ⟨oa, _, c, rfl, h2⟩
theorem whole_dig (b : Bool) (u : Value) (m : Nat) (w : World) (hu : Sl w u ((Big.dig m).map dcell)) (h1 : (Big.dig m).length ≤ 3000) : Calls Try.prog 54 #[.bool b, u] w (NumPost (Big.sgn b m) w) := by
  have := whole_any b u (Big.dig m) w hu h1 (Big.digits_dig m)
  rwa [Big.val_dig] at this
/-- Telling a number out of the result's block. -/
theorem num_ret {w W1 : World} {z : Int} {oa : Option Addr} {n c b : Nat} {base : Nat} (h : Sl W1 (.slice oa n c) ((Big.dig z.natAbs).map dcell)) (hf : Fresh base (.slice oa n c)) (hb : w.heap.size ≤ b) (hbb : b < base) (hm : Mod [] w W1) (x : Value) :
    Sl ((W1.setCell ⟨b, 0, none⟩ x).setCell ⟨b, 1, none⟩ (.slice oa n c)) (.slice oa n c) ((Big.dig z.natAbs).map dcell) ∧ Fresh w.heap.size (.slice oa n c) ∧ Mod [] w ((W1.setCell ⟨b, 0, none⟩ x).setCell ⟨b, 1, none⟩ (.slice oa n c)) :=
  ⟨(h.set hf hbb _).set hf hbb _, hf.le (by omega), (hm.setNew hb _).setNew hb _⟩

set_option maxHeartbeats 1000000 in
theorem neg_any (v : Value) (z : Int) (w : World) (hv : NumZ w v z) (hl : (Big.dig z.natAbs).length ≤ 3000) :
    Calls Try.prog 53 #[v] w (NumPost (-z) w) := by
  obtain ⟨oa, n, c, rfl, hs⟩ := hv.form
  have T := Lib.hid (own2 w #[.bool (decide (z < 0)), .slice oa n c] 99 #[.bool false, .slice none 0 0] 99)
  have hz : Big.sgn (!decide (z < 0)) z.natAbs = -z := by
    by_cases h : z < 0 <;> simp [Big.sgn, h] <;> omega
  have HW := Lib.hid (fun W (m : Mod [] w W) => whole_dig (!decide (z < 0)) _ _ W (hs.mod m) hl)
  rw [hz] at HW
  generalize decide (z < 0) = bz at *
  go_enter Try.func53, Try.ntmps53
  go_wp2_with fail
  refine (HW.out _ T.out.mod).mono ?_
  rintro e w1 ⟨oa', n', c', rfl, h1, h2, m⟩
  have T' := Lib.hid (T.out.call m)
  obtain ⟨r0, r1, z0, z1⟩ := (T'.out.at 1 rfl).two
  have HR := Lib.hid (num_ret h1 h2 (T'.out.ge 1 rfl) (T.out.lt 1 rfl) T'.out.mod (.bool (decide (-z < 0))))
  generalize eb : decide (-z < 0) = bz' at *
  have EB := Lib.hid eb
  clear h1 h2 m hz T eb
  go_wp2_with fail
  exact bodyPost_ret (v := .agg #[.bool bz', .slice oa' n' c']) (by simp [results, Try.results53, go_sem, r0, r1]) rfl ⟨oa', n', c', by rw [EB.out], HR.out⟩

theorem Sl.of_blk {w : World} {b : Nat} {cs : List Value} {t : TypeId} (h : Blk w b cs.toArray t) (n : Nat) (hn : cs.length = n) (cap : Nat) (hc : n ≤ cap) : Sl w (.slice (some ⟨b, 0, none⟩) n cap) cs := by
  subst hn
  refine .inr ⟨b, 0, cap, rfl, h.lt, hc, fun i hi => ?_⟩
  rw [Nat.zero_add, h.cell i]; simp

namespace Big
theorem of_digits (m : Nat) (h : m < 18446744073709551616) : Digits [m % 65536, m / 65536 % 65536, m / 4294967296 % 65536, m / 281474976710656] ∧ val [m % 65536, m / 65536 % 65536, m / 4294967296 % 65536, m / 281474976710656] = m := by
  constructor
  · intro d hd
    simp only [List.mem_cons, List.not_mem_nil, or_false] at hd
    rcases hd with rfl | rfl | rfl | rfl <;> omega
  · simp only [val]; omega
end Big

set_option maxHeartbeats 1000000 in
theorem of_any (z : Int) (w : World) (h1 : -9223372036854775808 ≤ z) (h2 : z ≤ 9223372036854775807) : Calls Try.prog 35 #[.int .i64 z] w (NumPost z w) := by
  have T := Lib.hid (own1 w #[.bool false, .slice none 0 0] 99)
  obtain ⟨m, hm⟩ : ∃ m, m = z.natAbs := ⟨_, rfl⟩
  have hm1 : m < 18446744073709551616 := by omega
  obtain ⟨hd, hval⟩ := Big.of_digits m hm1
  have hsg : Big.sgn (decide (z < 0)) m = z := by rw [hm]; by_cases h : z < 0 <;> simp [Big.sgn, h] <;> omega
  have HW := Lib.hid (fun W u (hu : Sl W u ([m % 65536, m / 65536 % 65536, m / 4294967296 % 65536, m / 281474976710656].map dcell)) => whole_any (decide (z < 0)) u _ W hu (by simp) hd)
  rw [hval, hsg] at HW
  have T2 := Lib.hid (own2 w #[.bool false, .slice none 0 0] 99 #[.int .i64 ((m : Int) % 65536), .int .i64 ((m : Int) / 65536 % 65536), .int .i64 ((m : Int) / 4294967296 % 65536), .int .i64 ((m : Int) / 281474976710656)] 3)
  have hcs : [Value.int .i64 ((m : Int) % 65536), .int .i64 ((m : Int) / 65536 % 65536), .int .i64 ((m : Int) / 4294967296 % 65536), .int .i64 ((m : Int) / 281474976710656)] = [m % 65536, m / 65536 % 65536, m / 4294967296 % 65536, m / 281474976710656].map dcell := by simp [dcell]
  have HSL := Lib.hid (Sl.of_blk (cs := [Value.int .i64 ((m : Int) % 65536), .int .i64 ((m : Int) / 65536 % 65536), .int .i64 ((m : Int) / 4294967296 % 65536), .int .i64 ((m : Int) / 281474976710656)]) (T2.out.at 1 rfl) 4 rfl 4 (by omega))
  rw [hcs] at HSL
  have hw1 : z < 0 → IntKind.u64.wrap (-IntKind.u64.wrap z) = (m : Int) := fun h => by rw [IntKind.wrap_u64, IntKind.wrap_u64]; omega
  have hw2 : ¬ z < 0 → IntKind.u64.wrap z = (m : Int) := fun h => by rw [IntKind.wrap_u64]; omega
  clear hd hval hsg hm hcs
  by_cases hneg : z < 0
  · have hw := hw1 hneg
    have d1 : decide (z < 0) = true := by simpa using hneg
    rw [d1] at HW
    clear hw1 hw2
    go_enter Try.func35, Try.ntmps35
    go_wp2_with fail
    refine (HW.out _ _ HSL.out).mono ?_
    rintro e w1 ⟨oa', n', c', rfl, k1, k2, mm⟩
    have T' := Lib.hid (T2.out.call mm)
    obtain ⟨r0, r1, z0, z1⟩ := (T'.out.at 0 rfl).two
    have HR := Lib.hid (num_ret k1 k2 (T'.out.ge 0 rfl) (T2.out.lt 0 rfl) T'.out.mod (.bool (decide (z < 0))))
    rw [d1] at HR
    clear k1 k2 mm
    go_wp2_with fail
    exact bodyPost_ret (v := .agg #[.bool true, .slice oa' n' c']) (by simp [results, Try.results35, go_sem, r0, r1]) rfl ⟨oa', n', c', by rw [d1], HR.out⟩
  · have hw := hw2 hneg
    have d1 : decide (z < 0) = false := by simpa using hneg
    rw [d1] at HW
    clear hw1 hw2
    go_enter Try.func35, Try.ntmps35
    go_wp2_with fail
    refine (HW.out _ _ HSL.out).mono ?_
    rintro e w1 ⟨oa', n', c', rfl, k1, k2, mm⟩
    have T' := Lib.hid (T2.out.call mm)
    obtain ⟨r0, r1, z0, z1⟩ := (T'.out.at 0 rfl).two
    have HR := Lib.hid (num_ret k1 k2 (T'.out.ge 0 rfl) (T2.out.lt 0 rfl) T'.out.mod (.bool (decide (z < 0))))
    rw [d1] at HR
    clear k1 k2 mm
    go_wp2_with fail
    exact bodyPost_ret (v := .agg #[.bool false, .slice oa' n' c']) (by simp [results, Try.results35, go_sem, r0, r1]) rfl ⟨oa', n', c', by rw [d1], HR.out⟩
end Go.Proofs.Ytngeijdfpgmcfaa
