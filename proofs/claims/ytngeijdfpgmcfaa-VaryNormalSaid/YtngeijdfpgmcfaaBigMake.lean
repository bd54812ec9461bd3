/- The reference's Make and Right. -/
import Derived.Test.YtngeijdfpgmcfaaBigTold
namespace Go.Proofs.Ytngeijdfpgmcfaa
open Go.RowKit
set_option maxRecDepth 100000
set_option linter.unusedVariables false

/-- A number as a value. -/
def NumV (z : Int) (v : Value) (w : World) : Prop := NumZ w v z
theorem NumV.stays (z : Int) (v : Value) : Stays (NumV z v) := fun _ _ h m => NumZ.mod h m
theorem NumV.mod {z : Int} {v : Value} {w w' : World} (h : NumV z v w) (m : Mod [] w w') : NumV z v w' := NumZ.mod h m
def IsV (r v : Value) (w : World) : Prop := v = r
theorem IsV.stays (r v : Value) : Stays (IsV r v) := fun _ _ h _ => h
theorem IsV.elim {r v : Value} {w : World} {G : Prop} (h : IsV r v w) (k : v = r → G) : G := k h
theorem dig_i64 {z : Int} (h1 : -9223372036854775808 ≤ z) (h2 : z ≤ 9223372036854775807) : (Big.dig z.natAbs).length ≤ 4 := (Big.len4 _).2 (by omega)
theorem of_v (z : Int) (h1 : -9223372036854775808 ≤ z) (h2 : z ≤ 9223372036854775807) (w : World) : Calls Try.prog 35 #[.int .i64 z] w fun e w' => ∃ v, e = .returned v ∧ NumV z v w' ∧ Mod [] w w' :=
  (of_any z w h1 h2).mono fun e w' h => h.numz
theorem told_v {u v : Value} {x y : Int} {w : World} (hu : NumV x u w) (hv : NumV y v w) (hx : (Big.dig x.natAbs).length ≤ 100) (hy : (Big.dig y.natAbs).length ≤ 100) :
    Calls Try.prog 34 #[u, v] w fun e w' => ∃ r, e = .returned r ∧ IsV (toldV (Rat.told x y)) r w' ∧ Mod [] w w' :=
  (told_num u v x y w hu hv hx hy).mono fun e w' h => ⟨_, h.1, rfl, h.2⟩

set_option maxHeartbeats 1000000 in
theorem makeRef_any (n d : Int) (w : World) (hn : -9223372036854775808 ≤ n ∧ n ≤ 9223372036854775807) (hd : -9223372036854775808 ≤ d ∧ d ≤ 9223372036854775807) :
    Calls Try.prog 20 #[.int .i64 n, .int .i64 d] w fun e w' => e = .returned (toldV (Rat.told n d)) ∧ Mod [] w w' := by
  have T := Lib.hid (own1 w #[.int .i64 0, .int .i64 0] 51)
  have l1 := dig_i64 hn.1 hn.2
  have l2 := dig_i64 hd.1 hd.2
  have H1 := Lib.hid (of_v n hn.1 hn.2)
  have H2 := Lib.hid (of_v d hd.1 hd.2)
  have H3 := Lib.hid (fun W u v (hu : NumV n u W) (hv : NumV d v W) => told_v hu hv (by omega) (by omega))
  clear hn hd l1 l2
  generalize Rat.told n d = r at *
  obtain ⟨ra, rb, rc⟩ := r
  go_enter Try.func20, Try.ntmps20
  go_wp2_with fail
  refine (H1.out _).mono ?_
  rintro e w1 ⟨v1, rfl, h1, m1⟩
  have G1 := Lib.hid (And.intro h1 m1)
  clear h1 m1
  go_wp2_with fail
  refine (H2.out _).mono ?_
  rintro e w2 ⟨v2, rfl, h2, m2⟩
  have G2 := Lib.hid (And.intro h2 m2)
  clear h2 m2
  go_wp2_with fail
  refine (H3.out _ _ _ (G1.out.1.mod G2.out.2) G2.out.1).mono ?_
  rintro e w3 ⟨v3, rfl, h3, m3⟩
  have h3' : v3 = toldV (ra, rb, rc) := h3
  subst h3'
  have T3 := Lib.hid ((((T.out.call G1.out.2).call G2.out.2).call m3).alloc #[.int .i64 ra, .int .i64 rb] 51)
  clear h3 m3 T G1 G2 H1 H2 H3
  unfold toldV
  go_upto_region 2 with fail
  generalize w3.alloc (.cells #[.int .i64 ra, .int .i64 rb] 51) = W4 at *
  generalize w3.heap.size = b4 at *
  obtain ⟨p0, p1, -, -⟩ := (T3.out.at 1 rfl).two
  obtain ⟨q0, q1, z0, z1⟩ := (T3.out.at 0 rfl).two
  go_wp2_with fail
  obtain ⟨r0, r1, M⟩ := told_end T3.out 0 rfl (.int .i64 ra) (.int .i64 rb)
  have HM := Lib.hid M
  clear M p0 p1 z0 z1 q0 q1
  generalize (W4.setCell ⟨w.heap.size, 0, none⟩ (.int .i64 ra)).setCell ⟨w.heap.size, 1, none⟩ (.int .i64 rb) = W12 at *
  exact bodyPost_ret (v := toldV (ra, rb, rc)) (by simp [results, Try.results20, go_sem, toldV, r0, r1]) rfl ⟨rfl, HM.out⟩

theorem right_law {n d : Int} (hn : -9223372036854775808 ≤ n ∧ n ≤ 9223372036854775807) (hd : -9223372036854775808 ≤ d ∧ d ≤ 9223372036854775807) (h0 : ¬ d ≤ 0) (hn0 : ¬ n = -9223372036854775808) :
    ∃ a b, Rat.told n d = (a, b, true) ∧ Rat.rightB n d = ((a == n) && (b == d)) := by
  have hd0 : d ≠ 0 := by omega
  have ht : Rat.told n d = Rat.tell n d := by unfold Rat.told; rw [if_neg hd0]
  have hs : (Rat.tell n d).2.2 = true := Rat.tell_some (by omega) (by omega)
  obtain ⟨⟨a, b, c⟩, he⟩ : ∃ r, Rat.tell n d = r := ⟨_, rfl⟩
  rw [he] at hs
  simp only at hs
  subst hs
  refine ⟨a, b, by rw [ht, he], ?_⟩
  obtain ⟨h1, h2, h3, _, _⟩ := Rat.tell_told hd0 he
  rw [Bool.eq_iff_iff]
  simp only [Bool.and_eq_true, beq_iff_eq]
  constructor
  · intro hr
    have := Rat.tell_of (n := n) (d := d) (N := n) (D := d) hd0 hr rfl (by omega) (by omega)
    rw [he] at this
    simp only [Prod.mk.injEq, and_true] at this
    exact this
  · rintro ⟨rfl, rfl⟩
    exact h1

end Go.Proofs.Ytngeijdfpgmcfaa
