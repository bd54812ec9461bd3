/- The reference's Make and Right. -/
import Derived.Test.YtiigcilmpclclaaBigTold
namespace Go.Proofs.Ytiigcilmpclclaa
open Go.RowKit
set_option linter.unusedVariables false

/-- A number as a value. -/
def NumV (z : Int) (v : Value) (w : World) : Prop := NumZ w v z
theorem NumV.stays (z : Int) (v : Value) : Stays (NumV z v) := fun _ _ h m => NumZ.mod h m
theorem NumV.mod {z : Int} {v : Value} {w w' : World} (h : NumV z v w) (m : Mod [] w w') : NumV z v w' := NumZ.mod h m
def IsV (r v : Value) (w : World) : Prop := v = r
theorem IsV.stays (r v : Value) : Stays (IsV r v) := fun _ _ h _ => h
theorem IsV.elim {r v : Value} {w : World} {G : Prop} (h : IsV r v w) (k : v = r → G) : G := k h
theorem dig_i64 {z : Int} (h1 : -9223372036854775808 ≤ z) (h2 : z ≤ 9223372036854775807) : (Big.dig z.natAbs).length ≤ 4 := (Big.len4 _).2 (by omega)
theorem of_v (z : Int) (h1 : -9223372036854775808 ≤ z) (h2 : z ≤ 9223372036854775807) (w : World) : Calls Try.prog 34 #[.int .i64 z] w fun e w' => ∃ v, e = .returned v ∧ NumV z v w' ∧ Mod [] w w' :=
  (of_any z w h1 h2).mono fun e w' h => h.numz
theorem told_v {u v : Value} {x y : Int} {w : World} (hu : NumV x u w) (hv : NumV y v w) (hx : (Big.dig x.natAbs).length ≤ 100) (hy : (Big.dig y.natAbs).length ≤ 100) :
    Calls Try.prog 33 #[u, v] w fun e w' => ∃ r, e = .returned r ∧ IsV (toldV (Rat.told x y)) r w' ∧ Mod [] w w' :=
  (told_num u v x y w hu hv hx hy).mono fun e w' h => ⟨_, h.1, rfl, h.2⟩

set_option maxHeartbeats 1000000 in
theorem makeRef_any (n d : Int) (w : World) (hn : -9223372036854775808 ≤ n ∧ n ≤ 9223372036854775807) (hd : -9223372036854775808 ≤ d ∧ d ≤ 9223372036854775807) :
    Calls Try.prog 15 #[.int .i64 n, .int .i64 d] w fun e w' => e = .returned (toldV (Rat.told n d)) ∧ Mod [] w w' := by
  have T := Lib.hid (own1 w #[.int .i64 0, .int .i64 0] 24)
  have l1 := dig_i64 hn.1 hn.2
  have l2 := dig_i64 hd.1 hd.2
  have H1 := Lib.hid (of_v n hn.1 hn.2)
  have H2 := Lib.hid (of_v d hd.1 hd.2)
  have H3 := Lib.hid (fun W u v (hu : NumV n u W) (hv : NumV d v W) => told_v hu hv (by omega) (by omega))
  clear hn hd l1 l2
  generalize Rat.told n d = r at *
  obtain ⟨ra, rb, rc⟩ := r
  go_enter Try.func15, Try.ntmps15
  go_wp2_with fail
  refine (H1.out _).mono ?_
  rintro e w1 ⟨v1, rfl, h1, m1⟩
  have G1 := Lib.hid (And.intro h1 m1)
  clear h1 m1
  go_wp2_with fail
  refine (H2.out _).mono ?_
  rintro e w2 ⟨v2, rfl, h2, m2⟩
  have G2 := Lib.hid (And.intro h2 m2)
  clear h2 m2
  go_wp2_with fail
  refine (H3.out _ _ _ (G1.out.1.mod G2.out.2) G2.out.1).mono ?_
  rintro e w3 ⟨v3, rfl, h3, m3⟩
  have h3' : v3 = toldV (ra, rb, rc) := h3
  subst h3'
  have T3 := Lib.hid ((((T.out.call G1.out.2).call G2.out.2).call m3).alloc #[.int .i64 ra, .int .i64 rb] 24)
  clear h3 m3 T G1 G2 H1 H2 H3
  unfold toldV
  go_upto_region 2 with fail
  generalize w3.alloc (.cells #[.int .i64 ra, .int .i64 rb] 24) = W4 at *
  generalize w3.heap.size = b4 at *
  obtain ⟨p0, p1, -, -⟩ := (T3.out.at 1 rfl).two
  obtain ⟨q0, q1, z0, z1⟩ := (T3.out.at 0 rfl).two
  go_wp2_with fail
  obtain ⟨r0, r1, M⟩ := told_end T3.out 0 rfl (.int .i64 ra) (.int .i64 rb)
  have HM := Lib.hid M
  clear M p0 p1 z0 z1 q0 q1
  generalize (W4.setCell ⟨w.heap.size, 0, none⟩ (.int .i64 ra)).setCell ⟨w.heap.size, 1, none⟩ (.int .i64 rb) = W12 at *
  exact bodyPost_ret (v := toldV (ra, rb, rc)) (by simp [results, Try.results15, go_sem, toldV, r0, r1]) rfl ⟨rfl, HM.out⟩

theorem right_law {n d : Int} (hn : -9223372036854775808 ≤ n ∧ n ≤ 9223372036854775807) (hd : -9223372036854775808 ≤ d ∧ d ≤ 9223372036854775807) (h0 : ¬ d ≤ 0) (hn0 : ¬ n = -9223372036854775808) :
    ∃ a b, Rat.told n d = (a, b, true) ∧ Rat.rightB n d = ((a == n) && (b == d)) := by
  have hd0 : d ≠ 0 := by omega
  have ht : Rat.told n d = Rat.tell n d := by unfold Rat.told; rw [if_neg hd0]
  have hs : (Rat.tell n d).2.2 = true := Rat.tell_some (by omega) (by omega)
  obtain ⟨⟨a, b, c⟩, he⟩ : ∃ r, Rat.tell n d = r := ⟨_, rfl⟩
  rw [he] at hs
  simp only at hs
  subst hs
  refine ⟨a, b, by rw [ht, he], ?_⟩
  obtain ⟨h1, h2, h3, _, _⟩ := Rat.tell_told hd0 he
  rw [Bool.eq_iff_iff]
  simp only [Bool.and_eq_true, beq_iff_eq]
  constructor
  · intro hr
    have := Rat.tell_of (n := n) (d := d) (N := n) (D := d) hd0 hr rfl (by omega) (by omega)
    rw [he] at this
    simp only [Prod.mk.injEq, and_true] at this
    exact this
  · rintro ⟨rfl, rfl⟩
    exact h1

set_option maxHeartbeats 1000000 in
theorem rightRef_any (n d : Int) (w : World) (hn : -9223372036854775808 ≤ n ∧ n ≤ 9223372036854775807) (hd : -9223372036854775808 ≤ d ∧ d ≤ 9223372036854775807) :
    Calls Try.prog 46 #[.agg #[.int .i64 n, .int .i64 d]] w fun e w' => e = .returned (.bool (Rat.rightB n d)) ∧ Mod [] w w' := by
  have T := Lib.hid (own1 w #[.int .i64 n, .int .i64 d] 24)
  have l1 := dig_i64 hn.1 hn.2
  have l2 := dig_i64 hd.1 hd.2
  have H1 := Lib.hid (of_v n hn.1 hn.2)
  have H2 := Lib.hid (of_v d hd.1 hd.2)
  have H3 := Lib.hid (fun W u v (hu : NumV n u W) (hv : NumV d v W) => told_v hu hv (by omega) (by omega))
  obtain ⟨p0, p1, -, -⟩ := (T.out.at 0 rfl).two
  have HB := Lib.hid (Rat.rightB_iff n d)
  have HND := Lib.hid (And.intro hn hd)
  clear hn hd l1 l2
  by_cases h0 : d ≤ 0
  · have k0 : decide (d ≤ 0) = true := decide_eq_true h0
    have hr : Rat.rightB n d = false := by rw [Bool.eq_false_iff]; intro h; have := (HB.out.1 h).1; omega
    rw [hr]
    clear h0 HB hr
    go_enter Try.func46, Try.ntmps46
    go_wp2_with fail
    go_ret
    exact ⟨rfl, T.out.mod⟩
  · have k0 : decide (d ≤ 0) = false := decide_eq_false h0
    by_cases hn0 : n = -9223372036854775808
    · have k1 : (n == -9223372036854775808) = true := by simpa using hn0
      have hr : Rat.rightB n d = false := by rw [Bool.eq_false_iff]; intro h; exact (HB.out.1 h).2.1 hn0
      rw [hr]
      clear h0 HB hr hn0
      go_enter Try.func46, Try.ntmps46
      go_wp2_with fail
      go_ret
      exact ⟨rfl, T.out.mod⟩
    · have k1 : (n == -9223372036854775808) = false := by simpa using hn0
      have HR := Lib.hid (right_law HND.out.1 HND.out.2 h0 hn0)
      obtain ⟨ra, rb, hr, hb⟩ := HR.out
      rw [hr] at H3
      rw [hb]
      clear h0 HB hn0 HR hr hb HND
      go_enter Try.func46, Try.ntmps46
      go_upto_region 3 with fail
      clear p0 p1 k0 k1
      generalize w.alloc (.cells #[.int .i64 n, .int .i64 d] 24) = W0 at *
      have A0 := (T.out.at 0 rfl).every
      refine Ch.wp_region_chain [(9, 8), (11, 9)] ?l'1 11 [true, true, false, true, true, false, false, false, false, false, false] [(2, NumV n), (5, NumV d), (6, IsV (.tuple #[.agg #[.int .i64 ra, .int .i64 rb], .bool true])), (7, IsV (.tuple #[.agg #[.int .i64 ra, .int .i64 rb], .bool true])), (8, IsV (.agg #[.int .i64 ra, .int .i64 rb])), (9, IsV (.bool true))] [(10, NewBlk (W0.heap.size) (#[.int .i64 0, .int .i64 0]) 24)] (by kernel_rfl) ?hl1 ?hB1 ?hT1 ?hsl1 ?hAl1 ?hQ1 ?main1
      case hl1 => simp only [Ch.waitsFor, waitFor, List.modify_succ_cons, List.modify_zero_cons]; exact rfl
      case hB1 => kernel_rfl
      case hT1 => simp [IsV.stays, NewBlk.stays, NumV.stays]
      case hsl1 => kernel_rfl
      case hAl1 => (intro i hi; simp only [List.map_cons, List.map_nil, List.mem_cons, List.not_mem_nil, or_false] at hi; rcases hi with rfl <;> (intro o ho; obtain rfl := Option.some.inj ho; first | exact ⟨#[.int .i64 0, .int .i64 0], 24, fun ρ w => by go_simp⟩))
      case hQ1 => (intro _ _ d _ _ h; cases d <;> exact h)
      simp only [pickM]
      refine steady_go (a' := ?_) (by kernel_rfl) ?_ (fun w' hw' K Q hK => ?_) ?_
      rotate_left 2
      · go_wp2_with fail; exact hK _ (Mod.refl _ _)
      rotate_left
      · rfl
      refine steady_go (a' := ?_) (by kernel_rfl) ?_ (fun w' hw' K Q hK => ?_) ?_
      rotate_left 2
      · go_wp2_with fail; exact hK _ (Mod.refl _ _)
      rotate_left
      · rfl
      refine steady_go (a' := ?_) (by kernel_rfl) ?_ (fun w' hw' K Q hK => ?_) ?_
      rotate_left 2
      · go_wp2_with fail; exact hK _ (Mod.refl _ _)
      rotate_left
      · rfl
      refine steady_go (a' := ?_) (by kernel_rfl) ?_ (fun w' hw' K Q hK => ?_) ?_
      rotate_left 2
      · go_wp2_with fail; exact hK _ (Mod.refl _ _)
      rotate_left
      · rfl
      refine steady_done ?_
      refine Ch.chain_go (f := ?_) rfl rfl (fun v => by simp only [Act.put]; (try simp only [List.setIfInBounds_toArray]); (try simp only [List.set_cons_succ, List.set_cons_zero]); exact rfl) (fun w' hw' hF K Q hK => ?_) (fun kv1 => ?_)
      · clear hF
        go_wp2_with fail
        refine (H1.out _).mono ?_
        rintro e w'' ⟨v, rfl, hv, mm⟩
        go_wp2_with fail
        exact hK _ _ mm hv
      refine Ch.chain_go (f := ?_) rfl rfl (fun v => by simp only [Act.put]; (try simp only [List.setIfInBounds_toArray]); (try simp only [List.set_cons_succ, List.set_cons_zero]); exact rfl) (fun w' hw' hF K Q hK => ?_) (fun kv2 => ?_)
      · clear hF
        go_wp2_with fail
        refine (H2.out _).mono ?_
        rintro e w'' ⟨v, rfl, hv, mm⟩
        go_wp2_with fail
        exact hK _ _ mm hv
      refine Ch.chain_go (f := ?_) rfl rfl (fun v => by simp only [Act.put]; (try simp only [List.setIfInBounds_toArray]); (try simp only [List.set_cons_succ, List.set_cons_zero]); exact rfl) (fun w' hw' hF K Q hK => ?_) (fun kv3 => ?_)
      · have hv0 := And.intro hF.1.2 hF.2; clear hF
        go_wp2_with fail
        refine (H3.out _ _ _ hv0.1 hv0.2).mono ?_
        rintro e w'' ⟨v, rfl, hv, mm⟩
        go_wp2_with fail
        exact hK _ _ mm hv
      refine Ch.chain_go (f := ?_) rfl rfl (fun v => by simp only [Act.put]; (try simp only [List.setIfInBounds_toArray]); (try simp only [List.set_cons_succ, List.set_cons_zero]); exact rfl) (fun w' hw' hF K Q hK => ?_) (fun kv4 => ?_)
      · refine IsV.elim (hF.2) (fun he => ?_)
        subst he; clear hF
        go_wp2_with fail
        exact hK _ _ (Mod.refl _ _) rfl
      refine Ch.chain_go (f := ?_) rfl rfl (fun v => by simp only [Act.put]; (try simp only [List.setIfInBounds_toArray]); (try simp only [List.set_cons_succ, List.set_cons_zero]); exact rfl) (fun w' hw' hF K Q hK => ?_) (fun kv5 => ?_)
      · refine IsV.elim (hF.2) (fun he => ?_)
        subst he; clear hF
        go_wp2_with fail
        exact hK _ _ (Mod.refl _ _) rfl
      refine Ch.chain_go (f := ?_) rfl rfl (fun v => by simp only [Act.put]; (try simp only [List.setIfInBounds_toArray]); (try simp only [List.set_cons_succ, List.set_cons_zero]); exact rfl) (fun w' hw' hF K Q hK => ?_) (fun kv6 => ?_)
      · refine IsV.elim (hF.1.2) (fun he => ?_)
        subst he; clear hF
        go_wp2_with fail
        exact hK _ _ (Mod.refl _ _) rfl
      refine Ch.chain_end ?_
      refine Ch.lates_cons rfl rfl (late_alloc ?_) (fun v3 => ?_)
      · intro w'; go_simp
      refine lates_end (fun hD w' hw' hF => ?_)
      simp only [List.drop_succ_cons, List.drop_zero]
      refine NewBlk.elim hF.2 (fun b3 he3 hb3 B3 => ?_)
      refine IsV.elim hF.1.2 (fun he9 => ?_)
      refine IsV.elim hF.1.1.2 (fun he8 => ?_)
      clear hF hD
      subst he3 he9 he8
      obtain ⟨c0, c1, z0, z1⟩ := B3.two
      have T3 := Lib.hid (T.out.new hw' hb3 B3)
      clear B3 T H1 H2 H3 A0
      have T4 := Lib.hid ((T3.out.set 1 rfl 0 (.int .i64 ra)).set 1 rfl 1 (.int .i64 rb))
      go_upto_region 4 with fail
      generalize (w'.setCell ⟨b3, 0, none⟩ (.int .i64 ra)).setCell ⟨b3, 1, none⟩ (.int .i64 rb) = W4 at *
      clear c0 c1 z0 z1 T3 hw' hb3
      obtain ⟨p0, p1, -, -⟩ := (T4.out.at 0 rfl).two
      obtain ⟨q0, q1, -, -⟩ := (T4.out.at 1 rfl).two
      go_wp2_with fail
      all_goals
        go_ret
        have M := T4.out.mod
        clear p0 p1 q0 q1 T4
        exact ⟨by simp_all, M⟩
end Go.Proofs.Ytiigcilmpclclaa
