/- ratio.sum. -/
import Derived.Test.YtngeijdfpgmcfaaRatBase
import Derived.Deep.RegionHeld3
namespace Go.Proofs.Ytngeijdfpgmcfaa
open Go.RowKit

theorem minus_mi (h l h' l' : Nat) (w : World) :
    Calls Try.prog 66 #[.agg #[.int .u64 h, .int .u64 l], .agg #[.int .u64 h', .int .u64 l']] w fun e w' => e = .returned (.agg #[.int .u64 ((Rat.mi h l h' l').1 : Int), .int .u64 ((Rat.mi h l h' l').2 : Int)]) ∧ Mod [] w w' := minus_any h l h' l' w
theorem plus_pl (h l h' l' : Nat) (w : World) (hl : l < 18446744073709551616) (hl' : l' < 18446744073709551616) :
    Calls Try.prog 64 #[.agg #[.int .u64 h, .int .u64 l], .agg #[.int .u64 h', .int .u64 l']] w fun e w' => e = .returned (.agg #[.int .u64 ((Rat.pl h l h' l').1 : Int), .int .u64 ((Rat.pl h l h' l').2 : Int)]) ∧ Mod [] w w' := plus_any h l h' l' w hl hl'

theorem sum_start (w : World) (h l : Nat) (m : Bool) (h' l' : Nat) (m' : Bool) : ∃ W : World, ((w.alloc (.cells #[.int .u64 h, .int .u64 l, .bool m] 125)).alloc (.cells #[.int .u64 h', .int .u64 l', .bool m'] 125)).alloc (.cells #[.int .u64 0, .int .u64 0, .bool false] 125) = W ∧ Mod [] w W ∧
    Blk W w.heap.size #[.int .u64 h, .int .u64 l, .bool m] 125 ∧ Blk W (w.heap.size + 1) #[.int .u64 h', .int .u64 l', .bool m'] 125 ∧ Blk W (w.heap.size + 1 + 1) #[.int .u64 0, .int .u64 0, .bool false] 125 := by
  refine ⟨_, rfl, (((Mod.refl [] w).alloc _).alloc _).alloc _, ((Blk.new w _ _).alloc _).alloc _, ?_, ?_⟩
  · have := (Blk.new (w.alloc (.cells #[.int .u64 h, .int .u64 l, .bool m] 125)) #[.int .u64 h', .int .u64 l', .bool m'] 125).alloc (.cells #[.int .u64 0, .int .u64 0, .bool false] 125)
    simpa using this
  · have := Blk.new ((w.alloc (.cells #[.int .u64 h, .int .u64 l, .bool m] 125)).alloc (.cells #[.int .u64 h', .int .u64 l', .bool m'] 125)) #[.int .u64 0, .int .u64 0, .bool false] 125
    simpa using this

set_option maxHeartbeats 2000000 in
theorem sum_any (h l : Nat) (m : Bool) (h' l' : Nat) (m' : Bool) (w : World) (hl : l < 18446744073709551616) (hl' : l' < 18446744073709551616) :
    Calls Try.prog 45 #[.agg #[.int .u64 h, .int .u64 l, .bool m], .agg #[.int .u64 h', .int .u64 l', .bool m']] w fun e w' =>
      e = .returned (.agg #[.int .u64 (((Rat.sumW h l m h' l' m').1.1 : Nat) : Int), .int .u64 (((Rat.sumW h l m h' l' m').1.2 : Nat) : Int), .bool (Rat.sumW h l m h' l' m').2]) ∧ Mod [] w w' := by
  by_cases hm : m = m'
  · subst hm
    have HS := Lib.hid (show Rat.sumW h l m h' l' m = (Rat.pl h l h' l', m) by unfold Rat.sumW; rw [if_pos rfl])
    have hmm : (m == m) = true := by cases m <;> rfl
    obtain ⟨W, eW, M0, ba, bb, br⟩ := sum_start w h l m h' l' m
    have EW := Lib.hid eW
    have BA := Lib.hid ba
    have BB := Lib.hid bb
    have BR := Lib.hid br
    have HM := Lib.hid M0
    have hsz := M0.size
    clear eW ba bb br M0
    go_enter Try.func45, Try.ntmps45
    go_wp2_with fail
    rw [EW.out]
    generalize hn0 : w.heap.size = n0 at *
    have HN0 := Lib.hid hn0
    clear hn0
    obtain ⟨a0, a1, a2, -, -, -⟩ := BA.out.three
    obtain ⟨b0, b1, -, -, -, -⟩ := BB.out.three
    go_region_held3 (fun w' => w'.cell? ⟨n0, 0, none⟩ = some (.int .u64 h) ∧ w'.cell? ⟨n0, 1, none⟩ = some (.int .u64 l) ∧ w'.cell? ⟨n0, 2, none⟩ = some (.bool m) ∧ w'.cell? ⟨n0 + 1, 0, none⟩ = some (.int .u64 h') ∧ w'.cell? ⟨n0 + 1, 1, none⟩ = some (.int .u64 l')) (first | exact ⟨BA.out.cell 0, BA.out.cell 1, BA.out.cell 2, BB.out.cell 0, BB.out.cell 1⟩ | exact ⟨(BA.out.drew.kept m1 (by simp)).cell 0, (BA.out.drew.kept m1 (by simp)).cell 1, (BA.out.drew.kept m1 (by simp)).cell 2, (BB.out.drew.kept m1 (by simp)).cell 0, (BB.out.drew.kept m1 (by simp)).cell 1⟩ | exact ⟨((((BA.out.drew.kept m1 (by simp)).other (by simp; try omega) _).other (by simp; try omega) _).other (by simp; try omega) _).cell 0, ((((BA.out.drew.kept m1 (by simp)).other (by simp; try omega) _).other (by simp; try omega) _).other (by simp; try omega) _).cell 1, ((((BA.out.drew.kept m1 (by simp)).other (by simp; try omega) _).other (by simp; try omega) _).other (by simp; try omega) _).cell 2, ((((BB.out.drew.kept m1 (by simp)).other (by simp; try omega) _).other (by simp; try omega) _).other (by simp; try omega) _).cell 0, ((((BB.out.drew.kept m1 (by simp)).other (by simp; try omega) _).other (by simp; try omega) _).other (by simp; try omega) _).cell 1⟩) (first | (go_at_call 64; refine (plus_pl h l h' l' _ hl hl').mono ?_; rintro e w1 ⟨rfl, m1⟩; obtain ⟨r0, r1, r2, z0, z1, z2⟩ := (BR.out.drew.kept m1 (by simp)).three))
    have MM : Mod [] w w1 := HM.out.drew.then m1
    go_wp2_with fail
    refine bodyPost_ret (v := .agg #[.int .u64 (((Rat.sumW h l m h' l' m).1.1 : Nat) : Int), .int .u64 (((Rat.sumW h l m h' l' m).1.2 : Nat) : Int), .bool (Rat.sumW h l m h' l' m).2]) ?_ rfl ⟨rfl, ?_⟩
    · rw [HS.out]
      simp [results, Try.results45, go_sem, r0, r1, r2]
    · have hle : w.heap.size ≤ n0 + 1 + 1 := by have := HN0.out; omega
      exact ((MM.setNew hle _).setNew hle _).setNew hle _
  · have hmm : (m == m') = false := by simpa using hm
    have HSW : Hid (Rat.sumW h l m h' l' m' = if lt2 h l h' l' then (Rat.mi h' l' h l, m') else (Rat.mi h l h' l', m)) := by unfold Rat.sumW; rw [if_neg hm]; exact rfl
    clear hm
    obtain ⟨W, eW, M0, ba, bb, br⟩ := sum_start w h l m h' l' m'
    have EW := Lib.hid eW
    have BA := Lib.hid ba
    have BB := Lib.hid bb
    have BR := Lib.hid br
    have HM := Lib.hid M0
    have hsz := M0.size
    clear eW ba bb br M0
    go_enter Try.func45, Try.ntmps45
    go_wp2_with fail
    rw [EW.out]
    generalize hn0 : w.heap.size = n0 at *
    have HN0 := Lib.hid hn0
    clear hn0
    have HLess := Lib.hid (less_any h l h' l' W)
    obtain ⟨a0, a1, a2, za0, za1, za2⟩ := BA.out.three
    obtain ⟨b0, b1, b2, zb0, zb1, zb2⟩ := BB.out.three
    go_wp2_with fail
    refine HLess.out.mono ?_
    rintro e w0 ⟨rfl, m0⟩
    have BA0 := Lib.hid (BA.out.kept m0 (by simp))
    have BB0 := Lib.hid (BB.out.kept m0 (by simp))
    have BR0 := Lib.hid (BR.out.kept m0 (by simp))
    have HM0 := Lib.hid (HM.out.then m0)
    clear a0 a1 a2 za0 za1 za2 b0 b1 b2 zb0 zb1 zb2 m0 BA BB BR HM HLess
    cases hlt : lt2 h l h' l' with
    | true =>
      have HS : Hid (Rat.sumW h l m h' l' m' = (Rat.mi h' l' h l, m')) := by rw [HSW.out, hlt]; exact rfl
      clear hlt HSW
      obtain ⟨a0, a1, a2, za0, za1, za2⟩ := BA0.out.three
      obtain ⟨b0, b1, b2, zb0, zb1, zb2⟩ := BB0.out.three
      go_wp2_with fail
      have BA : Hid (Blk ((((((w0.setCell ⟨n0, 0, none⟩ (.int .u64 h')).setCell ⟨n0, 1, none⟩ (.int .u64 l')).setCell ⟨n0, 2, none⟩ (.bool m')).setCell ⟨n0 + 1, 0, none⟩ (.int .u64 h)).setCell ⟨n0 + 1, 1, none⟩ (.int .u64 l)).setCell ⟨n0 + 1, 2, none⟩ (.bool m)) n0 #[.int .u64 h', .int .u64 l', .bool m'] 125) :=
        ((((((BA0.out.set 0 _).set 1 _).set 2 _).other (by simp) _).other (by simp) _).other (by simp) _)
      have BB : Hid (Blk ((((((w0.setCell ⟨n0, 0, none⟩ (.int .u64 h')).setCell ⟨n0, 1, none⟩ (.int .u64 l')).setCell ⟨n0, 2, none⟩ (.bool m')).setCell ⟨n0 + 1, 0, none⟩ (.int .u64 h)).setCell ⟨n0 + 1, 1, none⟩ (.int .u64 l)).setCell ⟨n0 + 1, 2, none⟩ (.bool m)) (n0 + 1) #[.int .u64 h, .int .u64 l, .bool m] 125) :=
        ((((((BB0.out.other (by simp) _).other (by simp) _).other (by simp) _).set 0 _).set 1 _).set 2 _)
      have BR : Hid (Blk ((((((w0.setCell ⟨n0, 0, none⟩ (.int .u64 h')).setCell ⟨n0, 1, none⟩ (.int .u64 l')).setCell ⟨n0, 2, none⟩ (.bool m')).setCell ⟨n0 + 1, 0, none⟩ (.int .u64 h)).setCell ⟨n0 + 1, 1, none⟩ (.int .u64 l)).setCell ⟨n0 + 1, 2, none⟩ (.bool m)) (n0 + 1 + 1) #[.int .u64 0, .int .u64 0, .bool false] 125) :=
        ((((((BR0.out.other (by simp; try omega) _).other (by simp; try omega) _).other (by simp; try omega) _).other (by simp) _).other (by simp) _).other (by simp) _)
      have hle0 : w.heap.size ≤ n0 := by have := HN0.out; omega
      have hle1 : w.heap.size ≤ n0 + 1 := by omega
      have HM : Hid (Mod [] w ((((((w0.setCell ⟨n0, 0, none⟩ (.int .u64 h')).setCell ⟨n0, 1, none⟩ (.int .u64 l')).setCell ⟨n0, 2, none⟩ (.bool m')).setCell ⟨n0 + 1, 0, none⟩ (.int .u64 h)).setCell ⟨n0 + 1, 1, none⟩ (.int .u64 l)).setCell ⟨n0 + 1, 2, none⟩ (.bool m))) := (((((HM0.out.setNew hle0 _).setNew hle0 _).setNew hle0 _).setNew hle1 _).setNew hle1 _).setNew hle1 _
      clear a0 a1 a2 za0 za1 za2 b0 b1 b2 zb0 zb1 zb2 BA0 BB0 BR0 HM0
      generalize (((((w0.setCell ⟨n0, 0, none⟩ (.int .u64 h')).setCell ⟨n0, 1, none⟩ (.int .u64 l')).setCell ⟨n0, 2, none⟩ (.bool m')).setCell ⟨n0 + 1, 0, none⟩ (.int .u64 h)).setCell ⟨n0 + 1, 1, none⟩ (.int .u64 l)).setCell ⟨n0 + 1, 2, none⟩ (.bool m) = W1 at *
      obtain ⟨a0, a1, a2, -, -, -⟩ := BA.out.three
      obtain ⟨b0, b1, -, -, -, -⟩ := BB.out.three
      go_region_held3 (fun w' => w'.cell? ⟨n0, 0, none⟩ = some (.int .u64 h') ∧ w'.cell? ⟨n0, 1, none⟩ = some (.int .u64 l') ∧ w'.cell? ⟨n0, 2, none⟩ = some (.bool m') ∧ w'.cell? ⟨n0 + 1, 0, none⟩ = some (.int .u64 h) ∧ w'.cell? ⟨n0 + 1, 1, none⟩ = some (.int .u64 l)) (first | exact ⟨BA.out.cell 0, BA.out.cell 1, BA.out.cell 2, BB.out.cell 0, BB.out.cell 1⟩ | exact ⟨(BA.out.drew.kept m1 (by simp)).cell 0, (BA.out.drew.kept m1 (by simp)).cell 1, (BA.out.drew.kept m1 (by simp)).cell 2, (BB.out.drew.kept m1 (by simp)).cell 0, (BB.out.drew.kept m1 (by simp)).cell 1⟩ | exact ⟨((((BA.out.drew.kept m1 (by simp)).other (by simp; try omega) _).other (by simp; try omega) _).other (by simp; try omega) _).cell 0, ((((BA.out.drew.kept m1 (by simp)).other (by simp; try omega) _).other (by simp; try omega) _).other (by simp; try omega) _).cell 1, ((((BA.out.drew.kept m1 (by simp)).other (by simp; try omega) _).other (by simp; try omega) _).other (by simp; try omega) _).cell 2, ((((BB.out.drew.kept m1 (by simp)).other (by simp; try omega) _).other (by simp; try omega) _).other (by simp; try omega) _).cell 0, ((((BB.out.drew.kept m1 (by simp)).other (by simp; try omega) _).other (by simp; try omega) _).other (by simp; try omega) _).cell 1⟩) (first | (go_at_call 66; refine (minus_mi h' l' h l _).mono ?_; rintro e w1 ⟨rfl, m1⟩; obtain ⟨r0, r1, r2, z0, z1, z2⟩ := (BR.out.drew.kept m1 (by simp)).three))
      have MM : Mod [] w w1 := HM.out.drew.then m1
      go_wp2_with fail
      refine bodyPost_ret (v := .agg #[.int .u64 (((Rat.sumW h l m h' l' m').1.1 : Nat) : Int), .int .u64 (((Rat.sumW h l m h' l' m').1.2 : Nat) : Int), .bool (Rat.sumW h l m h' l' m').2]) ?_ rfl ⟨rfl, ?_⟩
      · rw [HS.out]
        simp [results, Try.results45, go_sem, r0, r1, r2]
      · have hle : w.heap.size ≤ n0 + 1 + 1 := by have := HN0.out; omega
        exact ((MM.setNew hle _).setNew hle _).setNew hle _
    | false =>
      have HS : Hid (Rat.sumW h l m h' l' m' = (Rat.mi h l h' l', m)) := by rw [HSW.out, hlt]; exact rfl
      clear hlt HSW
      have BA := BA0
      have BB := BB0
      have BR := BR0
      have HM := HM0
      clear BA0 BB0 BR0 HM0
      go_wp2_with fail
      obtain ⟨a0, a1, a2, -, -, -⟩ := BA.out.three
      obtain ⟨b0, b1, -, -, -, -⟩ := BB.out.three
      go_region_held3 (fun w' => w'.cell? ⟨n0, 0, none⟩ = some (.int .u64 h) ∧ w'.cell? ⟨n0, 1, none⟩ = some (.int .u64 l) ∧ w'.cell? ⟨n0, 2, none⟩ = some (.bool m) ∧ w'.cell? ⟨n0 + 1, 0, none⟩ = some (.int .u64 h') ∧ w'.cell? ⟨n0 + 1, 1, none⟩ = some (.int .u64 l')) (first | exact ⟨BA.out.cell 0, BA.out.cell 1, BA.out.cell 2, BB.out.cell 0, BB.out.cell 1⟩ | exact ⟨(BA.out.drew.kept m1 (by simp)).cell 0, (BA.out.drew.kept m1 (by simp)).cell 1, (BA.out.drew.kept m1 (by simp)).cell 2, (BB.out.drew.kept m1 (by simp)).cell 0, (BB.out.drew.kept m1 (by simp)).cell 1⟩ | exact ⟨((((BA.out.drew.kept m1 (by simp)).other (by simp; try omega) _).other (by simp; try omega) _).other (by simp; try omega) _).cell 0, ((((BA.out.drew.kept m1 (by simp)).other (by simp; try omega) _).other (by simp; try omega) _).other (by simp; try omega) _).cell 1, ((((BA.out.drew.kept m1 (by simp)).other (by simp; try omega) _).other (by simp; try omega) _).other (by simp; try omega) _).cell 2, ((((BB.out.drew.kept m1 (by simp)).other (by simp; try omega) _).other (by simp; try omega) _).other (by simp; try omega) _).cell 0, ((((BB.out.drew.kept m1 (by simp)).other (by simp; try omega) _).other (by simp; try omega) _).other (by simp; try omega) _).cell 1⟩) (first | (go_at_call 66; refine (minus_mi h l h' l' _).mono ?_; rintro e w1 ⟨rfl, m1⟩; obtain ⟨r0, r1, r2, z0, z1, z2⟩ := (BR.out.drew.kept m1 (by simp)).three))
      have MM : Mod [] w w1 := HM.out.drew.then m1
      go_wp2_with fail
      refine bodyPost_ret (v := .agg #[.int .u64 (((Rat.sumW h l m h' l' m').1.1 : Nat) : Int), .int .u64 (((Rat.sumW h l m h' l' m').1.2 : Nat) : Int), .bool (Rat.sumW h l m h' l' m').2]) ?_ rfl ⟨rfl, ?_⟩
      · rw [HS.out]
        simp [results, Try.results45, go_sem, r0, r1, r2]
      · have hle : w.heap.size ≤ n0 + 1 + 1 := by have := HN0.out; omega
        exact ((MM.setNew hle _).setNew hle _).setNew hle _
end Go.Proofs.Ytngeijdfpgmcfaa
