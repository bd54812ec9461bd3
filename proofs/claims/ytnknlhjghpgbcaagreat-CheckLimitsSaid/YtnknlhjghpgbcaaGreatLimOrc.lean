/-
  CheckLimits: what is told of chars that rise, for the evaluator. No condition.
-/
import Derived.Test.YtnknlhjghpgbcaaGreatLimEach
import Derived.Test.YtnknlhjghpgbcaaGreatSymKit
namespace Go.Proofs.YtnknlhjghpgbcaaGreat
open Go.RowKit Ev
set_option linter.unusedVariables false

def isI (n : Nat) (v : Value) : Bool := match v with
  | .int .i64 (.ofNat m) => Nat.beq m n
  | _ => false
theorem isI_eq {n : Nat} {v : Value} (h : isI n v = true) : v = .int .i64 (n : Int) := by
  unfold isI at h
  split at h
  · rw [Nat.eq_of_beq_eq_true h]; rfl
  · cases h
def charsOk : Nat → List Value → Bool
  | _, [] => true
  | _, [_] => false
  | i, a :: b :: l => isI (Nat.succ i) a && (isI 0 b && charsOk (Nat.succ i) l)

theorem charsOk_spec : ∀ (l : List Value) (i : Nat), charsOk i l = true → ∀ k, 2 * k < l.length → l[2 * k]? = some (.int .i64 ((i + k : Nat) + 1 : Int)) ∧ l[2 * k + 1]? = some (.int .i64 0)
  | [], _, _, k, hk => by simp at hk
  | [_], _, h, _, _ => by simp [charsOk] at h
  | a :: b :: l, i, h, k, hk => by
    simp only [charsOk, Bool.and_eq_true] at h
    have h1 := isI_eq h.1
    have h2 := isI_eq h.2.1
    subst h1 h2
    cases k with
    | zero => exact ⟨rfl, rfl⟩
    | succ k =>
      have := charsOk_spec l (i + 1) h.2.2 k (by simp at hk; omega)
      rw [show 2 * (k + 1) = 2 * k + 1 + 1 by omega]
      simp only [List.getElem?_cons_succ]
      rw [show i + (k + 1) = i + 1 + k by omega]
      exact this

/-- What is told of such a call. -/
noncomputable def eachV (args : List Value) (h : AH) : Option Value :=
  match args with
  | [.slice (some ⟨bA, 0, none⟩) N _, .func (.func f) a c] => match a.toList, c.toList with
    | [], [.pointer (some ⟨bF, 0, none⟩)] => match h.get bF, h.row ⟨bA, 0, none⟩ (Nat.mul N 2) with
      | some (.cells t 9 _ false), some l => match t.get 1, t.get 2 with
        | some (.slice _ gl _), some (.slice (some ⟨b2, 0, none⟩) n2 _) => cond (Nat.beq f 26 && Nat.ble 1 gl && Nat.beq b2 bA && Nat.beq n2 N && Nat.ble N 1000000 && Nat.ble 1 N && charsOk 0 l) (some (.tuple #[.int .i64 0, .int .i64 0])) none
        | _, _ => none
      | _, _ => none
    | _, _ => none
  | _ => none

theorem slice_len {V : Val} {σ : Sg} {a : Option Addr} {l c : Nat} {v' : Value} (h : VR σ (.slice a l c) v') : ∃ a' c', v' = .slice a' l c' := by
  cases h <;> exact ⟨_, _, rfl⟩

theorem arr9 {arr : Array Value} (h : arr.size = 9) : ∃ a0 a1 a2 a3 a4 a5 a6 a7 a8, arr = #[a0, a1, a2, a3, a4, a5, a6, a7, a8] := by
  obtain ⟨l⟩ := arr
  match l, h with
  | [a0, a1, a2, a3, a4, a5, a6, a7, a8], _ => exact ⟨a0, a1, a2, a3, a4, a5, a6, a7, a8, rfl⟩

theorem each_sound {V : Val} {args : List Value} {h : AH} {v : Value} (hh : eachV args h = some v) {σ : Sg} {w : World} {args' : Array Value} (hr : HR Tryz.prog σ h w) (ha : RL σ args args'.toList) :
    Calls Tryz.prog 70 args' w fun e w' => ∃ v', e = .returned v' ∧ VR σ v v' ∧ Below w.heap.size w w' := by
  letI : Orc Tryz.prog := noOrc _
  haveI : OrcOk Tryz.prog := noOk _
  unfold eachV at hh
  split at hh
  · rename_i bA N cap f a c
    split at hh
    · rename_i bF ha0 hc0
      split at hh
      · rename_i t el l hgF hrow
        split at hh
        · rename_i ga gl gc b2 n2 c2 ht1 ht2
          obtain ⟨hc, hh⟩ := cond_some hh
          cases hh
          simp only [Bool.and_eq_true] at hc
          obtain ⟨⟨⟨⟨⟨⟨h1, h2⟩, h3⟩, h4⟩, h5⟩, h7⟩, h6⟩ := hc
          have h7 : 1 ≤ N := Nat.le_of_ble_eq_true h7
          have h1 : f = 26 := Nat.eq_of_beq_eq_true h1
          have h2 : 1 ≤ gl := Nat.le_of_ble_eq_true h2
          have h3 : b2 = bA := Nat.eq_of_beq_eq_true h3
          have h4 : n2 = N := Nat.eq_of_beq_eq_true h4
          have h5 : N ≤ 1000000 := Nat.le_of_ble_eq_true h5
          subst h1 h3 h4
          -- the arguments
          generalize hal : args'.toList = al at ha
          cases ha with
          | cons hs t1 =>
            cases t1 with
            | cons hf t2 =>
              cases t2
              obtain ⟨b', o', eA, cd, hbb, hbA, rfl, _⟩ := sl_inv hs
              cases hbb
              cases hf with
              | func hfn hfa hfc =>
                rename_i f' a' c'
                cases hfn with
                | same _ =>
                  rw [ha0] at hfa
                  rw [hc0] at hfc
                  generalize hca : c'.toList = cl at hfc
                  generalize haa : a'.toList = al2 at hfa
                  cases hfa
                  cases hfc with
                  | cons hp tn =>
                    cases tn
                    obtain ⟨b', o', eF, hbb, hbF, rfl⟩ := ptr_inv hp
                    cases hbb
                    have ea : a' = #[] := Array.ext' haa
                    have ec : c' = #[.pointer (some ⟨eF.blk, 0, none⟩)] := Array.ext' hca
                    subst ea ec
                    have ee : args' = #[.slice (some ⟨eA.blk, 0, none⟩) n2 cd, .func (.func 26) #[] #[.pointer (some ⟨eF.blk, 0, none⟩)]] := Array.ext' hal
                    subst ee
                    -- the memory
                    obtain ⟨arr, fz, g1, _, _, g4, _, _, g7⟩ := cells_ok hr hbF hgF
                    have hsz : arr.size = 9 := (g4 rfl).symm
                    obtain ⟨u1, x1, k1, k2, k3⟩ := g7 1 (by omega)
                    obtain ⟨u2, x2, k4, k5, k6⟩ := g7 2 (by omega)
                    rw [ht1] at k1
                    rw [ht2] at k4
                    cases k1
                    cases k4
                    obtain ⟨ga', gc', rfl⟩ := slice_len k3
                    obtain ⟨b', o', eA2, cd2, hbb, hbA2, rfl, _⟩ := sl_inv k6
                    cases hbb
                    rw [hbA] at hbA2
                    cases hbA2
                    obtain ⟨l', r1, r2, r3⟩ := row_ok hr hbA hrow
                    obtain ⟨a0, a1, a2, a3, a4, a5, a6, a7, a8, rfl⟩ := arr9 hsz
                    simp at k2 k5
                    subst k2 k5
                    have hbl : eF.blk < w.heap.size := (Array.getElem?_eq_some_iff.1 g1).1
                    have hAl : eA.blk < w.heap.size := by
                      obtain ⟨_, aa, q1, q2⟩ := hr.live b2 eA hbA
                      rcases q2 with q2 | ⟨o, q2, _⟩
                      · subst q2
                        cases hn : n2 with
                        | zero => omega
                        | succ m => simp [AH.row, hn, q1] at hrow
                      · exact (Array.getElem?_eq_some_iff.1 q2).1
                    refine (each_chars eF.blk eA.blk n2 cd2 cd a0 a3 a4 a5 a6 a7 a8 ga' gl gc' w (by omega) h5 hbl hAl (fun i => ?_) (fun i hi => ?_)).mono ?_
                    · simp [World.cell?, g1]
                    · have h2n : Nat.mul n2 2 = n2 * 2 := rfl
                      have hs := charsOk_spec l 0 h6 i (by rw [r2, h2n]; omega)
                      obtain ⟨y1, z1, z2⟩ := r1.get (2 * i) _ hs.1
                      obtain ⟨y2, z3, z4⟩ := r1.get (2 * i + 1) _ hs.2
                      cases z2
                      cases z4
                      have w1 := r3 (2 * i) _ z1
                      have w2 := r3 (2 * i + 1) _ z3
                      rw [show 0 + 2 * i = 0 + i * 2 by omega] at w1
                      rw [show 0 + (2 * i + 1) = 0 + i * 2 + 1 by omega] at w2
                      exact ⟨by rw [w1]; simp, w2⟩
                    · rintro e w' ⟨rfl, hm⟩
                      exact ⟨_, rfl, .tuple (.cons (.int _ _) (.cons (.int _ _) .nil)), hm.to_below⟩
        · cases hh
      · cases hh
    · cases hh
  · cases hh
end Go.Proofs.YtnknlhjghpgbcaaGreat
