/- The coder of chapter 25, as the kernel reckons it: chances in a trie. No program here. -/
import Derived.Test.YtjgklacbelggdaaGreatDoorCodPlain
import Derived.Test.YtjgklacbelggdaaGreatDoorEvBase
namespace Go.Proofs.YtjgklacbelggdaaGreatDoor
namespace Cod
open Ev

abbrev Chs := Ev.T Nat
noncomputable def chf (t : Chs) (k : Nat) : Nat := match t.get k with
  | some v => v
  | none => 2048

abbrev Kr := Nat → Nat → List Nat → List Nat

noncomputable def nrmT (f : Nat) : Nat → Nat → List Nat → Kr → List Nat :=
  Nat.rec (motive := fun _ => Nat → Nat → List Nat → Kr → List Nat) (fun lo hi acc K => K lo hi acc)
    (fun _ ih lo hi acc K => cond (Nat.beq (Nat.div lo 16777216) (Nat.div hi 16777216))
      (forceN (Nat.mul (Nat.mod lo 16777216) 256) fun lo' => forceN (Nat.add (Nat.mul (Nat.mod hi 16777216) 256) 255) fun hi' => forceN (Nat.div lo 16777216) fun t => ih lo' hi' (t :: acc) K)
      (K lo hi acc)) f

abbrev Kb := Nat → Nat → Chs → List Nat → List Nat

noncomputable def bitT (k b lo hi p : Nat) (ch : Chs) (acc : List Nat) (K : Kb) : List Nat :=
  forceN (Nat.add lo (Nat.mul (Nat.div (Nat.sub hi lo) 4096) p)) fun m =>
    cond (Nat.beq b 1) (forceN (Nat.add p (Nat.div (Nat.sub 4096 p) 32)) fun q => nrmT 4 lo m acc fun lo hi acc => K lo hi (ch.set k q) acc)
      (forceN (Nat.succ m) fun m => forceN (Nat.sub p (Nat.div p 32)) fun q => nrmT 4 m hi acc fun lo hi acc => K lo hi (ch.set k q) acc)

noncomputable def bitsT (base w : Nat) (n : Nat) : Nat → Nat → Nat → Chs → List Nat → Kb → List Nat :=
  Nat.rec (motive := fun _ => Nat → Nat → Nat → Chs → List Nat → Kb → List Nat) (fun _ lo hi ch acc K => K lo hi ch acc)
    (fun n ih node lo hi ch acc K => forceN (Nat.mod (Nat.div w (Nat.pow 2 n)) 2) fun b => forceN (Nat.add base node) fun k => forceN (chf ch k) fun p => forceN (Nat.add (Nat.mul 2 node) b) fun node' =>
      bitT k b lo hi p ch acc fun lo hi ch acc => ih node' lo hi ch acc K) n

noncomputable def runT (l : List Nat) : Nat → Nat → Nat → Chs → List Nat → List Nat :=
  List.rec (motive := fun _ => Nat → Nat → Nat → Chs → List Nat → List Nat) (fun _ lo _ _ acc => lo :: acc)
    (fun x _ ih a lo hi ch acc => bitsT (Nat.mul (Nat.div a 32) 256) x 8 1 lo hi ch acc fun lo hi ch acc => ih x lo hi ch acc) l

theorem forceN_is {α : Type} (n : Nat) (k : Nat → α) : forceN n k = k n := by cases n <;> rfl

/-- Bytes as numbers, the last one first. -/
def outs (acc : List Nat) : List UInt8 := acc.reverse.map UInt8.ofNat

theorem nrmT_eq (K : Kr) : ∀ (f lo hi : Nat) (ch : Nat → Nat) (acc : List Nat), ∃ r, nrmT f lo hi acc K = K (nrm f ⟨lo, hi, ch⟩).2.low (nrm f ⟨lo, hi, ch⟩).2.high (r ++ acc) ∧ outs r = (nrm f ⟨lo, hi, ch⟩).1 ∧ (nrm f ⟨lo, hi, ch⟩).2.ch = ch
  | 0, lo, hi, ch, acc => ⟨[], rfl, rfl, rfl⟩
  | f + 1, lo, hi, ch, acc => by
    show ∃ r, cond (Nat.beq (Nat.div lo 16777216) (Nat.div hi 16777216)) (forceN (Nat.mul (Nat.mod lo 16777216) 256) fun lo' => forceN (Nat.add (Nat.mul (Nat.mod hi 16777216) 256) 255) fun hi' => forceN (Nat.div lo 16777216) fun t => nrmT f lo' hi' (t :: acc) K)
      (K lo hi acc) = _ ∧ _
    simp only [forceN_is]
    have hs : same ⟨lo, hi, ch⟩ = Nat.beq (Nat.div lo 16777216) (Nat.div hi 16777216) := by
      rw [Bool.eq_iff_iff, Nat.beq_eq]
      simp only [same, decide_eq_true_eq]
      exact Iff.rfl
    unfold nrm
    rw [hs]
    cases hb : Nat.beq (Nat.div lo 16777216) (Nat.div hi 16777216) with
    | true =>
      simp only [cond_true, if_true]
      obtain ⟨r, h1, h2, h3⟩ := nrmT_eq K f (lo % 16777216 * 256) (hi % 16777216 * 256 + 255) ch (lo / 16777216 :: acc)
      refine ⟨r ++ [lo / 16777216], ?_, ?_, h3⟩
      · rw [List.append_assoc]; exact h1
      · show outs (r ++ [lo / 16777216]) = UInt8.ofNat (lo / 16777216) :: (nrm f ⟨lo % 16777216 * 256, hi % 16777216 * 256 + 255, ch⟩).1
        rw [← h2]
        simp [outs]
    | false => exact ⟨[], rfl, rfl, rfl⟩

theorem chf_set (ch : Chs) (k q : Nat) : chf (ch.set k q) = upd (chf ch) k q := by
  funext i
  unfold chf upd
  rw [Ev.T.get_set]
  by_cases h : i = k
  · rw [if_pos h, if_pos h]
  · rw [if_neg h, if_neg h]

theorem bitT_eq (k b lo hi : Nat) (ch : Chs) (acc : List Nat) (K : Kb) : ∃ r, bitT k b lo hi (chf ch k) ch acc K =
      K (nrm 4 (turn ⟨lo, hi, chf ch⟩ k b)).2.low (nrm 4 (turn ⟨lo, hi, chf ch⟩ k b)).2.high (ch.set k (if b = 1 then chf ch k + (4096 - chf ch k) / 32 else chf ch k - chf ch k / 32)) (r ++ acc) ∧
    outs r = (nrm 4 (turn ⟨lo, hi, chf ch⟩ k b)).1 ∧ (nrm 4 (turn ⟨lo, hi, chf ch⟩ k b)).2.ch = chf (ch.set k (if b = 1 then chf ch k + (4096 - chf ch k) / 32 else chf ch k - chf ch k / 32)) := by
  unfold bitT
  simp only [forceN_is]
  rw [chf_set]
  by_cases hb : b = 1
  · have h1 : Nat.beq b 1 = true := by rw [hb]; rfl
    rw [h1]
    simp only [cond_true, turn, if_pos hb]
    obtain ⟨r, h1, h2, h3⟩ := nrmT_eq (fun lo hi acc => K lo hi (ch.set k (chf ch k + (4096 - chf ch k) / 32)) acc) 4 lo (mid ⟨lo, hi, chf ch⟩ k) (upd (chf ch) k (chf ch k + (4096 - chf ch k) / 32)) acc
    exact ⟨r, h1, h2, h3⟩
  · have h1 : Nat.beq b 1 = false := by rw [← Bool.not_eq_true, Nat.beq_eq]; exact hb
    rw [h1]
    simp only [cond_false, turn, if_neg hb]
    obtain ⟨r, h1, h2, h3⟩ := nrmT_eq (fun lo hi acc => K lo hi (ch.set k (chf ch k - chf ch k / 32)) acc) 4 (mid ⟨lo, hi, chf ch⟩ k + 1) hi (upd (chf ch) k (chf ch k - chf ch k / 32)) acc
    exact ⟨r, h1, h2, h3⟩

theorem outs_append (a b : List Nat) : outs (a ++ b) = outs b ++ outs a := by simp [outs]

theorem C.eta (c : C) : c = ⟨c.low, c.high, c.ch⟩ := by cases c; rfl

theorem bitsT_eq (base w : Nat) (K : Kb) (T : C → List UInt8) (hK : ∀ lo hi ch acc, outs (K lo hi ch acc) = outs acc ++ T ⟨lo, hi, chf ch⟩) :
    ∀ (n node lo hi : Nat) (ch : Chs) (acc : List Nat), outs (bitsT base w n node lo hi ch acc K) = outs acc ++ encB base w n node ⟨lo, hi, chf ch⟩ T
  | 0, node, lo, hi, ch, acc => hK lo hi ch acc
  | n + 1, node, lo, hi, ch, acc => by
    show outs (forceN (Nat.mod (Nat.div w (Nat.pow 2 n)) 2) fun b => forceN (Nat.add base node) fun k => forceN (chf ch k) fun p => forceN (Nat.add (Nat.mul 2 node) b) fun node' =>
      bitT k b lo hi p ch acc fun lo hi ch acc => bitsT base w n node' lo hi ch acc K) = _
    simp only [forceN_is]
    obtain ⟨r, h1, h2, h3⟩ := bitT_eq (base + node) (w / 2 ^ n % 2) lo hi ch acc (fun lo hi ch acc => bitsT base w n (2 * node + w / 2 ^ n % 2) lo hi ch acc K)
    refine (congrArg outs h1).trans ?_
    rw [bitsT_eq base w K T hK n, outs_append, h2, ← h3, List.append_assoc, encB]

/-- A number's last byte only is told; so the last entry is four bytes. -/
noncomputable def lastT (l : List Nat) : List UInt8 := match l with
  | lo :: acc => outs acc ++ b4 lo
  | [] => []

theorem bitsT_last (base w : Nat) (K : Kb) (T : C → List UInt8) (hK : ∀ lo hi ch acc, lastT (K lo hi ch acc) = outs acc ++ T ⟨lo, hi, chf ch⟩) :
    ∀ (n node lo hi : Nat) (ch : Chs) (acc : List Nat), lastT (bitsT base w n node lo hi ch acc K) = outs acc ++ encB base w n node ⟨lo, hi, chf ch⟩ T
  | 0, node, lo, hi, ch, acc => hK lo hi ch acc
  | n + 1, node, lo, hi, ch, acc => by
    show lastT (forceN (Nat.mod (Nat.div w (Nat.pow 2 n)) 2) fun b => forceN (Nat.add base node) fun k => forceN (chf ch k) fun p => forceN (Nat.add (Nat.mul 2 node) b) fun node' =>
      bitT k b lo hi p ch acc fun lo hi ch acc => bitsT base w n node' lo hi ch acc K) = _
    simp only [forceN_is]
    obtain ⟨r, h1, h2, h3⟩ := bitT_eq (base + node) (w / 2 ^ n % 2) lo hi ch acc (fun lo hi ch acc => bitsT base w n (2 * node + w / 2 ^ n % 2) lo hi ch acc K)
    refine (congrArg lastT h1).trans ?_
    rw [bitsT_last base w K T hK n, outs_append, h2, ← h3, List.append_assoc, encB]

theorem runT_eq : ∀ (l : List UInt8) (a lo hi : Nat) (ch : Chs) (acc : List Nat), lastT (runT (l.map UInt8.toNat) a lo hi ch acc) = outs acc ++ enc l a ⟨lo, hi, chf ch⟩
  | [], a, lo, hi, ch, acc => rfl
  | x :: l, a, lo, hi, ch, acc => by
    show lastT (bitsT (a / 32 * 256) x.toNat 8 1 lo hi ch acc fun lo hi ch acc => runT (l.map UInt8.toNat) x.toNat lo hi ch acc) = _
    rw [bitsT_last _ _ _ (fun c => enc l x.toNat c) (fun lo hi ch acc => runT_eq l x.toNat lo hi ch acc), enc]

theorem chf_nil : chf .nil = fun _ => 2048 := rfl

/-- What bytes are packed as, if this is what the kernel reckons. -/
theorem packed_is {l : List UInt8} {L R : List Nat} (hl : l.map UInt8.toNat = L) (h : runT L 0 0 4294967295 .nil [] = R) : packed l = b4 l.length ++ lastT R := by
  unfold packed
  rw [← h, ← hl, runT_eq, chf_nil]
  rfl
end Cod
end Go.Proofs.YtjgklacbelggdaaGreatDoor
