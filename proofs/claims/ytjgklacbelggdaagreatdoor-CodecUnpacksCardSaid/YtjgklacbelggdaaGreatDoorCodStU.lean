/- What Unpack has the coder do. -/
import Derived.Test.YtjgklacbelggdaaGreatDoorCodStep
import Derived.Test.YtjgklacbelggdaaGreatDoorOctRd3
namespace Go.Proofs.YtjgklacbelggdaaGreatDoor
open Go.RowKit
set_option linter.unusedVariables false

theorem Blk.at {w : World} {b : Nat} {cs : Array Value} {t : TypeId} (h : Blk w b cs t) : b < w.heap.size := by
  unfold Blk at h
  exact (Array.getElem?_eq_some_iff.1 h).1

namespace Cod
abbrev vbU (fb : Nat) : Value := .func (.func 35) #[] #[.pointer (some ⟨fb, 0, none⟩)]
abbrev vdU (fb qb : Nat) : Value := .func (.func 36) #[] #[.pointer (some ⟨fb, 0, none⟩), .pointer (some ⟨qb, 0, none⟩)]
/-- Memory where Unpack reads: the coder, what is found, the reader. -/
structure StU (W : World) (ml : List Nat) (cb fb qb rb : Nat) (S : ByteArray) (c : C) (r : R) (w : World) : Prop where
  mod : Mod ml W w
  blk : Blk w cb (cc c.low c.high c.ch (vbU fb) (vdU fb qb)) 65
  fnd : Blk w fb #[.int .u32 r.found] 33
  ptr : Blk w qb #[.pointer (some ⟨rb, 0, none⟩)] 72
  rd : ∃ p, Rd w rb S p r.failed ∧ r.rest = if r.failed = true then [] else S.data.toList.drop p
  ge : (cb < W.heap.size → cb ∈ ml) ∧ (fb < W.heap.size → fb ∈ ml) ∧ (rb < W.heap.size → rb ∈ ml)
  ne : rb ≠ cb ∧ rb ≠ fb ∧ rb ≠ qb
  lt : r.found < 4294967296

variable {W : World} {ml : List Nat} {cb fb qb rb : Nat} {S : ByteArray}
theorem StU.stays {c : C} {r : R} {w w' : World} (h : StU W ml cb fb qb rb S c r w) (m : Mod [] w w') : StU W ml cb fb qb rb S c r w' := by
  obtain ⟨p, h1, h2⟩ := h.rd
  exact ⟨h.mod.trans m (by simp), h.blk.kept m (by simp), h.fnd.kept m (by simp), h.ptr.kept m (by simp), ⟨p, h1.kept m (by simp), h2⟩, h.ge, h.ne, h.lt⟩
theorem StU.put {c c' : C} {r : R} {w : World} (h : StU W ml cb fb qb rb S c r w) (i : Nat) (v : Value) (hc : (cc c.low c.high c.ch (vbU fb) (vdU fb qb)).setIfInBounds i v = cc c'.low c'.high c'.ch (vbU fb) (vdU fb qb)) :
    StU W ml cb fb qb rb S c' r (w.setCell ⟨cb, i, none⟩ v) := by
  obtain ⟨p, h1, h2⟩ := h.rd
  refine ⟨h.mod.setCell (p := ⟨cb, i, none⟩) h.ge.1 v, ?_, h.fnd.other (Blk.ne h.blk h.fnd (by decide)) v, h.ptr.other (Blk.ne h.blk h.ptr (by decide)) v, ⟨p, h1.other v (Ne.symm h.ne.1), h2⟩, h.ge, h.ne, h.lt⟩
  rw [← hc]; exact h.blk.set i v
/-- Another number is found. -/
theorem StU.find {c : C} {r : R} {w : World} (h : StU W ml cb fb qb rb S c r w) (n : Nat) (hn : n < 4294967296) :
    StU W ml cb fb qb rb S c ⟨n, r.rest, r.failed⟩ (w.setCell ⟨fb, 0, none⟩ (.int .u32 n)) := by
  obtain ⟨p, h1, h2⟩ := h.rd
  exact ⟨h.mod.setCell (p := ⟨fb, 0, none⟩) h.ge.2.1 _, h.blk.other (Blk.ne h.fnd h.blk (by decide)) _, h.fnd.set 0 _, h.ptr.other (Blk.ne h.fnd h.ptr (by decide)) _, ⟨p, h1.other _ (Ne.symm h.ne.2.1), h2⟩, h.ge, h.ne, hn⟩

/-- A byte is read. -/
def adv (r : R) : R := match r.rest with
  | [] => ⟨r.found, [], true⟩
  | _ :: t => ⟨r.found, t, r.failed⟩
def got (r : R) : Nat := match r.rest with
  | [] => 0
  | b :: _ => b.toNat
theorem got_lt (r : R) : got r < 256 := by
  unfold got
  split
  · omega
  · exact UInt8.toNat_lt _
theorem up_done (r : R) (t : Nat) : up.done r t = ⟨r.found * 256 % 4294967296 + got r, (adv r).rest, (adv r).failed⟩ := by
  obtain ⟨f, l, b⟩ := r
  cases l <;> rfl
theorem num_one (S : ByteArray) (p : Nat) (h : p < S.size) : Oct.num (S.extract p (p + 1)) = (S[p].toNat : Int) := by
  rw [Oct.num_be _ (by rw [ByteArray.size_extract]; omega)]
  have : (S.extract p (p + 1)).data.toList = [S[p]] := by
    rw [ByteArray.data_extract]
    apply List.ext_getElem
    · simp; omega
    · intro i h1 h2
      have hi : i = 0 := by simpa using h2
      subst hi
      simp
      rfl
  rw [this]
  simp [Oct.be]
theorem StU.num {c : C} {r : R} {w : World} (h : StU W ml cb fb qb rb S c r w) :
    Calls Tryz.prog 25 #[.pointer (some ⟨rb, 0, none⟩), .int .i64 1] w fun e w' => e = .returned (.int .i64 (got r : Int)) ∧ StU W ml cb fb qb rb S c (adv r) w' := by
  obtain ⟨p, h1, h2⟩ := h.rd
  refine (num_all rb S p r.failed 1 w h1).mono ?_
  rintro e w' ⟨rfl, hr, hm⟩
  have hmm : Mod ml W w' := h.mod.trans hm fun x hx hl => by
    simp only [List.mem_cons, List.not_mem_nil, or_false] at hx
    subst hx
    exact h.ge.2.2 hl
  have b1 := h.blk.kept hm (by simpa using h.ne.1.symm)
  have b2 := h.fnd.kept hm (by simpa using h.ne.2.1.symm)
  have b3 := h.ptr.kept hm (by simpa using h.ne.2.2.symm)
  have hp := h1.le
  by_cases hs : p < S.size ∧ r.failed = false
  · obtain ⟨hs, hf⟩ := hs
    have hrest : r.rest = S[p] :: S.data.toList.drop (p + 1) := by
      rw [h2, hf, if_neg (by simp), List.drop_eq_getElem_cons (show p < S.data.toList.length from by rw [Array.length_toList]; exact hs)]
      rfl
    have hn : Oct.numR S p r.failed 1 = (Oct.num (S.extract p (p + 1)), p + 1, false) := by
      unfold Oct.numR
      rw [if_pos ⟨hf, by omega, by omega, by omega⟩]
      rfl
    rw [hn] at hr ⊢
    refine ⟨?_, ?_⟩
    · rw [num_one S p hs]
      unfold got
      rw [hrest]
    · have ha : adv r = ⟨r.found, S.data.toList.drop (p + 1), r.failed⟩ := by unfold adv; rw [hrest]
      rw [ha]
      exact ⟨hmm, b1, b2, b3, ⟨p + 1, by rw [hf]; exact hr, by rw [hf]; rfl⟩, h.ge, h.ne, h.lt⟩
  · have hrest : r.rest = [] := by
      rw [h2]
      cases hf : r.failed with
      | true => rfl
      | false =>
        have hs' : S.size ≤ p := Nat.le_of_not_lt fun h9 => hs ⟨h9, hf⟩
        exact List.drop_of_length_le (show S.data.toList.length ≤ p from by rw [Array.length_toList]; exact hs')
    have hn : Oct.numR S p r.failed 1 = (0, p, true) := by
      unfold Oct.numR
      rw [if_neg (by rintro ⟨h8, _, _, h9⟩; exact hs ⟨by omega, h8⟩)]
    rw [hn] at hr ⊢
    refine ⟨?_, ?_⟩
    · unfold got; rw [hrest]; rfl
    · have ha : adv r = ⟨r.found, [], true⟩ := by unfold adv; rw [hrest]
      rw [ha]
      exact ⟨hmm, b1, b2, b3, ⟨p, hr, rfl⟩, h.ge, h.ne, h.lt⟩
/-- Over the world that is now; and back. -/
theorem StU.rebase {c : C} {r : R} {w : World} (h : StU W ml cb fb qb rb S c r w) : StU w [cb, fb, rb] cb fb qb rb S c r w :=
  ⟨Mod.refl _ _, h.blk, h.fnd, h.ptr, h.rd, ⟨fun _ => by simp, fun _ => by simp, fun _ => by simp⟩, h.ne, h.lt⟩
theorem StU.back {c c' : C} {r r' : R} {w w' : World} (h : StU W ml cb fb qb rb S c r w) (k : StU w [cb, fb, rb] cb fb qb rb S c' r' w') : StU W ml cb fb qb rb S c' r' w' := by
  refine ⟨h.mod.trans k.mod fun x hx hl => ?_, k.blk, k.fnd, k.ptr, k.rd, h.ge, h.ne, k.lt⟩
  simp only [List.mem_cons, List.not_mem_nil, or_false] at hx
  rcases hx with rfl | rfl | rfl
  · exact h.ge.1 hl
  · exact h.ge.2.1 hl
  · exact h.ge.2.2 hl
/-- The boxes of the closures. -/
structure Boxes (fb qb rb found : Nat) (w : World) : Prop where
  fnd : Blk w fb #[.int .u32 found] 33
  ptr : Blk w qb #[.pointer (some ⟨rb, 0, none⟩)] 72
theorem Boxes.stays {fb qb rb found : Nat} : ∀ w w' : World, Boxes fb qb rb found w → Mod [] w w' → Boxes fb qb rb found w' := fun w w' h m => ⟨h.fnd.kept m (by simp), h.ptr.kept m (by simp)⟩
theorem StU.boxes {c : C} {r : R} {w : World} (h : StU W ml cb fb qb rb S c r w) : Boxes fb qb rb r.found w := ⟨h.fnd, h.ptr⟩
theorem adv_found (r : R) : (adv r).found = r.found := by
  obtain ⟨f, l, b⟩ := r
  cases l <;> rfl
theorem or_low (x b : Nat) (hx : x < 16777216) (hb : b < 256) : Go.bits .or .u32 ((x * 256 : Nat) : Int) (b : Int) = ((x * 256 + b : Nat) : Int) := by
  have h := u32_or_nat (x * 256) b (by omega) (by omega)
  have h2 : x * 256 ||| b = x * 256 + b := by
    have := Nat.shiftLeft_add_eq_or_of_lt (b := b) (i := 8) (by omega) x
    rw [Nat.shiftLeft_eq] at this
    exact this.symm
  rw [h2] at h
  exact h
end Cod

set_option maxHeartbeats 1000000 in
theorem bitU_any (m : Nat) (n : Int) (fb found : Nat) (w : World) (hb : Blk w fb #[.int .u32 found] 33) : Calls Tryz.prog 35 #[.int .u32 m, .int .u8 n, .pointer (some ⟨fb, 0, none⟩)] w fun e w' => e = .returned (.int .u8 ((if found ≤ m then 1 else 0 : Nat) : Int)) ∧ w = w' := by
  have c0 : w.cell? ⟨fb, 0, none⟩ = some (.int .u32 found) := hb.cell 0
  clear hb
  by_cases h : found ≤ m
  · have h1 : (found : Int) ≤ (m : Int) := by omega
    rw [if_pos h]
    go_enter Tryz.func35, Tryz.ntmps35
    go_wp2
    go_ret
    exact ⟨rfl, rfl⟩
  · have h1 : ¬ (found : Int) ≤ (m : Int) := by omega
    have h2 : (m : Int) < (found : Int) := by omega
    rw [if_neg h]
    go_enter Tryz.func35, Tryz.ntmps35
    go_wp2
    go_ret
    exact ⟨rfl, rfl⟩

set_option maxRecDepth 4000 in
set_option maxHeartbeats 1000000 in
theorem doneU_any (W : World) (ml : List Nat) (cb fb qb rb : Nat) (S : ByteArray) (c : Cod.C) (r : Cod.R) (t : Int) (w : World) (h : Cod.StU W ml cb fb qb rb S c r w) :
    Calls Tryz.prog 36 #[.int .u8 t, .pointer (some ⟨fb, 0, none⟩), .pointer (some ⟨qb, 0, none⟩)] w fun e w' => e = .returned (.tuple #[]) ∧ Cod.StU W ml cb fb qb rb S c ⟨r.found * 256 % 4294967296 + Cod.got r, (Cod.adv r).rest, (Cod.adv r).failed⟩ w' := by
  have H := Lib.hid h
  have hlt := Lib.hid h.lt
  clear h
  obtain ⟨e2, e3⟩ : Go.bits .or .u32 ((r.found : Int) * 256 % 4294967296) (Cod.got r : Int) = ((r.found * 256 % 4294967296 + Cod.got r : Nat) : Int) ∧ r.found * 256 % 4294967296 + Cod.got r < 4294967296 := by
    have h1 : r.found * 256 % 4294967296 = r.found % 16777216 * 256 := by omega
    have h2 : (r.found : Int) * 256 % 4294967296 = ((r.found % 16777216 * 256 : Nat) : Int) := by omega
    have hg := Cod.got_lt r
    refine ⟨?_, by omega⟩
    rw [h1, h2]
    exact Cod.or_low _ _ (by omega) hg
  have E3 := Lib.hid e3
  have EG := Lib.hid (Cod.got_lt r)
  have hg2 : (Cod.got r : Int) % 4294967296 = (Cod.got r : Int) := by have := EG.out; omega
  clear e3
  generalize hn : r.found * 256 % 4294967296 + Cod.got r = n at *
  obtain ⟨g, hgg⟩ : ∃ g, Cod.got r = g := ⟨_, rfl⟩
  rw [hgg] at e2 EG hg2
  have hgn := Lib.hid hgg
  clear hgg hn
  go_enter Tryz.func36, Tryz.ntmps36
  go_wp2_with fail
  have AF : ∀ w', Cod.Boxes fb qb rb r.found w' → w'.cell? ⟨fb, 0, none⟩ = some (.int .u32 r.found) := fun w' h => h.fnd.cell 0
  have AP : ∀ w', Cod.Boxes fb qb rb r.found w' → w'.cell? ⟨qb, 0, none⟩ = some (.pointer (some ⟨rb, 0, none⟩)) := fun w' h => h.ptr.cell 0
  have BX : Cod.Boxes fb qb rb r.found w.drew := (H.out.stays (Mod.refl _ _).drew).boxes
  refine Rg.wp_region_rr (I := Cod.Boxes fb qb rb r.found) (F0 := Cod.StU W ml cb fb qb rb S c r) Cod.Boxes.stays 6 [true, true, true, false, false, false] [(3, Rg.Know (Cod.StU W ml cb fb qb rb S c (Cod.adv r)) (.int .i64 (g : Int))), (4, Rg.Know (Cod.StU W ml cb fb qb rb S c (Cod.adv r)) (.int .u32 (g : Int))), (5, Rg.Know (Cod.StU W ml cb fb qb rb S c (Cod.adv r)) (.int .u32 (n : Int)))] (by kernel_rfl) (by kernel_rfl) ?_ BX (fun _ _ h m => h.stays m) (H.out.stays (Mod.refl _ _).drew) ?_
  · intro p hp v
    simp only [List.mem_cons, List.not_mem_nil, or_false] at hp
    rcases hp with rfl | rfl | rfl
    · exact Rg.know_stays (fun _ _ h m => h.stays m) _ _
    · exact Rg.know_stays (fun _ _ h m => h.stays m) _ _
    · exact Rg.know_stays (fun _ _ h m => h.stays m) _ _
  simp only [pickM]
  refine Rg.steady_go (w0 := w.drew) BX (a' := ?_) (by kernel_rfl) ?_ (fun w' hw' K Q hK => ?_) ?_
  rotate_left 2
  · go_wp2_with fail; exact hK _ (Mod.refl _ _)
  rotate_left
  · rfl
  refine Rg.steady_go (w0 := w.drew) BX (a' := ?_) (by kernel_rfl) ?_ (fun w' hw' K Q hK => ?_) ?_
  rotate_left 2
  · go_wp2_with fail; exact hK _ (Mod.refl _ _)
  rotate_left
  · rfl
  refine Rg.steady_go (w0 := w.drew) BX (a' := ?_) (by kernel_rfl) ?_ (fun w' hw' K Q hK => ?_) ?_
  rotate_left 2
  · go_wp2_with fail; exact hK _ (Mod.refl _ _)
  rotate_left
  · rfl
  refine Rg.steady_done ?_
  refine Rg.chain_go (f := ?_) rfl rfl (fun v => by simp only [Act.put]; (try simp only [List.setIfInBounds_toArray]); (try simp only [List.set_cons_succ, List.set_cons_zero]); exact rfl) (fun w' hw' hF K Q hK => ?_) (fun k1 => ?_)
  · go_wp2_with fail
    have hn2 := hF.num
    rw [hgn.out] at hn2
    refine hn2.mono ?_
    rintro e w2 ⟨rfl, hS⟩
    go_wp2_with fail
    have hb := hS.boxes
    rw [Cod.adv_found] at hb
    exact hK _ _ hb ⟨rfl, hS⟩
  refine Rg.chain_go (f := ?_) rfl rfl (fun v => by simp only [Act.put]; (try simp only [List.setIfInBounds_toArray]); (try simp only [List.set_cons_succ, List.set_cons_zero]); exact rfl) (fun w' hw' hF K Q hK => ?_) (fun k2 => ?_)
  · obtain ⟨rfl, hS⟩ := hF
    go_wp2_with fail
    exact hK _ _ hw' ⟨rfl, hS⟩
  refine Rg.chain_go (f := ?_) rfl rfl (fun v => by simp only [Act.put]; (try simp only [List.setIfInBounds_toArray]); (try simp only [List.set_cons_succ, List.set_cons_zero]); exact rfl) (fun w' hw' hF K Q hK => ?_) (fun k3 => ?_)
  · obtain ⟨rfl, hS⟩ := hF
    go_wp2_with fail
    exact hK _ _ hw' ⟨rfl, hS⟩
  refine Rg.chain_end (fun w' hI hF => ?_)
  obtain ⟨rfl, hS⟩ := hF
  have z := hI.fnd.frozen 0
  simp only [List.drop_succ_cons, List.drop_zero]
  have HS := Lib.hid (hS.find n E3.out)
  clear hS
  go_wp2_with fail
  go_end0
  exact ⟨rfl, HS.out⟩
end Go.Proofs.YtjgklacbelggdaaGreatDoor
