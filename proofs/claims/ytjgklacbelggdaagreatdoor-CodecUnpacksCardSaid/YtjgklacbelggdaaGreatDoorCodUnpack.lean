/- Unpack. -/
import Derived.Test.YtjgklacbelggdaaGreatDoorCodCodeU
import Derived.Test.YtjgklacbelggdaaGreatDoorCodNew
import Derived.Laws.EntriesVeiled
import Derived.Laws.MakeOwn
namespace Go.Proofs.YtjgklacbelggdaaGreatDoor
open Go.RowKit
set_option linter.unusedVariables false

namespace Cod
/-- Where the reader stands behind the first number of what is packed. -/
def r0 (T : List UInt8) : R := if 4 ≤ T.length then st T [] else ⟨0, [], true⟩
theorem readBack_r0 (n : Nat) (T : List UInt8) : readBack n T = if (dec n 0 c0 (r0 T)).2.2.failed = false ∧ (dec n 0 c0 (r0 T)).2.2.rest = [] ∧ (dec n 0 c0 (r0 T)).2.2.found = (dec n 0 c0 (r0 T)).2.1.low then some (dec n 0 c0 (r0 T)).1 else none := by
  unfold readBack r0
  by_cases h : 4 ≤ T.length
  · rw [if_neg (by omega), if_pos h]
  · rw [if_pos (by omega), if_neg h, dec_failed n 0 c0 ⟨0, [], true⟩ rfl, if_neg (by simp)]
theorem n4_lt' (T : List UInt8) : (r0 T).found < 4294967296 := by
  unfold r0
  split
  · exact n4_lt T
  · simp
/-- What unpacked answers. -/
def unB (S : ByteArray) (n : Nat) : ByteArray × Bool := match readBack n (S.data.toList.drop 4) with
  | none => (bs [], false)
  | some l => (bs l, true)
theorem be_n4 (S : ByteArray) (p : Nat) (h : p + 4 ≤ S.size) : Oct.num (S.extract p (p + 4)) = (n4 (S.data.toList.drop p) : Int) := by
  rw [Oct.num_be _ (by rw [ByteArray.size_extract]; omega)]
  obtain ⟨a, b, c, d, r, hr⟩ := four (l := S.data.toList.drop p) (by rw [List.length_drop, Array.length_toList]; show 4 ≤ S.size - p; omega)
  have : (S.extract p (p + 4)).data.toList = [a, b, c, d] := by
    rw [ByteArray.data_extract, Array.toList_extract, List.extract_eq_take_drop, hr, show p + 4 - p = 4 by omega]
    rfl
  rw [this, hr]
  simp only [n4, Oct.be, List.foldl_cons, List.foldl_nil]
  omega
theorem numR4 (S : ByteArray) (h : 4 ≤ S.size) : ∃ p, Oct.numR S 4 false 4 = (((r0 (S.data.toList.drop 4)).found : Int), p, (r0 (S.data.toList.drop 4)).failed) ∧ (r0 (S.data.toList.drop 4)).rest = (if (r0 (S.data.toList.drop 4)).failed = true then [] else S.data.toList.drop p) := by
  have hl : (S.data.toList.drop 4).length = S.size - 4 := by rw [List.length_drop, Array.length_toList]; rfl
  unfold Oct.numR r0
  by_cases h8 : 8 ≤ S.size
  · refine ⟨8, ?_, ?_⟩
    · rw [if_pos ⟨rfl, by omega, by omega, by omega⟩, if_pos (by omega)]
      rw [show (4 : Int).toNat = 4 from rfl, be_n4 S 4 (by omega)]
      rfl
    · rw [if_pos (by omega)]
      simp [st]
  · refine ⟨4, ?_, ?_⟩
    · rw [if_neg (by rintro ⟨_, _, _, h9⟩; omega), if_neg (by omega)]
      rfl
    · rw [if_neg (by omega)]
      rfl
end Cod

theorem Cod.rest_nil {r : Cod.R} {p : Nat} {S : ByteArray} (h : r.rest = if r.failed = true then [] else S.data.toList.drop p) : r.rest = [] ↔ (r.failed = true ∨ ¬ p < S.size) := by
  rw [h]
  cases r.failed with
  | true => simp
  | false =>
    rw [if_neg (by simp), List.drop_eq_nil_iff, Array.length_toList]
    constructor
    · intro h; exact Or.inr (Nat.not_lt.2 h)
    · rintro (h | h)
      · cases h
      · exact Nat.not_lt.1 h
theorem Mod.of_grown {w w' : World} {k : Nat} (g : w.grownBy w' (some k)) : Mod [k] w w' :=
  ⟨g.os, g.tape, g.output, g.size, fun x hx hn => g.block x hx (fun e => hn (by simp at e; simp [e]))⟩
theorem Cod.StU.keptM {W : World} {ml : List Nat} {cb fb qb rb : Nat} {S : ByteArray} {c : Cod.C} {r : Cod.R} {w w' : World} {k : Nat} (h : Cod.StU W ml cb fb qb rb S c r w) (m : Mod [k] w w') (hk : W.heap.size ≤ k) (h1 : cb ≠ k) (h2 : fb ≠ k) (h3 : qb ≠ k) (h4 : rb ≠ k) : Cod.StU W ml cb fb qb rb S c r w' := by
  obtain ⟨p, k1, k2⟩ := h.rd
  exact ⟨h.mod.trans m (fun x hx hl => by simp at hx; omega), h.blk.kept m (by simpa using h1), h.fnd.kept m (by simpa using h2), h.ptr.kept m (by simpa using h3), ⟨p, k1.kept m (by simpa using h4), k2⟩, h.ge, h.ne, h.lt⟩
theorem make_bytes (w : World) (B c : Nat) (hc : c ≤ 1048576) (hB : B ≤ w.heap.size) : ∃ v cap cs, v = .slice (some ⟨w.heap.size, 0, none⟩) 0 cap ∧ (Instr.makeSlice 28 (.int .i64 0) (.int .i64 (c : Int))).run Tryz.prog w = .ok v (w.alloc (.cells cs 5)) ∧ RowM (w.alloc (.cells cs 5)) B v [] := by
  obtain ⟨i0, hi, hz0, hz1, hz2⟩ := info_parts Tryz.info_u8
  have h := run_makeSlice (P := Tryz.prog) w 28 5 i0 (.int .u8 0) Tryz.underlying28 hi hz0 .i64 .i64 0 (c : Int) (by omega) (by omega) (by rw [hz1, Int.toNat_natCast]; omega) (by rw [hz2]; omega) (by omega)
  simp only [Int.toNat_zero, Int.toNat_natCast] at h
  exact ⟨_, c, _, rfl, h, made_rowM w B c _ (by rw [size_madeCells, hz1]; simp) (by unfold maxLen; omega) hB⟩

set_option maxRecDepth 4000 in
set_option maxHeartbeats 4000000 in
theorem unpacked_any (W : World) (rb : Nat) (S : ByteArray) (n : Nat) (hn : n ≤ 1048576) (hS : S.size ≤ 1152921504606846976) (h4 : 4 ≤ S.size) (w : World) (hm : Mod [] W w) (hr : Rd w rb S 4 false) (hge : W.heap.size ≤ rb) :
    Calls Tryz.prog 26 #[.pointer (some ⟨rb, 0, none⟩), .int .i64 n] w fun e w' => e = .returned (.tuple #[.string (Cod.unB S n).1, .bool (Cod.unB S n).2]) ∧ Mod [] W w' := by
  have HU : Hid (Cod.unB S n = match (if (Cod.dec n 0 Cod.c0 (Cod.r0 (S.data.toList.drop 4))).2.2.failed = false ∧ (Cod.dec n 0 Cod.c0 (Cod.r0 (S.data.toList.drop 4))).2.2.rest = [] ∧ (Cod.dec n 0 Cod.c0 (Cod.r0 (S.data.toList.drop 4))).2.2.found = (Cod.dec n 0 Cod.c0 (Cod.r0 (S.data.toList.drop 4))).2.1.low then some (Cod.dec n 0 Cod.c0 (Cod.r0 (S.data.toList.drop 4))).1 else none) with
    | none => (bs [], false)
    | some l => (bs l, true)) := by
    show Cod.unB S n = _
    rw [← Cod.readBack_r0]
    rfl
  obtain ⟨p, hnum, hrest⟩ := Cod.numR4 S h4
  have hf := Cod.n4_lt' (S.data.toList.drop 4)
  generalize Cod.r0 (S.data.toList.drop 4) = r at *
  generalize Cod.unB S n = ub at *
  have hfm : (r.found : Int) % 4294967296 = (r.found : Int) := by omega
  have HF := Lib.hid hf
  have HN := Lib.hid hn
  have HS := Lib.hid hS
  clear hf hS hn
  go_enter Tryz.func26, Tryz.ntmps26
  go_wp2_with fail
  have hlt := hr.lt
  have hb0 : Blk (w.alloc (.cells #[.pointer (some ⟨rb, 0, none⟩)] 72)) w.heap.size #[.pointer (some ⟨rb, 0, none⟩)] 72 := heap_alloc_new w _
  have hcall := num_all rb S 4 false 4 _ (hr.alloc (.cells #[.pointer (some ⟨rb, 0, none⟩)] 72))
  rw [hnum] at hcall
  refine hcall.mono ?_
  rintro e w1 ⟨rfl, hR1, hM1⟩
  have hq1 := hb0.kept hM1 (by simp; omega)
  have hm1 : Mod [] W w1 := (hm.alloc _).trans hM1 (by simp; omega)
  have hsz1 : w.heap.size + 1 ≤ w1.heap.size := by have := hM1.size; simpa using this
  have hq2 := hq1.alloc (.cells #[.int .u32 r.found] 33)
  have hR2 := hR1.alloc (.cells #[.int .u32 r.found] 33)
  have hm2 := hm1.alloc (.cells #[.int .u32 r.found] 33)
  have hf2 : Blk (w1.alloc (.cells #[.int .u32 r.found] 33)) w1.heap.size #[.int .u32 r.found] 33 := heap_alloc_new w1 _
  have hWw := hm.size
  generalize w.heap.size = qb at *
  clear hcall hb0 hM1 hq1 hm1 hR1 hnum hm hr
  have HQ2 := Lib.hid hq2
  have HR2 := Lib.hid hR2
  have HM2 := Lib.hid hm2
  have HF2 := Lib.hid hf2
  clear hq2 hR2 hm2 hf2
  go_wp2_with fail
  refine (newCoder_any _).mono ?_
  rintro e w3 ⟨cb, rfl, hcb, hm3, hblk⟩
  have hcb2 : w1.heap.size + 1 ≤ cb := by simpa using hcb
  have HSt : Hid (Cod.StU W [] cb w1.heap.size qb rb S Cod.c0 r ((w3.setCell ⟨cb, 2050, none⟩ (Cod.vbU w1.heap.size)).setCell ⟨cb, 2051, none⟩ (Cod.vdU w1.heap.size qb))) := by
    have q1 := hblk.set 2050 (Cod.vbU w1.heap.size)
    rw [cc_set_bit] at q1
    have q2 := q1.set 2051 (Cod.vdU w1.heap.size qb)
    rw [cc_set_done] at q2
    have n1 : cb ≠ w1.heap.size := by omega
    have n2 : cb ≠ qb := by omega
    have n3 : cb ≠ rb := by omega
    refine ⟨((HM2.out.then hm3).setNew (p := ⟨cb, 2050, none⟩) (show W.heap.size ≤ cb by omega) _).setNew (p := ⟨cb, 2051, none⟩) (show W.heap.size ≤ cb by omega) _, q2, ?_, ?_, ⟨p, ?_, hrest⟩, ⟨fun h => by omega, fun h => by omega, fun h => by omega⟩, ⟨by omega, by omega, by omega⟩, HF.out⟩
    · exact ((HF2.out.kept hm3 (by simp)).other n1 _).other n1 _
    · exact ((HQ2.out.kept hm3 (by simp)).other n2 _).other n2 _
    · exact ((HR2.out.kept hm3 (by simp)).other _ n3).other _ n3
  have hcell : w3.cell? ⟨cb, 2050, none⟩ = some .nilFunc := (hblk.cell 2050).trans (cc_bit ..)
  have hcell2 : w3.cell? ⟨cb, 2051, none⟩ = some .nilFunc := (hblk.cell 2051).trans (cc_done ..)
  have z1 : w3.frozen? ⟨cb, 2050, none⟩ = false := hblk.frozen 2050
  have z2 : w3.frozen? ⟨cb, 2051, none⟩ = false := hblk.frozen 2051
  have hqc : ((w3.setCell ⟨cb, 2050, none⟩ (Cod.vbU w1.heap.size)).setCell ⟨cb, 2051, none⟩ (Cod.vdU w1.heap.size qb)).cell? ⟨qb, 0, none⟩ = some (.pointer (some ⟨rb, 0, none⟩)) := HSt.out.ptr.cell 0
  clear hcb hm3 hblk hcb2 HF2 HQ2 HR2 HM2 hrest hfm HF hsz1
  generalize w1.heap.size = fb at *
  go_wp2_with fail
  generalize (w3.setCell ⟨cb, 2050, none⟩ (Cod.vbU fb)).setCell ⟨cb, 2051, none⟩ (Cod.vdU fb qb) = w4 at *
  clear hcell hcell2 z1 z2
  obtain ⟨p4, hrd4, -⟩ := HSt.out.rd
  have hp4 := hrd4.le
  obtain ⟨lf, hlf⟩ : ∃ lf : Nat, (S.size : Int) - p4 = (lf : Int) ∧ lf ≤ S.size := ⟨S.size - p4, by omega, by omega⟩
  have hleft := left_any rb S p4 r.failed w4 hrd4
  rw [hlf.1] at hleft
  refine hleft.mono ?_
  rintro e w5 ⟨rfl, nd, rfl⟩
  have hmul : wrap64 (4 * (lf : Int)) = 4 * (lf : Int) := by have := HS.out; unfold wrap64; omega
  have hadd : wrap64 (4 * (lf : Int) + 64) = 4 * (lf : Int) + 64 := by have := HS.out; unfold wrap64; omega
  have HS5 := Lib.hid (HSt.out.stays ((Mod.refl [] w4).drewN nd))
  clear HSt hrd4 hleft hqc
  generalize w4.drewN nd = w5 at *
  obtain ⟨kc, hkc⟩ : ∃ kc : Nat, 4 * (lf : Int) + 64 = (kc : Int) := ⟨4 * lf + 64, by omega⟩
  rw [hkc] at hadd
  clear hp4 hlf
  by_cases hcs : (n : Int) ≤ (kc : Int)
  case' pos =>
    obtain ⟨v, cap, cs, rfl, hmk, hrow⟩ := make_bytes w5 qb n HN.out (Nat.le_of_lt HS5.out.ptr.at)
    have HR0 := Lib.hid hrow
    have HS6 := Lib.hid (HS5.out.stays ((Mod.refl [] w5).alloc (.cells cs 5)))
    clear HS5 hrow
    go_wp2_with fail
  case' neg =>
    have hcs2 : (kc : Int) < (n : Int) := by omega
    obtain ⟨v, cap, cs, rfl, hmk, hrow⟩ := make_bytes w5 qb kc (by have := HN.out; omega) (Nat.le_of_lt HS5.out.ptr.at)
    have HR0 := Lib.hid hrow
    have HS6 := Lib.hid (HS5.out.stays ((Mod.refl [] w5).alloc (.cells cs 5)))
    clear HS5 hrow
    go_wp2_with fail
  all_goals
    have HQ6 : Hid (qb ≤ (w5.alloc (.cells cs 5)).heap.size) := Nat.le_of_lt HS6.out.ptr.at
    generalize w5.alloc (.cells cs 5) = w6 at *
    clear hmk hmul hadd hkc
    generalize hD : Cod.dec n 0 Cod.c0 r = D at *
    have HD := Lib.hid hD
    clear hD
    have HLT := Lib.hid hlt
    obtain ⟨i0, hi, hz0, hz1, hz2⟩ := info_parts Tryz.info_u8
    go_loopg [8, 9] n (fun gk i8 i9 wr => ∃ (l : List UInt8) (v : Value) (a : Nat) (c' : Cod.C) (r' : Cod.R), i8 = v ∧ i9 = .int .u8 (a : Int) ∧ Hid (l.length + gk = n ∧ a < 256) ∧ Hid (RowM wr qb v l) ∧ Hid (Cod.StU W [] cb fb qb rb S c' r' wr) ∧ Hid (Cod.Wf c') ∧ Hid (l ++ (Cod.dec gk a c' r').1 = D.1 ∧ (Cod.dec gk a c' r').2 = D.2))
    case atStart => exact ⟨[], _, 0, Cod.c0, r, rfl, rfl, ⟨by simp, by omega⟩, HR0, HS6, Cod.wf_c0, by rw [HD.out]; exact ⟨rfl, rfl⟩⟩
    case round =>
      obtain ⟨l, v, a, c', r', rfl, rfl, hla, hrow, HSt, HW, HDD⟩ := hrel
      clear HS6 HR0 HQ6 HD hcs
      obtain ⟨g, capv, cur, fz, hveq, hgq, -⟩ := hrow.out
      have hqc : wr.cell? ⟨qb, 0, none⟩ = some (.pointer (some ⟨rb, 0, none⟩)) := HSt.out.ptr.cell 0
      obtain ⟨p5, hrd5, hr5⟩ := HSt.out.rd
      by_cases hgo : l.length < n ∧ r'.failed = false
      · obtain ⟨hl, hf⟩ := hgo
        have hl' : (l.length : Int) < (n : Int) := by omega
        have hfail := failed_any rb S p5 r'.failed wr hrd5
        rw [hf] at hfail
        have HC := Lib.hid (codeU_any wr [cb, fb, rb] cb fb qb rb S c' HW.out r' a 0 hla.out.2 (by omega) wr HSt.out.rebase)
        have HW2 := Lib.hid (Cod.code_wf Cod.up HW.out r' a 0)
        have hb : (Cod.code Cod.up c' r' a 0).1 % 256 < 256 := by omega
        have HDD2 : Hid (l ++ [UInt8.ofNat ((Cod.code Cod.up c' r' a 0).1 % 256)] ++ (Cod.dec (gk - 1) ((Cod.code Cod.up c' r' a 0).1 % 256) (Cod.code Cod.up c' r' a 0).2.1 (Cod.code Cod.up c' r' a 0).2.2).1 = D.1 ∧ (Cod.dec (gk - 1) ((Cod.code Cod.up c' r' a 0).1 % 256) (Cod.code Cod.up c' r' a 0).2.1 (Cod.code Cod.up c' r' a 0).2.2).2 = D.2) := by
          have h9 := HDD.out
          obtain ⟨g', hg'⟩ : ∃ g', gk = g' + 1 := ⟨gk - 1, by have := hla.out.1; omega⟩
          subst hg'
          unfold Cod.dec at h9
          rw [if_neg (by rw [hf]; simp)] at h9
          rw [List.append_assoc]
          exact h9
        have hne1 : g ≠ cb := fun e => hrow.out.ne HSt.out.blk (by decide) (by rw [hveq, e]; rfl)
        have hne2 : g ≠ fb := fun e => hrow.out.ne HSt.out.fnd (by decide) (by rw [hveq, e]; rfl)
        have hne3 : g ≠ qb := fun e => hrow.out.ne HSt.out.ptr (by decide) (by rw [hveq, e]; rfl)
        have hne4 : g ≠ rb := by have := HLT.out; omega
        have hgW : W.heap.size ≤ g := by omega
        rw [show ((0 : Nat) : Int) = 0 from rfl] at HC
        have hLL : Hid (l.length + 1 ≤ 1048576) := by have := HN.out; show l.length + 1 ≤ 1048576; omega
        have hgk : Hid (1 ≤ gk) := by have := hla.out.1; show 1 ≤ gk; omega
        clear HW HDD hrd5 hr5 hf hl
        generalize (Cod.code Cod.up c' r' a 0).1 % 256 = b at *
        generalize (Cod.code Cod.up c' r' a 0).2.1 = c5 at *
        generalize (Cod.code Cod.up c' r' a 0).2.2 = r5 at *
        have hb2 := Lib.hid hb
        clear hb
        subst hveq
        go_wp2_with fail
        refine hfail.mono ?_
        rintro e w7 ⟨rfl, rfl⟩
        go_wp2_with fail
        refine HC.out.mono ?_
        rintro e w8 ⟨rfl, hS8⟩
        have HR8 := Lib.hid (hrow.out.mod hS8.mod (by intro k hk; simp [Value.ownBlock] at hk; subst hk; simp; exact ⟨hne1, hne2, hne4⟩))
        have HS8 := Lib.hid (HSt.out.back hS8)
        have hqB : Hid (qb ≤ w8.heap.size) := Nat.le_of_lt HS8.out.ptr.at
        clear hS8 HC hfail hqc
        go_wp2_with (at_builtin; refine wpList_append_rowM rfl _ _ 28 rfl qb i0 Tryz.underlying28 hi hz0 hz1 hz2 _ l rfl (HR8.out.mod ((Mod.refl [] w8).alloc _) (by simp)) ⟨w8.heap.size, 0, none⟩ 1 1 [UInt8.ofNat b] rfl rfl ?_ ?_ ?_ ?_)
        · intro j u hj
          match j, hj with
          | 0, hj =>
            simp only [List.getElem?_cons_zero, Option.some.injEq] at hj
            subst hj
            rw [bcell_ofNat hb2.out]
            simp [Addr.add]
        · have := hLL.out; simp; omega
        · have := hqB.out; simp; omega
        intro v' w9 hrow' hgrow
        have HS9 := Lib.hid ((HS8.out.stays ((Mod.refl [] w8).alloc (.cells #[.int .u8 b] 5))).keptM (k := g) (Mod.of_grown hgrow) hgW hne1.symm hne2.symm hne3.symm hne4.symm)
        have HR9 := Lib.hid hrow'
        clear hrow' hgrow HS8 HR8
        go_wp2_with fail
        go_roundg (gk - 1)
        case measure => have := hgk.out; omega
        case rel =>
          refine ⟨l ++ [UInt8.ofNat b], v', b, c5, r5, rfl, rfl, ⟨?_, hb2.out⟩, HR9.out, HS9.out, HW2.out, HDD2.out⟩
          have h1 := hla.out.1
          have h2 := hgk.out
          show (l ++ [UInt8.ofNat b]).length + (gk - 1) = n
          rw [List.length_append]
          simp
          omega
      · have hD : D = (l, c', r') := by
          have h9 := HDD.out
          have h10 : Cod.dec gk a c' r' = ([], c', r') := by
            cases gk with
            | zero => rfl
            | succ g' =>
              have hl : l.length < n := by have := hla.out.1; omega
              have hf : r'.failed = true := by
                cases hf : r'.failed with
                | true => rfl
                | false => exact absurd ⟨hl, hf⟩ hgo
              unfold Cod.dec
              rw [if_pos hf]
          rw [h10, List.append_nil] at h9
          obtain ⟨d1, d2⟩ := D
          simp only at h9
          rw [← h9.1, ← h9.2]
        subst hveq
        have hub := HU.out
        rw [hD] at hub
        simp only at hub
        have hp5 := hrd5.le
        have HRest : Hid (r'.rest = [] ↔ (r'.failed = true ∨ ¬ p5 < S.size)) := Cod.rest_nil hr5
        have HFail : Hid (∀ W', Mod [] wr W' → Calls Tryz.prog 38 #[.pointer (some ⟨rb, 0, none⟩)] W' fun e w'' => e = .returned (.bool r'.failed) ∧ Mod [] W' w'') := fun W' m =>
          (failed_any rb S p5 r'.failed W' (hrd5.kept m (by simp))).mono fun e w'' h => ⟨h.1, h.2 ▸ Mod.refl _ _⟩
        have HLeft : Hid (∀ W', Mod [] wr W' → Calls Tryz.prog 37 #[.pointer (some ⟨rb, 0, none⟩)] W' fun e w'' => e = .returned (.int .i64 ((S.size : Int) - p5)) ∧ Mod [] W' w'') := fun W' m =>
          (left_any rb S p5 r'.failed W' (hrd5.kept m (by simp))).mono fun e w'' h => ⟨h.1, by obtain ⟨k, hk⟩ := h.2; rw [hk]; exact (Mod.refl _ _).drewN _⟩
        have AQ : ∀ W', Mod [] wr W' → W'.cell? ⟨qb, 0, none⟩ = some (.pointer (some ⟨rb, 0, none⟩)) := fun W' m => (HSt.out.ptr.kept m (by simp)).cell 0
        have AF : ∀ W', Mod [] wr W' → W'.cell? ⟨fb, 0, none⟩ = some (.int .u32 r'.found) := fun W' m => (HSt.out.fnd.kept m (by simp)).cell 0
        have AL : ∀ W', Mod [] wr W' → W'.cell? ⟨cb, 0, none⟩ = some (.int .u32 c'.low) := fun W' m => ((HSt.out.blk.kept m (by simp)).cell 0).trans (cc_lo ..)
        have AC : ∀ W', Mod [] wr W' → (convert 28 9 (.slice (some ⟨g, 0, none⟩) l.length capv)).run Tryz.prog W' = .ok (.string (bs l)) W' := fun W' m => (hrow.out.mod m (by simp)).conv 28 9 5 (by kernel_rfl) (by kernel_rfl) (by kernel_rfl)
        have HFE := Lib.hid (failed_any rb S p5 r'.failed wr hrd5)
        have HM := Lib.hid HSt.out.mod
        have HP5 := Lib.hid hp5
        clear HU hrd5 hrow HSt HDD hr5 hD hp5
        cases hf : r'.failed with
        | true =>
          have HUB : Hid (ub = (bs [], false)) := by rw [hf, if_neg (by simp)] at hub; exact hub
          rw [hf] at HFail HFE
          clear hub hf
          by_cases hl : l.length < n
          case' pos =>
            have hl' : (l.length : Int) < (n : Int) := by omega
            go_wp2_with fail
            refine HFE.out.mono ?_
            rintro e w7 ⟨rfl, rfl⟩
            go_wp2_with fail
          case' neg =>
            have hl' : ¬ (l.length : Int) < (n : Int) := by omega
            go_wp2_with fail
          all_goals
            refine wp_region_mask 15 [true, true, true, true, true, true, true, true, true, true, true, true, true, true, true] [] (by kernel_rfl) (by kernel_rfl) (by simp) ?_
            simp only [pickM]
            refine steady_go (a' := ?_) (by kernel_rfl) ?_ (fun w' hw' K Q hK => ?_) ?_
            rotate_left 2
            · go_wp2_with fail; exact hK _ (Mod.refl _ _)
            rotate_left
            · rfl
            refine steady_go (a' := ?_) (by kernel_rfl) ?_ (fun w' hw' K Q hK => ?_) ?_
            rotate_left 2
            · go_wp2_with fail
              refine ((HFail.out) _ hw').mono ?_
              rintro e w'' ⟨rfl, m''⟩
              go_wp2_with fail
              exact hK _ m''
            rotate_left
            · rfl
            refine steady_go (a' := ?_) (by kernel_rfl) ?_ (fun w' hw' K Q hK => ?_) ?_
            rotate_left 2
            · go_wp2_with fail; exact hK _ (Mod.refl _ _)
            rotate_left
            · rfl
            refine steady_pass (by kernel_rfl) (by kernel_rfl) ?_
            refine steady_pass (by kernel_rfl) (by kernel_rfl) ?_
            refine steady_pass (by kernel_rfl) (by kernel_rfl) ?_
            refine steady_go (a' := ?_) (by kernel_rfl) ?_ (fun w' hw' K Q hK => ?_) ?_
            rotate_left 2
            · go_wp2_with fail; exact hK _ (Mod.refl _ _)
            rotate_left
            · rfl
            refine steady_go (a' := ?_) (by kernel_rfl) ?_ (fun w' hw' K Q hK => ?_) ?_
            rotate_left 2
            · go_wp2_with fail; exact hK _ (Mod.refl _ _)
            rotate_left
            · rfl
            refine steady_pass (by kernel_rfl) (by kernel_rfl) ?_
            refine steady_pass (by kernel_rfl) (by kernel_rfl) ?_
            refine steady_pass (by kernel_rfl) (by kernel_rfl) ?_
            refine steady_pass (by kernel_rfl) (by kernel_rfl) ?_
            refine steady_pass (by kernel_rfl) (by kernel_rfl) ?_
            refine steady_pass (by kernel_rfl) (by kernel_rfl) ?_
            refine steady_go (a' := ?_) (by kernel_rfl) ?_ (fun w' hw' K Q hK => ?_) ?_
            rotate_left 2
            · go_wp2_with fail; exact hK _ (Mod.refl _ _)
            rotate_left
            · rfl
            refine steady_done ?_
            refine lates_end (fun w' hw' _ => ?_)
            simp only [List.drop_succ_cons, List.drop_zero]
            go_wp2_with fail
            go_ret2
            rw [HUB.out]
            exact ⟨rfl, HM.out.then hw'⟩
        | false =>
          have hl' : ¬ (l.length : Int) < (n : Int) := by
            have : ¬ l.length < n := fun h => hgo ⟨h, hf⟩
            omega
          rw [hf] at HFail HFE hub
          by_cases hp : p5 < S.size
          · have HUB : Hid (ub = (bs [], false)) := by
              rw [if_neg] at hub
              · exact hub
              · rintro ⟨_, h2, _⟩
                exact absurd (HRest.out.1 h2) (by rw [hf]; simp; exact hp)
            clear hub hf
            have hpi : (0 : Int) < (S.size : Int) - p5 := by omega
            obtain ⟨lf5, hlf5⟩ : ∃ lf5 : Int, (S.size : Int) - p5 = lf5 := ⟨_, rfl⟩
            rw [hlf5] at hpi HLeft
            clear hlf5 hp
            go_wp2_with fail
            refine wp_region_mask 15 [true, true, true, true, true, true, true, true, true, true, true, true, true, true, true] [] (by kernel_rfl) (by kernel_rfl) (by simp) ?_
            simp only [pickM]
            refine steady_go (a' := ?_) (by kernel_rfl) ?_ (fun w' hw' K Q hK => ?_) ?_
            rotate_left 2
            · go_wp2_with fail; exact hK _ (Mod.refl _ _)
            rotate_left
            · rfl
            refine steady_go (a' := ?_) (by kernel_rfl) ?_ (fun w' hw' K Q hK => ?_) ?_
            rotate_left 2
            · go_wp2_with fail
              refine ((HFail.out) _ hw').mono ?_
              rintro e w'' ⟨rfl, m''⟩
              go_wp2_with fail
              exact hK _ m''
            rotate_left
            · rfl
            refine steady_go (a' := ?_) (by kernel_rfl) ?_ (fun w' hw' K Q hK => ?_) ?_
            rotate_left 2
            · go_wp2_with fail; exact hK _ (Mod.refl _ _)
            rotate_left
            · rfl
            refine steady_go (a' := ?_) (by kernel_rfl) ?_ (fun w' hw' K Q hK => ?_) ?_
            rotate_left 2
            · go_wp2_with fail; exact hK _ (Mod.refl _ _)
            rotate_left
            · rfl
            refine steady_go (a' := ?_) (by kernel_rfl) ?_ (fun w' hw' K Q hK => ?_) ?_
            rotate_left 2
            · go_wp2_with fail
              refine ((HLeft.out) _ hw').mono ?_
              rintro e w'' ⟨rfl, m''⟩
              go_wp2_with fail
              exact hK _ m''
            rotate_left
            · rfl
            refine steady_go (a' := ?_) (by kernel_rfl) ?_ (fun w' hw' K Q hK => ?_) ?_
            rotate_left 2
            · go_wp2_with fail; exact hK _ (Mod.refl _ _)
            rotate_left
            · rfl
            refine steady_go (a' := ?_) (by kernel_rfl) ?_ (fun w' hw' K Q hK => ?_) ?_
            rotate_left 2
            · go_wp2_with fail; exact hK _ (Mod.refl _ _)
            rotate_left
            · rfl
            refine steady_go (a' := ?_) (by kernel_rfl) ?_ (fun w' hw' K Q hK => ?_) ?_
            rotate_left 2
            · go_wp2_with fail; exact hK _ (Mod.refl _ _)
            rotate_left
            · rfl
            refine steady_pass (by kernel_rfl) (by kernel_rfl) ?_
            refine steady_pass (by kernel_rfl) (by kernel_rfl) ?_
            refine steady_pass (by kernel_rfl) (by kernel_rfl) ?_
            refine steady_pass (by kernel_rfl) (by kernel_rfl) ?_
            refine steady_pass (by kernel_rfl) (by kernel_rfl) ?_
            refine steady_pass (by kernel_rfl) (by kernel_rfl) ?_
            refine steady_go (a' := ?_) (by kernel_rfl) ?_ (fun w' hw' K Q hK => ?_) ?_
            rotate_left 2
            · go_wp2_with fail; exact hK _ (Mod.refl _ _)
            rotate_left
            · rfl
            refine steady_done ?_
            refine lates_end (fun w' hw' _ => ?_)
            simp only [List.drop_succ_cons, List.drop_zero]
            go_wp2_with fail
            go_ret2
            rw [HUB.out]
            exact ⟨rfl, HM.out.then hw'⟩
          · have hrest3 : r'.rest = [] := HRest.out.2 (Or.inr hp)
            have hpi : (S.size : Int) - p5 = 0 := by have := HP5.out; omega
            rw [hpi] at HLeft
            clear hpi hp
            by_cases hfl : r'.found = c'.low
            · have HUB : Hid (ub = (bs l, true)) := by
                rw [if_pos ⟨rfl, hrest3, hfl⟩] at hub
                exact hub
              have hcmp : ((r'.found : Int) == (c'.low : Int)) = true := by rw [hfl]; simp
              clear hub hf hrest3
              rw [hfl] at AF
              clear hcmp hfl
              go_wp2_with fail
              refine wp_region_mask 15 [true, true, true, true, true, true, true, true, true, true, true, true, true, true, true] [] (by kernel_rfl) (by kernel_rfl) (by simp) ?_
              simp only [pickM]
              refine steady_go (a' := ?_) (by kernel_rfl) ?_ (fun w' hw' K Q hK => ?_) ?_
              rotate_left 2
              · go_wp2_with fail; exact hK _ (Mod.refl _ _)
              rotate_left
              · rfl
              refine steady_go (a' := ?_) (by kernel_rfl) ?_ (fun w' hw' K Q hK => ?_) ?_
              rotate_left 2
              · go_wp2_with fail
                refine ((HFail.out) _ hw').mono ?_
                rintro e w'' ⟨rfl, m''⟩
                go_wp2_with fail
                exact hK _ m''
              rotate_left
              · rfl
              refine steady_go (a' := ?_) (by kernel_rfl) ?_ (fun w' hw' K Q hK => ?_) ?_
              rotate_left 2
              · go_wp2_with fail; exact hK _ (Mod.refl _ _)
              rotate_left
              · rfl
              refine steady_go (a' := ?_) (by kernel_rfl) ?_ (fun w' hw' K Q hK => ?_) ?_
              rotate_left 2
              · go_wp2_with fail; exact hK _ (Mod.refl _ _)
              rotate_left
              · rfl
              refine steady_go (a' := ?_) (by kernel_rfl) ?_ (fun w' hw' K Q hK => ?_) ?_
              rotate_left 2
              · go_wp2_with fail
                refine ((HLeft.out) _ hw').mono ?_
                rintro e w'' ⟨rfl, m''⟩
                go_wp2_with fail
                exact hK _ m''
              rotate_left
              · rfl
              refine steady_go (a' := ?_) (by kernel_rfl) ?_ (fun w' hw' K Q hK => ?_) ?_
              rotate_left 2
              · go_wp2_with fail; exact hK _ (Mod.refl _ _)
              rotate_left
              · rfl
              refine steady_go (a' := ?_) (by kernel_rfl) ?_ (fun w' hw' K Q hK => ?_) ?_
              rotate_left 2
              · go_wp2_with fail; exact hK _ (Mod.refl _ _)
              rotate_left
              · rfl
              refine steady_go (a' := ?_) (by kernel_rfl) ?_ (fun w' hw' K Q hK => ?_) ?_
              rotate_left 2
              · go_wp2_with fail; exact hK _ (Mod.refl _ _)
              rotate_left
              · rfl
              refine steady_go (a' := ?_) (by kernel_rfl) ?_ (fun w' hw' K Q hK => ?_) ?_
              rotate_left 2
              · go_wp2_with fail; exact hK _ (Mod.refl _ _)
              rotate_left
              · rfl
              refine steady_go (a' := ?_) (by kernel_rfl) ?_ (fun w' hw' K Q hK => ?_) ?_
              rotate_left 2
              · go_wp2_with fail; exact hK _ (Mod.refl _ _)
              rotate_left
              · rfl
              refine steady_go (a' := ?_) (by kernel_rfl) ?_ (fun w' hw' K Q hK => ?_) ?_
              rotate_left 2
              · go_wp2_with fail; exact hK _ (Mod.refl _ _)
              rotate_left
              · rfl
              refine steady_go (a' := ?_) (by kernel_rfl) ?_ (fun w' hw' K Q hK => ?_) ?_
              rotate_left 2
              · go_wp2_with fail; exact hK _ (Mod.refl _ _)
              rotate_left
              · rfl
              refine steady_go (a' := ?_) (by kernel_rfl) ?_ (fun w' hw' K Q hK => ?_) ?_
              rotate_left 2
              · go_wp2_with fail; exact hK _ (Mod.refl _ _)
              rotate_left
              · rfl
              refine steady_go (a' := ?_) (by kernel_rfl) ?_ (fun w' hw' K Q hK => ?_) ?_
              rotate_left 2
              · go_wp2_with fail; exact hK _ (Mod.refl _ _)
              rotate_left
              · rfl
              refine steady_go (a' := ?_) (by kernel_rfl) ?_ (fun w' hw' K Q hK => ?_) ?_
              rotate_left 2
              · go_wp2_with fail; exact hK _ (Mod.refl _ _)
              rotate_left
              · rfl
              refine steady_done ?_
              refine lates_end (fun w' hw' _ => ?_)
              simp only [List.drop_succ_cons, List.drop_zero]
              have hc5 := AC w' hw'
              go_wp2_with fail
              go_ret2
              rw [HUB.out]
              exact ⟨rfl, HM.out.then hw'⟩
            · have HUB : Hid (ub = (bs [], false)) := by
                rw [if_neg (by rintro ⟨_, _, h3⟩; exact hfl h3)] at hub
                exact hub
              have hcmp : ((r'.found : Int) == (c'.low : Int)) = false := by rw [beq_eq_false_iff_ne]; omega
              clear hub hf hrest3 hfl
              go_wp2_with fail
              refine wp_region_mask 15 [true, true, true, true, true, true, true, true, true, true, true, true, true, true, true] [] (by kernel_rfl) (by kernel_rfl) (by simp) ?_
              simp only [pickM]
              refine steady_go (a' := ?_) (by kernel_rfl) ?_ (fun w' hw' K Q hK => ?_) ?_
              rotate_left 2
              · go_wp2_with fail; exact hK _ (Mod.refl _ _)
              rotate_left
              · rfl
              refine steady_go (a' := ?_) (by kernel_rfl) ?_ (fun w' hw' K Q hK => ?_) ?_
              rotate_left 2
              · go_wp2_with fail
                refine ((HFail.out) _ hw').mono ?_
                rintro e w'' ⟨rfl, m''⟩
                go_wp2_with fail
                exact hK _ m''
              rotate_left
              · rfl
              refine steady_go (a' := ?_) (by kernel_rfl) ?_ (fun w' hw' K Q hK => ?_) ?_
              rotate_left 2
              · go_wp2_with fail; exact hK _ (Mod.refl _ _)
              rotate_left
              · rfl
              refine steady_go (a' := ?_) (by kernel_rfl) ?_ (fun w' hw' K Q hK => ?_) ?_
              rotate_left 2
              · go_wp2_with fail; exact hK _ (Mod.refl _ _)
              rotate_left
              · rfl
              refine steady_go (a' := ?_) (by kernel_rfl) ?_ (fun w' hw' K Q hK => ?_) ?_
              rotate_left 2
              · go_wp2_with fail
                refine ((HLeft.out) _ hw').mono ?_
                rintro e w'' ⟨rfl, m''⟩
                go_wp2_with fail
                exact hK _ m''
              rotate_left
              · rfl
              refine steady_go (a' := ?_) (by kernel_rfl) ?_ (fun w' hw' K Q hK => ?_) ?_
              rotate_left 2
              · go_wp2_with fail; exact hK _ (Mod.refl _ _)
              rotate_left
              · rfl
              refine steady_go (a' := ?_) (by kernel_rfl) ?_ (fun w' hw' K Q hK => ?_) ?_
              rotate_left 2
              · go_wp2_with fail; exact hK _ (Mod.refl _ _)
              rotate_left
              · rfl
              refine steady_go (a' := ?_) (by kernel_rfl) ?_ (fun w' hw' K Q hK => ?_) ?_
              rotate_left 2
              · go_wp2_with fail; exact hK _ (Mod.refl _ _)
              rotate_left
              · rfl
              refine steady_go (a' := ?_) (by kernel_rfl) ?_ (fun w' hw' K Q hK => ?_) ?_
              rotate_left 2
              · go_wp2_with fail; exact hK _ (Mod.refl _ _)
              rotate_left
              · rfl
              refine steady_go (a' := ?_) (by kernel_rfl) ?_ (fun w' hw' K Q hK => ?_) ?_
              rotate_left 2
              · go_wp2_with fail; exact hK _ (Mod.refl _ _)
              rotate_left
              · rfl
              refine steady_go (a' := ?_) (by kernel_rfl) ?_ (fun w' hw' K Q hK => ?_) ?_
              rotate_left 2
              · go_wp2_with fail; exact hK _ (Mod.refl _ _)
              rotate_left
              · rfl
              refine steady_go (a' := ?_) (by kernel_rfl) ?_ (fun w' hw' K Q hK => ?_) ?_
              rotate_left 2
              · go_wp2_with fail; exact hK _ (Mod.refl _ _)
              rotate_left
              · rfl
              refine steady_go (a' := ?_) (by kernel_rfl) ?_ (fun w' hw' K Q hK => ?_) ?_
              rotate_left 2
              · go_wp2_with fail; exact hK _ (Mod.refl _ _)
              rotate_left
              · rfl
              refine steady_go (a' := ?_) (by kernel_rfl) ?_ (fun w' hw' K Q hK => ?_) ?_
              rotate_left 2
              · go_wp2_with fail; exact hK _ (Mod.refl _ _)
              rotate_left
              · rfl
              refine steady_go (a' := ?_) (by kernel_rfl) ?_ (fun w' hw' K Q hK => ?_) ?_
              rotate_left 2
              · go_wp2_with fail; exact hK _ (Mod.refl _ _)
              rotate_left
              · rfl
              refine steady_done ?_
              refine lates_end (fun w' hw' _ => ?_)
              simp only [List.drop_succ_cons, List.drop_zero]
              go_wp2_with fail
              go_ret2
              rw [HUB.out]
              exact ⟨rfl, HM.out.then hw'⟩
end Go.Proofs.YtjgklacbelggdaaGreatDoor
