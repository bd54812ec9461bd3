/- Pack. -/
import Derived.Test.YtjgklacbelggdaaGreatDoorCodCode
import Derived.Test.YtjgklacbelggdaaGreatDoorCodNew
import Derived.Test.YtjgklacbelggdaaGreatDoorOctPut
import Derived.Laws.EntriesVeiled
namespace Go.Proofs.YtjgklacbelggdaaGreatDoor
open Go.RowKit
set_option linter.unusedVariables false

namespace Cod
theorem bits_len (base x : Nat) : ∀ (n nd : Nat) (c : C) (s : List UInt8), (bits pk base x n nd c s).2.2.length ≤ s.length + 4 * n
  | 0, _, _, _ => Nat.le_refl _
  | n + 1, nd, c, s => by
    unfold bits
    have h1 := bits_len base x n (2 * nd + stepB pk c s (base + nd) (x / 2 ^ n % 2)) (step pk c s (base + nd) (x / 2 ^ n % 2)).1 (step pk c s (base + nd) (x / 2 ^ n % 2)).2
    have h2 := step_len c s (base + nd) (x / 2 ^ n % 2)
    omega
theorem put4 (n : Nat) (h : n < 4294967296) : Oct.putS (n : Int) 4 = bs (b4 n) := by
  rw [show (4 : Int) = ((4 : Nat) : Int) from rfl, Oct.putS_nat _ _ (by omega)]
  congr 1
  have h8 : ∀ m : Nat, UInt8.ofNat ((m : Int) % 256).toNat = UInt8.ofNat m := fun m => by
    rw [show ((m : Int) % 256).toNat = m % 256 by omega]
    apply UInt8.toNat_inj.1
    rw [UInt8.toNat_ofNat', UInt8.toNat_ofNat']
    omega
  show [UInt8.ofNat (Oct.pb n 4 0).toNat, UInt8.ofNat (Oct.pb n 4 1).toNat, UInt8.ofNat (Oct.pb n 4 2).toNat, UInt8.ofNat (Oct.pb n 4 3).toNat] = _
  unfold b4 Oct.pb
  have h0 : (n : Int) % 18446744073709551616 = (n : Int) := by omega
  simp only [Nat.reduceMul, Nat.reduceSub, Nat.sub_self, Nat.mul_zero, Int.reducePow]
  rw [← h8 (n / 16777216), ← h8 (n / 65536), ← h8 (n / 256), ← h8 n]
  simp only [Int.natCast_ediv]
  simp
/-- What Pack answers. -/
def packS (s : ByteArray) : ByteArray := if s.size ≤ 1048576 then bs (packed s.data.toList) else bs []
end Cod

set_option maxHeartbeats 400000 in
theorem pack_big (s : ByteArray) (hs : 1048576 < s.size) (w : World) : Calls Tryz.prog 10 #[.string s] w fun e w' => e = .returned (.string (bs [])) ∧ w = w' := by
  have h1 : (1048576 : Int) < (s.size : Int) := by omega
  have h2 : decide ((1048576 : Int) < (s.size : Int)) = true := by simpa using h1
  go_enter Tryz.func10, Tryz.ntmps10
  go_wp2_with fail
  go_ret
  exact ⟨rfl, rfl⟩

set_option maxRecDepth 4000 in
set_option maxHeartbeats 4000000 in
theorem pack_fit (s : ByteArray) (hs : s.size ≤ 1048576) (w : World) : Calls Tryz.prog 10 #[.string s] w fun e w' => e = .returned (.string (bs (Cod.packed s.data.toList))) ∧ Mod [] w w' := by
  have h2 : decide ((1048576 : Int) < (s.size : Int)) = false := by simp; omega
  have h3 : Oct.putS (s.size : Int) 4 = bs (Cod.b4 s.size) := Cod.put4 _ (by omega)
  go_enter Tryz.func10, Tryz.ntmps10
  go_wp2_with fail
  refine (put_all _ _ _ (by omega)).mono ?_
  rintro e w1 ⟨rfl, hb1⟩
  have hm1 := Mod.of_below hb1
  rw [h3]
  obtain ⟨v0, w2, hc2, hrow2, hm2⟩ := bytes_rowM (P := Tryz.prog) w1 w.heap.size 9 28 (bs (Cod.b4 s.size)) (by kernel_rfl) (by kernel_rfl) (by kernel_rfl) (by show (4 : Nat) ≤ maxLen; decide) hm1.size
  obtain ⟨a0, cap0, rfl, -⟩ := hrow2.cells
  have HR2 := Lib.hid hrow2
  have HM2 := Lib.hid (hm1.then hm2)
  clear hm1 hm2 hb1 hrow2
  go_wp2_with fail
  have HB := Lib.hid (heap_alloc_new w2 (.cells #[.slice (some a0) (bs (Cod.b4 s.size)).size cap0] 28))
  refine (newCoder_any _).mono ?_
  rintro e w3 ⟨cb, rfl, hcb, hm3, hblk⟩
  have hcb2 : w2.heap.size + 1 ≤ cb := by simpa using hcb
  have HS : Hid (Cod.StP w cb w2.heap.size Cod.c0 (Cod.b4 s.size) ((w3.setCell ⟨cb, 2050, none⟩ Cod.vbP).setCell ⟨cb, 2051, none⟩ (Cod.vdP w2.heap.size))) := by
    have q1 := hblk.set 2050 Cod.vbP
    rw [cc_set_bit] at q1
    have q2 := q1.set 2051 (Cod.vdP w2.heap.size)
    rw [cc_set_done] at q2
    have m1 : Mod [] w w3 := (HM2.out.alloc _).then hm3
    have hsz := HM2.out.size
    refine ⟨(m1.setNew (p := ⟨cb, 2050, none⟩) (show w.heap.size ≤ cb by omega) _).setNew (p := ⟨cb, 2051, none⟩) (show w.heap.size ≤ cb by omega) _, q2, ⟨.slice (some a0) (bs (Cod.b4 s.size)).data.toList.length cap0, ?_, ?_⟩, ⟨by omega, by omega⟩, by show (4 : Nat) ≤ _; omega⟩
    · have b1 : Blk (w2.alloc (.cells #[.slice (some a0) (bs (Cod.b4 s.size)).size cap0] 28)) w2.heap.size #[.slice (some a0) (bs (Cod.b4 s.size)).size cap0] 28 := HB.out
      exact ((b1.kept hm3 (by simp)).other (show cb ≠ w2.heap.size by omega) _).other (show cb ≠ w2.heap.size by omega) _
    · have r1 := HR2.out.mod ((Mod.refl [] w2).alloc (.cells #[.slice (some a0) (bs (Cod.b4 s.size)).size cap0] 28)) (by simp)
      have r2 := r1.mod hm3 (by simp)
      have hlt := HR2.out.lt
      refine (r2.kept (w' := w3.setCell ⟨cb, 2050, none⟩ Cod.vbP) fun k hk hl => Below.heap_setCell _ _ _ _ (fun e => ?_)).kept fun k hk hl => Below.heap_setCell _ _ _ _ (fun e => ?_)
      · have := (hlt k hk).2; simp only at e; omega
      · have := (hlt k hk).2; simp only at e; omega
  have hcell : w3.cell? ⟨cb, 2050, none⟩ = some .nilFunc := (hblk.cell 2050).trans (cc_bit ..)
  have hcell2 : w3.cell? ⟨cb, 2051, none⟩ = some .nilFunc := (hblk.cell 2051).trans (cc_done ..)
  have z1 : w3.frozen? ⟨cb, 2050, none⟩ = false := hblk.frozen 2050
  have z2 : w3.frozen? ⟨cb, 2051, none⟩ = false := hblk.frozen 2051
  clear hcb hm3 hblk hcb2 HB HR2 HM2
  generalize w2.heap.size = pb at *
  clear hc2
  go_wp2_with fail
  generalize (w3.setCell ⟨cb, 2050, none⟩ Cod.vbP).setCell ⟨cb, 2051, none⟩ (Cod.vdP pb) = w4 at *
  clear hcell hcell2 z1 z2
  have HZ := Lib.hid hs
  have HP : Hid (Cod.packed s.data.toList = (Cod.runs Cod.pk s.data.toList 0 Cod.c0 (Cod.b4 s.size)).2 ++ Cod.b4 (Cod.runs Cod.pk s.data.toList 0 Cod.c0 (Cod.b4 s.size)).1.low) := by
    rw [Cod.runs_pk]; rfl
  clear hs h3
  go_loopg [5, 24] s.size (fun gk i5 i24 wr => ∃ (i a : Nat) (c' : Cod.C) (st : List UInt8), i24 = .int .i64 (i : Int) ∧ i5 = .int .u8 (a : Int) ∧ Hid (i + gk = s.size ∧ a < 256) ∧ Hid (Cod.StP w cb pb c' st wr) ∧ Hid (Cod.Wf c') ∧ Hid (Cod.runs Cod.pk (s.data.toList.drop i) a c' st = Cod.runs Cod.pk s.data.toList 0 Cod.c0 (Cod.b4 s.size)) ∧ Hid (st.length ≤ 4 + 32 * i))
  case atStart => exact ⟨0, 0, Cod.c0, _, rfl, rfl, ⟨by omega, by omega⟩, HS, Cod.wf_c0, rfl, Nat.le_refl 4⟩
  case round =>
    obtain ⟨i, a, c', st, rfl, rfl, hi, HS', HW, HR, HL⟩ := hrel
    clear HS
    by_cases hn : i = s.size
    · subst hn
      have hfin : Cod.packed s.data.toList = st ++ Cod.b4 c'.low := by
        have h6 := HP.out
        rw [← HR.out, List.drop_of_length_le (show s.data.toList.length ≤ s.size from Nat.le_of_eq Array.length_toList)] at h6
        exact h6
      obtain ⟨v, hv1, hv2⟩ := HS'.out.pk
      obtain ⟨av, capv, hveq, -⟩ := hv2.cells
      have AC : ∀ W', Mod [] wr W' → (convert 28 9 v).run Tryz.prog W' = .ok (.string (bs st)) W' := fun W' m => (hv2.mod m (by simp)).conv 28 9 5 (by kernel_rfl) (by kernel_rfl) (by kernel_rfl)
      have AV : ∀ W', Mod [] wr W' → W'.cell? ⟨pb, 0, none⟩ = some v := fun W' m => (hv1.kept m (by simp)).cell 0
      have AL : ∀ W', Mod [] wr W' → W'.cell? ⟨cb, 0, none⟩ = some (.int .u32 c'.low) := fun W' m => ((HS'.out.blk.kept m (by simp)).cell 0).trans (cc_lo ..)
      have hl1 : (c'.low : Int) < 4294967296 := by have h1 := HW.out.le; have h2 := HW.out.hi; omega
      have hl2 : wrap64 (c'.low : Int) = c'.low := by unfold wrap64; omega
      have hput : Oct.putS (c'.low : Int) 4 = bs (Cod.b4 c'.low) := Cod.put4 _ (by omega)
      have HPut : Hid (∀ W', Mod [] wr W' → Calls Tryz.prog 16 #[.int .i64 (c'.low : Int), .int .i64 4] W' fun e w'' => e = .returned (.string (bs (Cod.b4 c'.low))) ∧ Mod [] W' w'') := fun W' m => by
        rw [← hput]
        exact (put_all _ _ W' (by omega)).mono fun e w'' h => ⟨h.1, Mod.of_below h.2⟩
      have HM := Lib.hid HS'.out.mod
      have hz1 : (bs st).size ≤ 40000000 := by have h1 := HL.out; have h2 := HZ.out; rw [bs_size]; omega
      have hz2 : (bs (Cod.b4 c'.low)).size ≤ 4 := Nat.le_refl 4
      clear hput hl1 hv1 hv2 HS' HW HR HP HL hi HZ
      subst hveq
      go_wp2_with fail
      refine wp_region_mask 10 [true, true, true, true, true, true, true, true, true, true] [] (by kernel_rfl) (by kernel_rfl) (by simp) ?_
      simp only [pickM]
      refine steady_go (a' := ?_) (by kernel_rfl) ?_ (fun w' hw' K Q hK => ?_) ?_
      rotate_left 2
      · go_wp2_with fail; exact hK _ (Mod.refl _ _)
      rotate_left
      · rfl
      refine steady_go (a' := ?_) (by kernel_rfl) ?_ (fun w' hw' K Q hK => ?_) ?_
      rotate_left 2
      · go_wp2_with fail; exact hK _ (Mod.refl _ _)
      rotate_left
      · rfl
      refine steady_go (a' := ?_) (by kernel_rfl) ?_ (fun w' hw' K Q hK => ?_) ?_
      rotate_left 2
      · go_wp2_with fail; exact hK _ (Mod.refl _ _)
      rotate_left
      · rfl
      refine steady_go (a' := ?_) (by kernel_rfl) ?_ (fun w' hw' K Q hK => ?_) ?_
      rotate_left 2
      · go_wp2_with fail; exact hK _ (Mod.refl _ _)
      rotate_left
      · rfl
      refine steady_go (a' := ?_) (by kernel_rfl) ?_ (fun w' hw' K Q hK => ?_) ?_
      rotate_left 2
      · go_wp2_with fail; exact hK _ (Mod.refl _ _)
      rotate_left
      · rfl
      refine steady_go (a' := ?_) (by kernel_rfl) ?_ (fun w' hw' K Q hK => ?_) ?_
      rotate_left 2
      · go_wp2_with fail; exact hK _ (Mod.refl _ _)
      rotate_left
      · rfl
      refine steady_go (a' := ?_) (by kernel_rfl) ?_ (fun w' hw' K Q hK => ?_) ?_
      rotate_left 2
      · go_wp2_with fail; exact hK _ (Mod.refl _ _)
      rotate_left
      · rfl
      refine steady_go (a' := ?_) (by kernel_rfl) ?_ (fun w' hw' K Q hK => ?_) ?_
      rotate_left 2
      · go_wp2_with fail
        refine ((HPut.out) _ hw').mono ?_
        rintro e w'' ⟨rfl, m''⟩
        go_wp2_with fail
        exact hK _ m''
      rotate_left
      · rfl
      refine steady_go (a' := ?_) (by kernel_rfl) ?_ (fun w' hw' K Q hK => ?_) ?_
      rotate_left 2
      · go_wp2_with fail; exact hK _ (Mod.refl _ _)
      rotate_left
      · rfl
      refine steady_go (a' := ?_) (by kernel_rfl) ?_ (fun w' hw' K Q hK => ?_) ?_
      rotate_left 2
      · go_wp2_with fail; exact hK _ (Mod.refl _ _)
      rotate_left
      · rfl
      refine steady_done ?_
      refine lates_end (fun w' hw' _ => ?_)
      simp only [List.drop_succ_cons, List.drop_zero]
      go_wp2_with fail
      go_ret
      exact ⟨ret_str (by rw [hfin]; exact bs_ext (by simp [bs])), HM.out.then hw'⟩
    · have hlt : i < s.size := by have := hi.out; omega
      have h4 : (i : Int) < (s.size : Int) := by omega
      have h5 : (0 : Int) ≤ (i : Int) := by omega
      have h8 : (i : Int) < 1048576 := by have := HZ.out; omega
      clear hn
      have HC := Lib.hid (codeP_any w cb pb c' HW.out st a s[i].toNat hi.out.2 (UInt8.toNat_lt _) wr HS'.out (by have h1 := HL.out; have h2 := HZ.out; omega))
      have HW2 := Lib.hid (Cod.code_wf Cod.pk HW.out st a s[i].toNat)
      have HL2 : Hid ((Cod.code Cod.pk c' st a s[i].toNat).2.2.length ≤ st.length + 32) := Cod.bits_len _ _ 8 _ _ _
      have HR2 : Hid (Cod.runs Cod.pk (s.data.toList.drop (i + 1)) ((Cod.code Cod.pk c' st a s[i].toNat).1 % 256) (Cod.code Cod.pk c' st a s[i].toNat).2.1 (Cod.code Cod.pk c' st a s[i].toNat).2.2 = Cod.runs Cod.pk s.data.toList 0 Cod.c0 (Cod.b4 s.size)) := by
        have h6 := HR.out
        rw [List.drop_eq_getElem_cons (show i < s.data.toList.length from (by rw [Array.length_toList]; exact hlt))] at h6
        exact h6
      go_wp2_with fail
      refine HC.out.mono ?_
      rintro e w5 ⟨rfl, hS5⟩
      have ha5 : (Cod.code Cod.pk c' st a s[i].toNat).1 % 256 < 256 := by omega
      clear HC HS' HW HR
      generalize (Cod.code Cod.pk c' st a s[i].toNat).1 % 256 = a5 at *
      generalize (Cod.code Cod.pk c' st a s[i].toNat).2.1 = c5 at *
      generalize (Cod.code Cod.pk c' st a s[i].toNat).2.2 = s5 at *
      have HA5 := Lib.hid ha5
      have HS5 := Lib.hid hS5
      clear ha5 hS5
      go_wp2_with fail
      go_roundg (gk - 1)
      case measure => have := hi.out.1; omega
      case rel =>
        refine ⟨i + 1, a5, c5, s5, by rw [Int.natCast_add]; rfl, rfl, ⟨?_, HA5.out⟩, HS5.out, HW2.out, HR2.out, ?_⟩
        · have := hi.out.1; show i + 1 + (gk - 1) = s.size; omega
        · have h1 := HL.out; have h2 := HL2.out; show s5.length ≤ 4 + 32 * (i + 1); omega

theorem pack_all (s : ByteArray) (w : World) : Calls Tryz.prog 10 #[.string s] w fun e w' => e = .returned (.string (Cod.packS s)) ∧ Mod [] w w' := by
  unfold Cod.packS
  by_cases h : s.size ≤ 1048576
  · rw [if_pos h]; exact pack_fit s h w
  · rw [if_neg h]; exact (pack_big s (by omega) w).mono fun e w' ⟨h1, h2⟩ => ⟨h1, h2 ▸ Mod.refl _ _⟩
end Go.Proofs.YtjgklacbelggdaaGreatDoor
