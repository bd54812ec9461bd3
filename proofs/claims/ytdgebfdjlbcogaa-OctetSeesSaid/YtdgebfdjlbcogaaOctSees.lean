/- The walk of OctetSees. -/
import Derived.Test.YtdgebfdjlbcogaaOctShown
namespace Go.Proofs.Ytdgebfdjlbcogaa
open Go.RowKit

set_option maxHeartbeats 1000000 in
theorem sees_walk (a0 : ByteArray) (a1 a2 : Int) (w : World) (w0 : a0.size ≤ maxLen) (w1 : 0 ≤ a1 ∧ a1 ≤ 255) (w2 : 0 ≤ a2 ∧ a2 ≤ 255) :
    Calls Try.prog 4 #[.string a0, .int .u8 a1, .int .u8 a2] w fun e w' => e = .returned (.bool true) ∧ Below w.heap.size w w' := by
  obtain ⟨c1, c2⟩ := w1
  obtain ⟨b1, b2⟩ := w2
  go_enter Try.func4, Try.ntmps4
  go_wp2_with fail
  refine (shown_any w).mono ?_
  rintro e w2 ⟨rfl, hb1⟩
  go_wp2_with fail
  refine (few_any _ _ w0).mono ?_
  rintro e w3 ⟨rfl, rfl⟩
  have hx1 := Oct.fewB_size a0
  generalize Oct.fewB a0 = x at *
  obtain ⟨cap, wb, hrun, hcap, hcell, hfro, hbel, hsz⟩ := bytes_of (P := Try.prog) w2 9 27 5 x Try.underlying9 Try.underlying27 Try.underlying5
  have HC := Lib.hid hcell
  have HF := Lib.hid hfro
  clear hcell hfro
  by_cases h0 : x.size = 0
  · have h0' : ((x.size : Int) == 0) = true := by simp [h0]
    clear h0
    go_wp2_with fail
    go_ret
    exact ⟨rfl, hb1.trans (hbel.mono hb1.size)⟩
  · have h0' : ((x.size : Int) == 0) = false := by simp [h0]
    have h0'' : 0 < x.size := by omega
    clear h0
    have hcv1 := conv_bytes (P := Try.prog) wb 27 9 5 ⟨w2.heap.size, 0, none⟩ cap x.data.toList Try.underlying27 Try.underlying5 Try.underlying9 (fun j u hj => by have := HC.out j u hj; by_cases e : j = 0 <;> simp_all [Addr.add])
    rw [bs_of, show x.data.toList.length = x.size by simp [ByteArray.size_data]] at hcv1
    go_wp2_with fail
    refine (sum_any _ _ (by unfold maxLen; omega)).mono ?_
    rintro e w3 ⟨rfl, rfl⟩
    obtain ⟨k, hk⟩ := Int.eq_ofNat_of_zero_le (Int.emod_nonneg a1 (b := (x.size : Int)) (by omega))
    have hk1 : k < x.size := by have := Int.emod_lt_of_pos a1 (b := (x.size : Int)) (by omega); omega
    obtain ⟨u, hu⟩ : ∃ u, x.data.toList[k]? = some u := ⟨x.data.toList[k]'(by simpa using hk1), by simp [hk1]⟩
    have hcell := HC.out k u hu
    unfold bcell at hcell
    have hfz := HF.out k hk1
    have hu8 := u.toNat_lt
    have HU := Lib.hid hu
    have hs1 := Oct.sum_sees x.data.toList k u (UInt8.ofNat a2.toNat) hu
    have hx5 : (u ^^^ UInt8.ofNat a2.toNat).toNat = u.toNat ^^^ a2.toNat := by rw [UInt8.toNat_xor, UInt8.toNat_ofNat_of_lt' (by have : UInt8.size = 256 := rfl; omega)]
    have hxor : bits BinOp.xor IntKind.u8 (u.toNat : Int) a2 = ((u ^^^ UInt8.ofNat a2.toNat).toNat : Nat) := by
      rw [u8_xor _ _ (by omega) (by omega) b1 (by omega), hx5, Int.toNat_natCast]
    have hcv2 := conv_bytes (P := Try.prog) (wb.setCell ⟨w2.heap.size, k, none⟩ (bcell (u ^^^ UInt8.ofNat a2.toNat))) 27 9 5 ⟨w2.heap.size, 0, none⟩ cap (x.data.toList.set k (u ^^^ UInt8.ofNat a2.toNat)) Try.underlying27 Try.underlying5 Try.underlying9 (fun j v hj => by
      rw [List.getElem?_set] at hj
      have ha : Addr.add ⟨w2.heap.size, 0, none⟩ j = ⟨w2.heap.size, j, none⟩ := by by_cases e : j = 0 <;> simp [Addr.add, e]
      rw [ha]
      by_cases e : k = j
      · subst e
        simp only [if_true] at hj
        split at hj
        · simp at hj; subst hj; exact World.cell?_setCell_same _ _ _ (HC.out k u hu)
        · simp at hj
      · simp only [e, if_false] at hj
        exact (World.cell?_setCell_other wb ⟨w2.heap.size, k, none⟩ ⟨w2.heap.size, j, none⟩ _ (by intro h; exact e (Addr.mk.inj h).2.1)).trans (HC.out j v hj))
    have hv0 : decide (UInt8.ofNat a2.toNat = 0) = (a2 == 0) := by
      have : (UInt8.ofNat a2.toNat = 0) ↔ a2 = 0 := by
        rw [← UInt8.toNat_inj, UInt8.toNat_ofNat_of_lt' (by have : UInt8.size = 256 := rfl; omega)]
        constructor
        · intro h; have h' : a2.toNat = 0 := h; omega
        · intro h; subst h; rfl
      by_cases h : a2 = 0 <;> simp [this, h]
    rw [hv0] at hs1
    rw [List.length_set, show x.data.toList.length = x.size by simp [ByteArray.size_data]] at hcv2
    have hbx : (bs x.data.toList) = x := bs_of x
    unfold bs at hbx
    rw [hbx] at hs1
    unfold bcell at hcv2
    unfold bs at hcv2
    have hlen : (⟨(x.data.toList.set k (u ^^^ UInt8.ofNat a2.toNat)).toArray⟩ : ByteArray).size ≤ maxLen := by
      show (x.data.toList.set k (u ^^^ UInt8.ofNat a2.toNat)).toArray.size ≤ maxLen
      unfold maxLen
      rw [List.size_toArray, List.length_set, show x.data.toList.length = x.size by simp [ByteArray.size_data]]; omega
    clear hu hcv1 hx5 hv0 hbx
    generalize (⟨(x.data.toList.set k (u ^^^ UInt8.ofNat a2.toNat)).toArray⟩ : ByteArray) = X' at *
    generalize u ^^^ UInt8.ofNat a2.toNat = u' at *
    go_wp2_with fail
    refine (sum_any _ _ hlen).mono ?_
    rintro e w3 ⟨rfl, rfl⟩
    have hB : Below w.heap.size w (wb.setCell ⟨w2.heap.size, k, none⟩ (.int .u8 u'.toNat)) := (hb1.trans (hbel.mono hb1.size)).setCell hb1.size _
    by_cases h2 : a2 = 0
    · subst h2
      have hs2 : ((Oct.sum X' : Int) == (Oct.sum x : Int)) = true := by rw [hs1]; rfl
      clear hs1
      go_wp2_with fail
      go_ret
      exact ⟨rfl, hB⟩
    · have h3 : (a2 == 0) = false := by simp [h2]
      have hs2 : ((Oct.sum X' : Int) == (Oct.sum x : Int)) = false := by rw [hs1]; exact h3
      clear hs1
      go_wp2_with fail
      go_ret
      exact ⟨rfl, hB⟩
end Go.Proofs.Ytdgebfdjlbcogaa
