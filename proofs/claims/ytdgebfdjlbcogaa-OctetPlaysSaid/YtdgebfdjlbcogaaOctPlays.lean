/- The walk of OctetPlays. -/
import Derived.Test.YtdgebfdjlbcogaaOctShown
import Derived.Test.YtdgebfdjlbcogaaOctTwo
namespace Go.Proofs.Ytdgebfdjlbcogaa
open Go.RowKit

/-- A slice of Calls that came in. -/
def CallRow (w : World) (oa : Option Addr) (n : Nat) (cs : List (Int × Int)) : Prop :=
  n = cs.length ∧ n ≤ maxLen ∧ (0 < n → ∃ b off, oa = some ⟨b, off, none⟩ ∧ b < w.heap.size ∧ ∀ i (h : i < cs.length), w.cell? ⟨b, off + i * 2, none⟩ = some (.int .i64 cs[i].1) ∧ w.cell? ⟨b, off + i * 2 + 1, none⟩ = some (.int .i64 cs[i].2))

theorem quiet_left {P : Program} {f : FuncId} {args : Array Value} {w : World} {n : Nat} {v : Value}
    (h : Calls P f args (w.drewN n) fun e w' => e = .returned v ∧ w.drewN n = w') : Calls P f args (w.drewN n) fun e w'' => e = .returned v ∧ ∃ m, w'' = w.drewN m :=
  h.mono fun _ _ ⟨he, hm⟩ => ⟨he, n, hm.symm⟩

set_option maxRecDepth 100000 in
set_option maxHeartbeats 4000000 in
theorem plays_walk (s : ByteArray) (oa : Option Addr) (n cap : Nat) (cs : List (Int × Int)) (w : World) (hs : s.size ≤ maxLen) (hcr : CallRow w oa n cs) :
    Calls Try.prog 9 #[.string s, .slice oa n cap] w fun e w' => e = .returned (.bool true) ∧ Below w.heap.size w w' := by
  obtain ⟨hn, hnm, hcells⟩ := hcr
  unfold maxLen at hnm
  have HC := Lib.hid hcells
  have HN := Lib.hid hn
  clear hcells hn
  go_enter Try.func9, Try.ntmps9
  go_wp2_with fail
  refine (shown_any w).mono ?_
  rintro e w1 ⟨rfl, hb1⟩
  have M1 := Lib.hid (Mod.of_below hb1)
  clear hb1
  have hfs := Oct.fewB_size s
  have HF := Lib.hid (fun w => few_any s w hs)
  generalize Oct.fewB s = x at *
  go_wp2_with fail
  refine (HF.out _).mono ?_
  rintro e w2 ⟨rfl, rfl⟩
  go_wp2_with fail
  refine (read_any x _ (by unfold maxLen; omega)).mono ?_
  rintro e w2 ⟨rfl, hx, m2⟩
  have M2 := Lib.hid (M1.out.trans m2 (by simp))
  have q2 : w.heap.size ≤ w1.heap.size := M1.out.size
  have q2' : w1.heap.size < w2.heap.size := hx.lt
  have HX := Lib.hid hx
  clear hx m2 M1
  generalize ebx : w1.heap.size = bx at *
  clear ebx
  go_wp2_with fail
  refine (HF.out _).mono ?_
  rintro e w3 ⟨rfl, rfl⟩
  have HY : Hid (Rd (w2.alloc (.cells #[.string x, .int .i64 0, .bool false] 44)) w2.heap.size x 0 false) := by
    refine ⟨?_, ?_, ?_, ?_, ?_, ?_, Nat.zero_le _, by omega⟩ <;> simp
  have HX3 := Lib.hid (HX.out.alloc (.cells #[.string x, .int .i64 0, .bool false] 44))
  have M3 := Lib.hid (M2.out.alloc (.cells #[.string x, .int .i64 0, .bool false] 44))
  clear M2 HX HF
  go_wp2_with fail
  generalize w2.alloc (.cells #[.string x, .int .i64 0, .bool false] 44) = w3 at *
  generalize eby : w2.heap.size = bY at *
  clear eby
  go_loopw [8] (fun i wr => ∃ (k p : Nat) (f : Bool), k ≤ n ∧ k ≤ 30 ∧ i = .int .i64 k ∧ Rd wr bx x p f ∧ Rd wr bY x p f ∧ Mod [] w wr) (fun i _ => n - (intOf i).toNat)
  case atStart => exact ⟨0, 0, false, Nat.zero_le _, by omega, rfl, HX3.out, HY.out, M3.out⟩
  case round =>
    obtain ⟨k, p, f, hkn, hk30, rfl, hxr, hyr, Mr⟩ := hrel
    have HXr := Lib.hid hxr
    have HYr := Lib.hid hyr
    have HMr := Lib.hid Mr
    clear hxr hyr Mr HX3 HY M3
    by_cases hlt : k < n
    · by_cases hlt30 : k < 30
      · have hks : k < cs.length := by have := HN.out; omega
        obtain ⟨b, off, rfl, hbw, hc⟩ := HC.out (by omega)
        have c1 := (HMr.out.cell (p := ⟨b, off + k * 2, none⟩) hbw (by simp)).trans (hc k hks).1
        have c2 := (HMr.out.cell (p := ⟨b, off + k * 2 + 1, none⟩) hbw (by simp)).trans (hc k hks).2
        have HC' := Lib.hid (hc k hks)
        clear hc
        generalize cs[k].1 = d at *
        generalize cs[k].2 = m at *
        have i0 : (0 : Int) ≤ k := by omega
        have i1 : (k : Int) < n := by omega
        go_wp2_with fail
        refine (one_all bx x p f d m _ HXr.out).mono ?_
        rintro e w5 ⟨rfl, hx5, m5⟩
        have HY5 := Lib.hid (HYr.out.kept m5 (by simp; omega))
        have M5 := Lib.hid (HMr.out.trans m5 (by simp; omega))
        have HX5 := Lib.hid hx5
        have c1' := (M5.out.cell (p := ⟨b, off + k * 2, none⟩) hbw (by simp)).trans HC'.out.1
        have c2' := (M5.out.cell (p := ⟨b, off + k * 2 + 1, none⟩) hbw (by simp)).trans HC'.out.2
        clear hx5 m5 HXr HYr HMr c1 c2
        go_wp2_with fail
        refine (two_all bY x p f d m _ HY5.out).mono ?_
        rintro e w6 ⟨rfl, hy6, m6⟩
        have HXX := Lib.hid (HX5.out.kept m6 (by simp; omega))
        have M6 := Lib.hid (M5.out.trans m6 (by simp; omega))
        have HYY := Lib.hid hy6
        clear hy6 m6 HX5 HY5 M5 c1' c2'
        generalize (Oct.oneR x p f d m).1 = r1 at *
        generalize (Oct.oneR x p f d m).2.1 = r2 at *
        generalize (Oct.oneR x p f d m).2.2.1 = p' at *
        generalize (Oct.oneR x p f d m).2.2.2 = f' at *
        obtain ⟨y0, y1, y2, -, -, -, -, -⟩ := HYY.out
        have hfb : (f' != f') = false := by cases f' <;> rfl
        go_wp2_with fail
        go_quiet ((first | (go_at_call 26; exact quiet_left (at_any bx _ _ _ _ (HXX.out.drewN _))) | (go_at_call 25; exact Calls.quiet_of (left_any bx _ _ _ _ (HXX.out.drewN _))) | (go_at_call 30; exact Calls.quiet_of (rleft_any bY _ _ _ _ (HYY.out.drewN _))) | (go_at_call 23; exact quiet_left (failed_any bx _ _ _ _ (HXX.out.drewN _)))))
        go_wp2_with fail
        go_roundw
        case rel => exact ⟨k + 1, p', f', by omega, by omega, by go_num, HXX.out.drewN _, HYY.out.drewN _, M6.out.drewN _⟩
        case measure => simp [intOf]; omega
      · have d1 : decide ((k : Int) < n) = true := by simp; omega
        have d2 : decide ((k : Int) < 30) = false := by simp; omega
        have HXX := HXr
        have HYY := HYr
        obtain ⟨y0, y1, y2, -, -, -, -, -⟩ := HYr.out
        have hfb : (f != f) = false := by cases f <;> rfl
        have hfb' : (f == f) = true := by cases f <;> rfl
        go_wp2_with fail
        go_quiet ((first | (go_at_call 26; exact quiet_left (at_any bx _ _ _ _ (HXX.out.drewN _))) | (go_at_call 25; exact Calls.quiet_of (left_any bx _ _ _ _ (HXX.out.drewN _))) | (go_at_call 30; exact Calls.quiet_of (rleft_any bY _ _ _ _ (HYY.out.drewN _))) | (go_at_call 23; exact quiet_left (failed_any bx _ _ _ _ (HXX.out.drewN _)))))
        go_wp2_with fail
        go_ret
        exact ⟨rfl, (HMr.out.drewN _).to_below⟩
    · have d1 : decide ((k : Int) < n) = false := by simp; omega
      have HXX := HXr
      have HYY := HYr
      obtain ⟨y0, y1, y2, -, -, -, -, -⟩ := HYr.out
      have hfb : (f != f) = false := by cases f <;> rfl
      have hfb' : (f == f) = true := by cases f <;> rfl
      go_wp2_with fail
      go_quiet ((first | (go_at_call 26; exact quiet_left (at_any bx _ _ _ _ (HXX.out.drewN _))) | (go_at_call 25; exact Calls.quiet_of (left_any bx _ _ _ _ (HXX.out.drewN _))) | (go_at_call 30; exact Calls.quiet_of (rleft_any bY _ _ _ _ (HYY.out.drewN _))) | (go_at_call 23; exact quiet_left (failed_any bx _ _ _ _ (HXX.out.drewN _)))))
      go_wp2_with fail
      go_ret
      exact ⟨rfl, (HMr.out.drewN _).to_below⟩
end Go.Proofs.Ytdgebfdjlbcogaa
