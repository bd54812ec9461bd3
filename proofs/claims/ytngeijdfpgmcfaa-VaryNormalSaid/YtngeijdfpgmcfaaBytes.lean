/- Cells that are bytes, as lists of bytes: the conversion to a string; small facts on rows. -/
import Derived.Test.YtngeijdfpgmcfaaRows
import Derived.WalkKit
import Derived.WalkSpells
import Derived.WalkLawsBesides
import Derived.Lib.Hide
import Derived.Laws.IdiomStrings
namespace Go.Proofs.Ytngeijdfpgmcfaa
open Go.RowKit

theorem ret_int {k : IntKind} {a b : Int} (h : a = b) : Ending.returned (.int k a) = .returned (.int k b) := by rw [h]
theorem ret_str {a b : ByteArray} (h : a = b) : Ending.returned (.string a) = .returned (.string b) := by rw [h]
theorem ret_bool {a b : Bool} (h : a = b) : Ending.returned (.bool a) = .returned (.bool b) := by rw [h]

theorem Try.info_u8 : (Try.prog.info? 5).map (fun i => (i.zero, i.size, i.bytes)) = some (some (.int .u8 0), 1, 1) := by kernel_rfl

/-- A byte as a cell. -/
def bcell (b : UInt8) : Value := .int .u8 b.toNat

/-- A string of a list of bytes. -/
def bs (l : List UInt8) : ByteArray := ⟨l.toArray⟩
theorem bs_size (l : List UInt8) : (bs l).size = l.length := rfl
theorem bs_data (l : List UInt8) : (bs l).data.toList = l := rfl
theorem bs_of (s : ByteArray) : bs s.data.toList = s := by cases s; simp [bs]
theorem bs_inj {a b : List UInt8} (h : bs a = bs b) : a = b := by have := congrArg (fun s => s.data.toList) h; simpa [bs_data] using this

theorem bs_ext {a b : ByteArray} (h : a.data.toList = b.data.toList) : a = b := by rw [← bs_of a, ← bs_of b, h]

theorem foldl_push (ns : List UInt8) : ∀ (s : ByteArray), (ns.map fun b => (b.toNat : Int)).foldl (fun r n => r.push (UInt8.ofNat n.toNat)) s = ⟨s.data ++ ns.toArray⟩ := by
  induction ns with
  | nil => intro s; simp
  | cons b r ih =>
    intro s
    simp only [List.map_cons, List.foldl_cons, Int.toNat_natCast, UInt8.ofNat_toNat]
    rw [ih]
    congr 1
    show s.data.push b ++ r.toArray = _
    apply Array.ext'
    simp

theorem conv_bytes {P : Program} (w : World) (src dst e : TypeId) (a : Addr) (cap : Nat) (l : List UInt8)
    (hs : P.underlying src = some (.slice e)) (he : P.underlying e = some (.int .u8)) (hd : P.underlying dst = some .string)
    (h : ∀ j u, l[j]? = some u → w.cell? (a.add j) = some (bcell u)) :
    (convert src dst (.slice (some a) l.length cap)).run P w = .ok (.string (bs l)) w := by
  rw [run_convert_bytes_string w src dst e _ _ _ hs he hd]
  have hl := run_loadCells_list (P := P) w a (l.map bcell) (fun j v hv => by
    rw [List.getElem?_map] at hv
    cases hj : l[j]? with
    | none => rw [hj] at hv; simp at hv
    | some u => rw [hj] at hv; simp at hv; subst hv; exact h j u hj)
  rw [List.length_map] at hl
  rw [run_bytesToString w a l.length cap (l.map fun b => (b.toNat : Int)) (by rw [hl]; simp only [List.map_map]; rfl)]
  rw [foldl_push]
  congr 2
  show (⟨(#[] : Array UInt8) ++ l.toArray⟩ : ByteArray) = _
  simp [bs]

/-- The same of a block that has just been made. -/
theorem conv_new {P : Program} (w : World) (src dst e : TypeId) (cap n : Nat) (l : List UInt8) (cs : Array Value) (t : TypeId)
    (hs : P.underlying src = some (.slice e)) (he : P.underlying e = some (.int .u8)) (hd : P.underlying dst = some .string)
    (hn : n = l.length) (h : cs.toList.take n = l.map bcell) :
    (convert src dst (.slice (some ⟨w.heap.size, 0, none⟩) n cap)).run P (w.alloc (.cells cs t)) = .ok (.string (bs l)) (w.alloc (.cells cs t)) := by
  subst hn
  refine conv_bytes _ src dst e ⟨w.heap.size, 0, none⟩ cap l hs he hd fun j u hj => ?_
  have hj' : j < l.length := by
    rcases Nat.lt_or_ge j l.length with h' | h'
    · exact h'
    · rw [List.getElem?_eq_none h'] at hj; simp at hj
  have : (w.alloc (.cells cs t)).cell? (Addr.add ⟨w.heap.size, 0, none⟩ j) = cs[j]? := by
    by_cases h0 : j = 0
    · subst h0; simp [Addr.add]
    · simp [Addr.add, h0]
  rw [this]
  have h2 : (cs.toList.take l.length)[j]? = some (bcell u) := by rw [h, List.getElem?_map, hj]; rfl
  rw [List.getElem?_take] at h2
  simp only [hj', if_true] at h2
  rw [← h2]; simp

/-- The same of a row of the call's own. -/
theorem conv_own {P : Program} (w : World) (src dst e e' : TypeId) (base : Nat) (v : Value) (l : List UInt8)
    (hs : P.underlying src = some (.slice e)) (he : P.underlying e = some (.int .u8)) (hd : P.underlying dst = some .string)
    (h : w.ownsRow base e' 1 v l.length (l.map bcell)) :
    (convert src dst v).run P w = .ok (.string (bs l)) w := by
  have hc : ∀ g, v.ownBlock = some g → ∀ j u, (l.map bcell)[j]? = some u → w.cell? ((⟨g, 0, none⟩ : Addr).add j) = some u := fun g hg => h.cells hg
  rcases h.2 with ⟨rfl, hn⟩ | ⟨g, cap, cur, rfl, _, hgg, _, _, _, htake⟩
  · rw [run_convert_bytes_string w src dst e _ _ _ hs he hd]
    have : l = [] := List.eq_nil_of_length_eq_zero hn
    subst this
    rfl
  · refine conv_bytes w src dst e ⟨g, 0, none⟩ cap l hs he hd fun j u hj => ?_
    exact hc g rfl j (bcell u) (by rw [List.getElem?_map, hj]; rfl)

/-- []byte(s): a new row whose first cells are the bytes. -/
theorem bytes_of {P : Program} (w : World) (src dst e : TypeId) (s : ByteArray) (hs : P.underlying src = some .string) (hd : P.underlying dst = some (.slice e)) (he : P.underlying e = some (.int .u8)) :
    ∃ cap wb, (convert src dst (.string s)).run P w = .ok (.slice (some ⟨w.heap.size, 0, none⟩) s.size cap) wb ∧ s.size ≤ cap ∧
      (∀ j u, s.data.toList[j]? = some u → wb.cell? ⟨w.heap.size, j, none⟩ = some (bcell u)) ∧ (∀ j, j < s.size → wb.frozen? ⟨w.heap.size, j, none⟩ = false) ∧
      Below w.heap.size w wb ∧ w.heap.size < wb.heap.size := by
  refine ⟨_, _, run_bytes_of_string w src dst e s hs hd he, grownCap_ge w _ _ _, ?_, ?_, ?_, ?_⟩
  · intro j u hj
    have := World.cell?_alloc_mark w.drew (bytesRow s (grownCap w s.size 0 e)) e ((bytesRow s (grownCap w s.size 0 e)).size, (bytesRow s (grownCap w s.size 0 e)).size + 1) j
    refine Eq.trans this ?_
    unfold bytesRow
    have hjs : s.data[j]? = some u := by simpa using hj
    have hlt : j < s.data.size := by
      rcases Nat.lt_or_ge j s.data.size with h' | h'
      · exact h'
      · rw [Array.getElem?_eq_none h'] at hjs; simp at hjs
    rw [Array.getElem?_append_left (by simpa using hlt), Array.getElem?_map, hjs]
    rfl
  · intro j hj
    have hsz : s.size ≤ (bytesRow s (grownCap w s.size 0 e)).size := by unfold bytesRow; simp [ByteArray.size_data]
    unfold World.frozen?
    have hh : (w.drew.alloc (.cells (bytesRow s (grownCap w s.size 0 e)) e ((bytesRow s (grownCap w s.size 0 e)).size, (bytesRow s (grownCap w s.size 0 e)).size + 1))).heap[w.heap.size]? = some (.cells (bytesRow s (grownCap w s.size 0 e)) e ((bytesRow s (grownCap w s.size 0 e)).size, (bytesRow s (grownCap w s.size 0 e)).size + 1)) := by
      show (w.heap.push _)[w.heap.size]? = _
      simp
    simp only [hh]
    simp
    omega
  · exact (Below.refl _ _).drew.alloc (Nat.le_refl _) _
  · show _ < (w.heap.push _).size
    simp

end Go.Proofs.Ytngeijdfpgmcfaa
