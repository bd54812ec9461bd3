/- Cells by a function of their place; a row of bytes of the call's own, of which no element is frozen: what is put behind it, what it is as a string. -/
import Derived.Test.YtoidfnknckfjhaaGreatDoorMono
import Derived.Room.AppendOwn
import Derived.Lib.FrozenHead
namespace Go.Proofs.YtoidfnknckfjhaaGreatDoor
open Go.RowKit
set_option linter.unusedVariables false

def tab (n : Nat) (f : Nat → Value) : Array Value := ((List.range n).map f).toArray
theorem tab_size (n : Nat) (f : Nat → Value) : (tab n f).size = n := by simp [tab]
theorem tab_get {n i : Nat} (f : Nat → Value) (h : i < n) : (tab n f)[i]? = some (f i) := by simp [tab, h]
theorem tab_congr {n : Nat} {f g : Nat → Value} (h : ∀ i, i < n → f i = g i) : tab n f = tab n g := by
  unfold tab
  congr 1
  exact List.map_congr_left fun i hi => h i (by simpa using hi)
theorem tab_set (n i : Nat) (f : Nat → Value) (v : Value) : (tab n f).setIfInBounds i v = tab n fun j => if j = i then v else f j := by
  apply Array.ext_getElem?
  intro j
  rw [Array.getElem?_setIfInBounds, tab_size]
  by_cases hj : j < n
  · rw [tab_get _ hj, tab_get _ hj]
    by_cases e : i = j
    · subst e; simp [hj]
    · have : ¬ j = i := fun h => e h.symm
      simp [e, this]
  · have h1 : ∀ g : Nat → Value, (tab n g)[j]? = none := fun g => Array.getElem?_eq_none (by rw [tab_size]; omega)
    rw [h1, h1]
    by_cases e : i = j
    · subst e; simp [hj]
    · simp [e]

/-- A row of bytes. -/
def RowM (w : World) (B : Nat) (v : Value) (l : List UInt8) : Prop :=
  ∃ g cap cur fz, v = .slice (some ⟨g, 0, none⟩) l.length cap ∧ B ≤ g ∧ w.heap[g]? = some (.cells cur 5 fz) ∧ (∀ i, i < cur.size → ¬ (fz.1 ≤ i ∧ i < fz.2)) ∧ l.length ≤ cap ∧ cap ≤ maxLen ∧ cur.size = cap ∧
    cur.toList.take l.length = l.map bcell
theorem RowM.lt {w : World} {B : Nat} {v : Value} {l : List UInt8} (h : RowM w B v l) : ∀ k, v.ownBlock = some k → B ≤ k ∧ k < w.heap.size := by
  obtain ⟨g, cap, cur, fz, rfl, hb, hg, _⟩ := h
  intro k hk
  simp [Value.ownBlock] at hk
  subst hk
  exact ⟨hb, (Array.getElem?_eq_some_iff.1 hg).1⟩
theorem RowM.ne {w : World} {B : Nat} {v : Value} {l : List UInt8} (h : RowM w B v l) {b : Nat} {cs : Array Value} {t : TypeId} (hb : Blk w b cs t) (ht : t ≠ 5) : v.ownBlock ≠ some b := by
  obtain ⟨g, cap, cur, fz, rfl, _, hg, _⟩ := h
  intro hk
  simp [Value.ownBlock] at hk
  subst hk
  unfold Blk at hb
  rw [hg] at hb
  simp at hb
  exact ht hb.2.1.symm
theorem RowM.kept {w w' : World} {B : Nat} {v : Value} {l : List UInt8} (h : RowM w B v l) (hk : ∀ k, v.ownBlock = some k → k < w.heap.size → w'.heap[k]? = w.heap[k]?) : RowM w' B v l := by
  obtain ⟨g, cap, cur, fz, rfl, hb, hg, rest⟩ := h
  exact ⟨g, cap, cur, fz, rfl, hb, (hk g rfl (Array.getElem?_eq_some_iff.1 hg).1).trans hg, rest⟩
theorem RowM.mod {w w' : World} {B : Nat} {v : Value} {l : List UInt8} {m : List Nat} (h : RowM w B v l) (hm : Mod m w w') (hn : ∀ k, v.ownBlock = some k → k ∉ m) : RowM w' B v l :=
  h.kept fun k hk hl => hm.block k hl (hn k hk)
theorem RowM.cells {w : World} {B : Nat} {v : Value} {l : List UInt8} (h : RowM w B v l) : ∃ a cap, v = .slice (some a) l.length cap ∧ ∀ j u, l[j]? = some u → w.cell? (a.add j) = some (bcell u) := by
  obtain ⟨g, cap, cur, fz, rfl, _, hg, _, _, _, _, ht⟩ := h
  refine ⟨⟨g, 0, none⟩, cap, rfl, fun j u hj => ?_⟩
  have hjl : j < l.length := by
    rcases Nat.lt_or_ge j l.length with h' | h'
    · exact h'
    · rw [List.getElem?_eq_none h'] at hj; cases hj
  have hadd : (⟨g, 0, none⟩ : Addr).add j = ⟨g, j, none⟩ := by unfold Addr.add; split <;> simp_all
  rw [hadd]
  have h2 : (cur.toList.take l.length)[j]? = some (bcell u) := by rw [ht, List.getElem?_map, hj]; rfl
  rw [List.getElem?_take, if_pos hjl] at h2
  simpa [World.cell?, hg] using h2
theorem RowM.conv {P : Program} {w : World} {B : Nat} {v : Value} {l : List UInt8} (h : RowM w B v l) (src dst e : TypeId) (hs : P.underlying src = some (.slice e)) (he : P.underlying e = some (.int .u8)) (hd : P.underlying dst = some .string) :
    (convert src dst v).run P w = .ok (.string (bs l)) w := by
  obtain ⟨a, cap, rfl, hc⟩ := h.cells
  exact conv_bytes w src dst e a cap l hs he hd hc

theorem run_storeCells_atM (P : Program) (g o : Nat) (t : TypeId) (fz : Nat × Nat) : ∀ (vs : List Value) (i : Nat) (cur : Array Value) (w : World), w.heap[g]? = some (.cells cur t fz) → (∀ i, i < cur.size → ¬ (fz.1 ≤ i ∧ i < fz.2)) → o + i + vs.length ≤ cur.size → (∀ v ∈ vs, v.oneCell' = true) →
    (storeCells ⟨g, o, none⟩ vs i).run P w = .ok () (w.setRow g (cur.toList.take (o + i) ++ vs ++ cur.toList.drop (o + i + vs.length)).toArray)
  | [], i, cur, w, hg, _, _, _ => by
    simp only [storeCells, List.append_nil, List.length_nil, Nat.add_zero, List.take_append_drop, Array.toArray_toList]
    rw [setRow_self w g cur t fz hg]
    rfl
  | v :: rest, i, cur, w, hg, hfz, hl, h1 => by
    have hi : o + i < cur.size := by simp at hl; omega
    have hadd : (⟨g, o, none⟩ : Addr).add i = ⟨g, o + i, none⟩ := by unfold Addr.add; split <;> simp_all
    have hcell : w.cell? ⟨g, o + i, none⟩ = some cur[o + i] := by simp [World.cell?, hg, hi]
    have hfro : w.frozen? ⟨g, o + i, none⟩ = false := by
      have h2 := hfz (o + i) hi
      obtain ⟨lo, hi'⟩ := fz
      simp only [World.frozen?, hg, Bool.and_eq_false_iff, decide_eq_false_iff_not]
      simp only at h2
      omega
    have hst : (store ((⟨g, o, none⟩ : Addr).add i) v).run P w = .ok () (w.setRow g (cur.setIfInBounds (o + i) v)) := by
      rw [hadd, run_store P w _ v _ (h1 v (by simp)), hcell]
      simp [hfro, setCell_eq_setRow w g (o + i) cur t fz v hg]
    have ih := run_storeCells_atM P g o t fz rest (i + 1) (cur.setIfInBounds (o + i) v) (w.setRow g (cur.setIfInBounds (o + i) v)) (setRow_heap w g cur _ t _ hg) (fun j hj => hfz j (by simpa using hj)) (by simp at hl ⊢; omega) (fun x hx => h1 x (by simp [hx]))
    simp only [storeCells, Sem.run_bind, hst, Result.andThen_ok, ih, setRow_setRow]
    congr 3
    have e := list_seg_step cur.toList (o + i) v rest (by simp at hl ⊢; omega)
    simpa [Array.toList_setIfInBounds, Nat.add_assoc] using e

/-- Bytes put behind a row of them. -/
theorem run_append_rowM {P : Program} (w : World) (B : Nat) (t ty : TypeId) (i : TypeInfo) (ht : P.underlying t = some (.slice 5)) (hi : P.info? 5 = some i) (hz : i.zero = some (.int .u8 0)) (hsize : i.size = 1) (hby : i.bytes = 1)
    (v : Value) (l : List UInt8) (hrow : RowM w B v l) (a : Addr) (c : Nat) (news : List UInt8) (hnews : ∀ j u, news[j]? = some u → w.cell? (a.add j) = some (bcell u)) (h63 : l.length + news.length ≤ 70368744177664) (hB : B ≤ w.heap.size) :
    ∃ v' w', (Builtin.append_ #[t, t] ty #[v, .slice (some a) news.length c]).run P w = .ok v' w' ∧ RowM w' B v' (l ++ news) ∧ w.grownBy w' v.ownBlock := by
  obtain ⟨g, cap, cur, fz, rfl, hb, hg, hfz, hlc, hcm, hcs, htake⟩ := hrow
  have hn2 : ∀ j u, (news.map bcell)[j]? = some u → w.cell? (a.add j) = some u := fun j u hj => by
    rw [List.getElem?_map] at hj
    cases hx : news[j]? with
    | none => rw [hx] at hj; cases hj
    | some y => rw [hx] at hj; cases hj; exact hnews j y hx
  have h1 : ∀ u ∈ news.map bcell, u.oneCell' = true := fun u hu => by
    obtain ⟨y, _, rfl⟩ := List.mem_map.1 hu
    rfl
  by_cases hroom : l.length + news.length ≤ cap
  · have hf := run_firstCells_some (P := P) w i.size news.length a news.length c (news.map bcell) (by rw [hsize]; simp) hn2
    have hst := run_storeCells_atM P g l.length 5 fz (news.map bcell) 0 cur w hg hfz (by simp; omega) h1
    simp only [Nat.add_zero, List.length_map] at hst
    have hr : (Builtin.append_ #[t, t] ty #[.slice (some ⟨g, 0, none⟩) l.length cap, .slice (some a) news.length c]).run P w =
        .ok (.slice (some ⟨g, 0, none⟩) (l.length + news.length) cap) (w.setRow g (cur.toList.take l.length ++ news.map bcell ++ cur.toList.drop (l.length + news.length)).toArray) := by
      rw [hsize] at hf
      simp [Builtin.append_, run_underlying ht, sizeOf, typeInfo, hi, hsize, Builtin.lenOf, hroom, hf, Addr.add_lit, hst]
    refine ⟨_, _, hr, ⟨g, cap, _, fz, by rw [List.length_append], hb, setRow_heap w g cur _ _ _ hg, ?_, by rw [List.length_append]; exact hroom, hcm, ?_, ?_⟩, ⟨rfl, rfl, rfl, by simp, fun k _ hk => setRow_other w g k _ (fun e => hk (by simp [Value.ownBlock, e]))⟩⟩
    · intro j hj
      refine hfz j ?_
      simp at hj; omega
    · simp; omega
    · have e1 : (l ++ news).length = (cur.toList.take l.length ++ news.map bcell).length := by simp; omega
      rw [e1]
      simp only [List.append_assoc]
      rw [← List.append_assoc, List.take_left, htake, List.map_append]
  · have holds : ∀ j u, (l.map bcell)[j]? = some u → w.cell? ((⟨g, 0, none⟩ : Addr).add j) = some u := fun j u hj => by
      have hadd : (⟨g, 0, none⟩ : Addr).add j = ⟨g, j, none⟩ := by unfold Addr.add; split <;> simp_all
      rw [hadd]
      rw [← htake, List.getElem?_take] at hj
      split at hj
      · simpa [World.cell?, hg] using hj
      · cases hj
    have hr := run_append_grow (P := P) w t ty 5 i (.int .u8 0) ht hi hz ⟨g, 0, none⟩ l.length cap (l.map bcell) (by rw [hsize]; simp) holds a news.length c (news.map bcell) (by rw [hsize]; simp) hn2 (by omega) (by omega) (by rw [hby]; exact growslice_fits (by omega) (by omega))
    have hge := grownCap_ge w (l.length + news.length) cap 5
    have hcm2 : grownCap w (l.length + news.length) cap 5 ≤ maxLen := grownCap_le_maxLen w (l.length + news.length) cap 5 (by unfold maxLen; omega)
    refine ⟨_, _, hr, ⟨w.heap.size, _, _, (0, 0), by rw [List.length_append], hB, heap_alloc_new w.drew _, fun j _ hh => by omega, by rw [List.length_append]; exact hge, hcm2, ?_, ?_⟩, ⟨rfl, rfl, rfl, by simp, fun k hk _ => Lib.alloc_old w.drew _ k hk⟩⟩
    · have hz1 : (Value.int IntKind.u8 0).cells.size = 1 := rfl
      simp only [Array.size_append, List.size_toArray, size_zeroCells, hz1, List.length_map]
      omega
    · have e1 : (l ++ news).length = (l.map bcell ++ news.map bcell).length := by simp
      rw [e1]
      simp only [Array.toList_append, List.append_assoc]
      rw [← List.append_assoc, List.take_left, List.map_append]

theorem wpList_append_rowM {P : Program} {w : World} {ops : Array Oper} {rest : List Oper} {o : Oper} {a : Act} {Q : Exit → Act → World → Prop} (hgd : o.guard = none) (s x : Operand) (t : TypeId)
    (ho : o.op = .call { callee := .builtin .append, args := #[s, x], argTypes := #[t, t] })
    (B : Nat) (i : TypeInfo) (ht : P.underlying t = some (.slice 5)) (hi : P.info? 5 = some i) (hz : i.zero = some (.int .u8 0)) (hsize : i.size = 1) (hby : i.bytes = 1)
    (v : Value) (l : List UInt8) (hs : a.eval s = v) (hrow : RowM w B v l) (ad : Addr) (m c : Nat) (news : List UInt8) (hx : a.eval x = .slice (some ad) m c) (hm : m = news.length) (hnews : ∀ j u, news[j]? = some u → w.cell? (ad.add j) = some (bcell u))
    (h63 : l.length + news.length ≤ 70368744177664) (hB : B ≤ w.heap.size)
    (h : ∀ v' w', RowM w' B v' (l ++ news) → w.grownBy w' v.ownBlock → wpList P ops Q rest (a.put o.dst v') w') : wpList P ops Q (o :: rest) a w := by
  subst hm
  obtain ⟨v', w', hr, h2, h3⟩ := run_append_rowM (P := P) w B t o.type i ht hi hz hsize hby v l hrow ad c news hnews h63 hB
  refine wpList_plain hgd fun K hK => ?_
  unfold Oper.wp execOp
  simp only [ho, resolve, invoke, builtin, Sem.run_bind, Sem.run_pure, Result.andThen_ok, List.map_toArray, List.map_cons, List.map_nil, hs, hx, hr]
  exact hK _ _ (h v' w' h2 h3)

theorem Mod.grownR {w a b : World} {row : Option Nat} (h : Mod [] w a) (g : a.grownBy b row) (hr : ∀ k, row = some k → w.heap.size ≤ k) : Mod [] w b :=
  ⟨g.os.trans h.os, g.tape.trans h.tape, g.output.trans h.output, Nat.le_trans h.size g.size, fun k hk hn => by
    rw [g.block k (Nat.lt_of_lt_of_le hk h.size) (fun e => absurd (hr k e.symm) (Nat.not_le.2 hk)), h.block k hk hn]⟩
theorem Blk.grownR {w w' : World} {b : Nat} {cs : Array Value} {t : TypeId} {row : Option Nat} (h : Blk w b cs t) (g : w.grownBy w' row) (hn : row ≠ some b) : Blk w' b cs t :=
  (g.block b h.lt (fun e => hn e.symm)).trans h
theorem bcell_ofNat {t : Nat} (h : t < 256) : bcell (UInt8.ofNat t) = .int .u8 t := by rw [bcell, UInt8.toNat_ofNat_of_lt' h]
/-- []byte(s) is such a row. -/
theorem bytes_rowM {P : Program} (w : World) (B : Nat) (src dst : TypeId) (s : ByteArray) (hs : P.underlying src = some .string) (hd : P.underlying dst = some (.slice 5)) (he : P.underlying 5 = some (.int .u8)) (hl : s.size ≤ maxLen) (hB : B ≤ w.heap.size) :
    ∃ v wb, (convert src dst (.string s)).run P w = .ok v wb ∧ RowM wb B v s.data.toList ∧ Mod [] w wb := by
  refine ⟨_, _, run_bytes_of_string w src dst 5 s hs hd he, ⟨w.heap.size, grownCap w s.size 0 5, _, _, by simp [ByteArray.size_data], hB, heap_alloc_new w.drew _, ?_, ?_, ?_, ?_, ?_⟩, (Mod.refl _ _).drew.alloc _⟩
  · intro j hj hh; simp only at hh; omega
  · have := grownCap_ge w s.size 0 5
    simpa [ByteArray.size_data] using this
  · exact grownCap_le_maxLen w s.size 0 5 hl
  · have := grownCap_ge w s.size 0 5
    simp [bytesRow, ByteArray.size_data] at this ⊢
    omega
  · simp only [bytesRow, Array.toList_append]
    rw [List.take_append_of_le_length (by simp), List.take_of_length_le (by simp)]
    simp only [Array.toList_map]
    rfl
/-- A row just made. -/
theorem made_rowM (w : World) (B cap : Nat) (cs : Array Value) (hcs : cs.size = cap) (hc : cap ≤ maxLen) (hB : B ≤ w.heap.size) : RowM (w.alloc (.cells cs 5)) B (.slice (some ⟨w.heap.size, 0, none⟩) 0 cap) [] :=
  ⟨w.heap.size, cap, cs, (0, 0), rfl, hB, heap_alloc_new w _, fun j _ hh => by omega, Nat.zero_le _, hc, hcs, by simp⟩
end Go.Proofs.YtoidfnknckfjhaaGreatDoor
