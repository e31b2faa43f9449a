/- Slices of the call's own: 'Own', append, slice literals; the ends of regions that draw. -/
import Derived.Test.YthbobmpeaemdnaaDoorLibD
namespace Go.Jal
open Go Go.RowKit

/-- v is a slice of n elements (z cells each, of type e) that the call owns: nil, or at the head of a block of its own; E: what it adds to the list of owned blocks; the cells: g. -/
def Own (z : Nat) (e : TypeId) (v : Value) (n : Nat) (g : Nat → Value) (E : List (Nat × Obj)) : Prop :=
  (v = .slice none 0 0 ∧ n = 0 ∧ E = []) ∨
  ∃ b cap f, v = .slice (some ⟨b, 0, none⟩) n cap ∧ n ≤ cap ∧ cap ≤ maxLen ∧ E = [(b, blk (cap * z) f e)] ∧ ∀ j, j < n * z → f j = g j

theorem Own.nil {z : Nat} {e : TypeId} {g : Nat → Value} : Own z e (.slice none 0 0) 0 g [] := .inl ⟨rfl, rfl, rfl⟩
theorem Own.congr {z : Nat} {e : TypeId} {v : Value} {n : Nat} {g g' : Nat → Value} {E : List (Nat × Obj)} (h : Own z e v n g E) (hg : ∀ j, j < n * z → g j = g' j) : Own z e v n g' E := by
  rcases h with h | ⟨b, cap, f, h1, h2, h3, h4, h5⟩
  · exact .inl h
  · exact .inr ⟨b, cap, f, h1, h2, h3, h4, fun j hj => (h5 j hj).trans (hg j hj)⟩

/-- Where appended cells come from: an address (or none, where there are none). -/
def Src (w : World) (ad : Option Addr) (m : Nat) (h : Nat → Value) : Prop :=
  m = 0 ∨ ∃ b off n f, ad = some ⟨b, off, none⟩ ∧ Has w b n f ∧ off + m ≤ n ∧ ∀ j, j < m → f (off + j) = h j

/-- g's first n, then h. -/
def glue (n : Nat) (g h : Nat → Value) : Nat → Value := fun j => if j < n then g j else h (j - n)

section
variable {P : Program} {w0 w : World} {M : List Nat} {L : List (Nat × Obj)}

theorem Src.cells {b off n m : Nat} {f h : Nat → Value} (hb : Has w b n f) (hn : off + m ≤ n) (hf : ∀ j, j < m → f (off + j) = h j) :
    ∀ j u, ((row m h).toList)[j]? = some u → w.cell? ((⟨b, off, none⟩ : Addr).add j) = some u := by
  intro j u hj
  have hjm : j < m := by have := (List.getElem?_eq_some_iff.1 hj).1; simpa [row] using this
  have : u = h j := by simpa [row, hjm] using hj.symm
  rw [this, Addr.add_mid, ← hf j hjm]
  exact hb.cell (by omega)

theorem row_append {n m k : Nat} {g h : Nat → Value} (r : Array Value) (hr : r.size = k) : ∃ f, row n g ++ row m h ++ r = row (n + m + k) f ∧ ∀ j, j < n + m → f j = glue n g h j := by
  refine ⟨fun j => (row n g ++ row m h ++ r).getD j undef, ?_, ?_⟩
  · have h1 := row_self (row n g ++ row m h ++ r)
    have h2 : (row n g ++ row m h ++ r).size = n + m + k := by simp [hr]; omega
    rw [h2] at h1
    exact h1.symm
  · intro j hj
    simp only [glue, Array.getD_eq_getD_getElem?, Array.getElem?_append]
    simp only [Array.size_append, size_row]
    rw [if_pos hj]
    by_cases c : j < n
    · rw [if_pos c, if_pos c, row_get c]; rfl
    · rw [if_neg c, if_neg c, row_get (by omega)]; rfl

/-- APPEND onto a slice of the call's own. -/
theorem run_append_st {t ty e : TypeId} {z bytes : Nat} {zf : Nat → Value} (ht : P.underlying t = some (.slice e)) (hz : Zer P e z zf) (hi : (P.info? e).map (fun i => (i.size, i.bytes)) = some (z, bytes)) (hz0 : 0 < z)
    {v : Value} {n : Nat} {g : Nat → Value} {E : List (Nat × Obj)} (hown : Own z e v n g E) (hst : St w0 M (E ++ L) w)
    {ad : Option Addr} {m c : Nat} {h : Nat → Value} (hsrc : Src w ad (m * z) h) (hnil : ad = none → m = 0) (h1 : ∀ j, j < m * z → (h j).oneCell' = true)
    (hfit : (n + m) * bytes ≤ 140737488355328) (h63 : n + m ≤ maxLen) :
    ∃ v' w' E', (Builtin.append_ #[t, t] ty #[v, .slice ad m c]).run P w = .ok v' w' ∧ Own z e v' (n + m) (glue (n * z) g h) E' ∧ St w0 M (E' ++ L) w' ∧ (v' = .slice none 0 0 → v = .slice none 0 0 ∧ m = 0) := by
  obtain ⟨i, zv, hi1, hi2, hi3⟩ : ∃ i z', P.info? e = some i ∧ i.zero = some z' ∧ z'.cells = row z zf := by
    unfold Zer at hz
    cases q1 : P.info? e with
    | none => simp [q1] at hz
    | some i =>
      cases q2 : i.zero with
      | none => simp [q1, q2] at hz
      | some z => exact ⟨i, z, rfl, q2, by simpa [q1, q2] using hz⟩
  have hs : i.size = z ∧ i.bytes = bytes := by simpa [hi1] using hi
  obtain ⟨hsz, hby⟩ := hs
  have hzs : zv.cells.size = z := by rw [hi3]; simp
  by_cases hm : m = 0
  · -- nothing is appended
    subst hm
    have hr : (Builtin.append_ #[t, t] ty #[v, .slice ad 0 c]).run P w = .ok v w := by
      rcases hown with ⟨rfl, rfl, rfl⟩ | ⟨b, cap, f, rfl, hnc, _, _, _⟩
      · cases ad <;> simp [Builtin.append_, run_underlying ht, sizeOf, typeInfo, hi1, Builtin.lenOf, Builtin.firstCells, loadCells, loadCellsFrom]
      · cases ad <;> simp [Builtin.append_, run_underlying ht, sizeOf, typeInfo, hi1, Builtin.lenOf, Builtin.firstCells, hnc, storeCells, loadCells, loadCellsFrom]
    refine ⟨v, w, E, hr, ?_, hst, fun h => ⟨h, rfl⟩⟩
    exact hown.congr fun j hj => by unfold glue; rw [if_pos (by simpa using hj)]
  · have hmz : 0 < m * z := Nat.mul_pos (by omega) hz0
    rcases hsrc with hsrc | ⟨sb, so, sn, sf, rfl, hb, hn, hf⟩
    · omega
    have hnews := Src.cells hb hn hf
    have hl : (row (m * z) h).toList.length = m * i.size := by simp [row, hsz]
    have hcap63 : ∀ old, n + m ≤ grownCap w (n + m) old e ∧ grownCap w (n + m) old e ≤ maxLen := fun old => ⟨grownCap_ge w _ _ e, grownCap_le_maxLen w _ _ e h63⟩
    have hmax : n + m ≤ 9223372036854775807 := by simpa only [maxLen] using h63
    rcases hown with ⟨rfl, rfl, rfl⟩ | ⟨b, cap, f, rfl, hnc, hcm, rfl, hfg⟩
    · -- out of nil
      have hr := run_append_nil (P := P) w t ty e i zv ht hi1 hi2 ⟨sb, so, none⟩ m c _ hl hnews (by omega) (by omega) (by rw [hby]; rw [Nat.zero_add] at hfit; omega)
      have hk := hcap63 0
      rw [Nat.zero_add] at hk
      obtain ⟨F, hF1, hF2⟩ := row_append (n := 0) (m := m * z) (g := g) (h := h) (Builtin.zeroCells zv.cells (grownCap w m 0 e - m)) (by rw [size_zeroCells, hzs])
      have e0 : (row (m * z) h).toList.toArray ++ Builtin.zeroCells zv.cells (grownCap w m 0 e - m) = row (grownCap w m 0 e * z) F := by
        have : row 0 g = #[] := by simp [row]
        rw [this] at hF1
        simp only [Array.empty_append] at hF1
        rw [Array.toArray_toList, hF1]
        congr 1
        rw [Nat.zero_add, ← Nat.add_mul]; congr 1; omega
      rw [e0] at hr
      refine ⟨_, _, [(w.heap.size, blk (grownCap w m 0 e * z) F e)], hr, .inr ⟨_, _, F, by rw [Nat.zero_add], by rw [Nat.zero_add]; exact hk.1, hk.2, rfl, ?_⟩, ?_, fun hc => by cases hc⟩
      · intro j hj
        rw [Nat.zero_add] at hj
        have := hF2 j (by omega)
        simpa using this
      · exact (hst.drew.alloc _)
    · have hbl : w.heap[b]? = some (blk (cap * z) f e) := hst.own (b, blk (cap * z) f e) (by simp)
      by_cases hroom : n + m ≤ cap
      · -- there is room
        have hmul : n * z + m * z ≤ cap * z := by rw [← Nat.add_mul]; exact Nat.mul_le_mul_right z hroom
        have hr := run_append_room (P := P) w t ty e i ht hi1 b n cap (row (cap * z) f) hbl ⟨sb, so, none⟩ m c _ hl hnews (by
          intro u hu
          simp only [row, List.mem_map, List.mem_range] at hu
          obtain ⟨j, hj, rfl⟩ := hu
          exact h1 j hj) hroom (by rw [hl, hsz]; simpa using hmul)
        rw [hl, hsz, row_list hmul] at hr
        refine ⟨_, _, [(b, blk (cap * z) (blit f (n * z) (m * z) h) e)], hr, .inr ⟨b, cap, _, rfl, hroom, hcm, rfl, ?_⟩, hst.setRow _, fun hc => by cases hc⟩
        intro j hj
        rw [Nat.add_mul] at hj
        unfold blit glue
        by_cases c1 : j < n * z
        · rw [if_neg (by omega), if_pos c1]; exact hfg j c1
        · rw [if_pos ⟨by omega, by omega⟩, if_neg c1]
      · -- a new block
        have hlo : (row (n * z) f).toList.length = n * i.size := by simp [row, hsz]
        have hHas : Has w b (cap * z) f := ⟨e, (0, 0), hbl⟩
        have holds := Src.cells (w := w) (h := f) (m := n * z) (off := 0) hHas (by rw [Nat.zero_add]; exact Nat.mul_le_mul_right z hnc) (fun j _ => by rw [Nat.zero_add])
        have hslice : Builtin.nextslicecap (n + m) cap * i.bytes ≤ 281474976710656 := growslice_fits (by omega) (by rw [hby]; exact hfit)
        have hr := run_append_grow (P := P) w t ty e i zv ht hi1 hi2 ⟨b, 0, none⟩ n cap _ hlo holds ⟨sb, so, none⟩ m c _ hl hnews (by omega) (by omega) hslice
        have hk := hcap63 cap
        obtain ⟨F, hF1, hF2⟩ := row_append (n := n * z) (m := m * z) (g := f) (h := h) (Builtin.zeroCells zv.cells (grownCap w (n + m) cap e - (n + m))) (by rw [size_zeroCells, hzs])
        have e0 : (row (n * z) f).toList.toArray ++ (row (m * z) h).toList.toArray ++ Builtin.zeroCells zv.cells (grownCap w (n + m) cap e - (n + m)) = row (grownCap w (n + m) cap e * z) F := by
          rw [Array.toArray_toList, Array.toArray_toList, hF1]
          congr 1
          rw [← Nat.add_mul, ← Nat.add_mul]; congr 1; omega
        rw [e0] at hr
        refine ⟨_, _, [(w.heap.size, blk (grownCap w (n + m) cap e * z) F e)], hr, .inr ⟨_, _, F, rfl, hk.1, hk.2, rfl, ?_⟩, (St.drop hst).drew.alloc _, fun hc => by cases hc⟩
        intro j hj
        rw [Nat.add_mul] at hj
        rw [hF2 j hj]
        unfold glue
        by_cases c1 : j < n * z
        · rw [if_pos c1, if_pos c1]; exact hfg j c1
        · rw [if_neg c1, if_neg c1]
end
end Go.Jal
