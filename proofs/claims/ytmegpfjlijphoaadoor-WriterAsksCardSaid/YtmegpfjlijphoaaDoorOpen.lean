/- What a row's opening hands over, in this family's words. -/
import Derived.Test.YtmegpfjlijphoaaDoorLaid
import Derived.Deep.Matrix
namespace Go.Proofs.YtmegpfjlijphoaaDoor
open Go.ChangeShapes Go.WideShapes Go.ChangeAt Go.WideMaps Go.WideElems Go.RowKit Go.Jal

theorem cell_spot {W : World} {a : Addr} {v : Value} (h : W.cell? a = some v) : ∃ cs T fr, a = ⟨a.block, a.off, none⟩ ∧ W.heap[a.block]? = some (.cells cs T fr) ∧ cs[a.off]? = some v := by
  obtain ⟨b, off, s⟩ := a
  cases s with
  | none =>
    obtain ⟨cs, T, fr, h1, h2⟩ := heap_of_cell h
    exact ⟨cs, T, fr, rfl, h1, h2⟩
  | some s =>
    unfold World.cell? at h
    cases q : W.heap[b]? with
    | none => simp [q] at h
    | some o => cases o <;> simp [q] at h
/-- consecutive cells as a part of a block -/
theorem has_of_cells {W : World} {a : Addr} {n : Nat} {V : Nat → Value} (hn : 0 < n) (h : ∀ c, c < n → W.cell? (a.add c) = some (V c)) :
    ∃ b off m f, a = ⟨b, off, none⟩ ∧ Has W b m f ∧ off + n ≤ m ∧ ∀ j, j < n → f (off + j) = V j := by
  have h0 := h 0 hn
  obtain ⟨cs, T, fr, e, h1, h2⟩ := cell_spot h0
  obtain ⟨b, off, s⟩ := a
  simp only [Addr.add] at e
  have hs : s = none := by
    cases s with
    | none => rfl
    | some s => simp at e
  subst hs
  have hall : ∀ c, c < n → cs[off + c]? = some (V c) := fun c hc => by
    have := h c hc
    rw [Addr.add_mid, cell_of_row W b (off + c) cs T fr (by simpa [Addr.add] using h1)] at this
    exact this
  have hsz : off + n ≤ cs.size := by
    have := (Array.getElem?_eq_some_iff.1 (hall (n - 1) (by omega))).1
    omega
  refine ⟨b, off, cs.size, fun j => cs.getD j undef, rfl, ⟨T, fr, by rw [row_self]; simpa [Addr.add] using h1⟩, hsz, fun j hj => ?_⟩
  simp only [Array.getD_eq_getD_getElem?, hall j hj, Option.getD_some]
def natsOf (zs : List Int) : List Nat := zs.map Int.toNat
theorem bs_of_cells {W : World} {p : Option Addr} {len cap : Nat} {zs : List Int} (h1 : len ≤ cap) (h2 : cap ≤ maxLen) (hz : zs.length = cap) (hw : ∀ n ∈ zs, (Lit.int .u8 n).wf = true) (hn : p = none → cap = 0)
    (hc : ∀ a', p = some a' → ∀ c, c < cap → W.cell? (a'.add c) = some (.int .u8 (zs.getD c 0))) : Bs W (.slice p len cap) (natsOf (zs.take len)) := by
  have hlen : (natsOf (zs.take len)).length = len := by simp [natsOf]; omega
  have hb : ∀ n ∈ zs, 0 ≤ n ∧ n < 256 := fun n hn => by
    have := hw n hn
    simp [Lit.wf] at this
    have e1 : IntKind.u8.min = 0 := rfl
    have e2 : IntKind.u8.max = 255 := rfl
    rw [e1, e2] at this
    omega
  refine ⟨p, cap, by rw [hlen], by rw [hlen]; exact h1, h2, ?_, hn, fun hl => ?_⟩
  · intro x hx
    obtain ⟨z, hz1, rfl⟩ := List.mem_map.1 hx
    have := hb z (List.mem_of_mem_take hz1)
    omega
  · have hl0 : 0 < len := by rw [← hlen]; exact List.length_pos_iff.2 hl
    cases p with
    | none => have := hn rfl; omega
    | some a =>
      obtain ⟨b, off, m, f, rfl, hH, hm, hf⟩ := has_of_cells (by omega) (hc a rfl)
      refine ⟨b, off, m, f, rfl, hH, by rw [hlen]; omega, fun j hj => ?_⟩
      rw [hlen] at hj
      rw [hf j (by omega)]
      unfold bF natsOf
      have hjz : j < zs.length := by omega
      simp only [List.getD_eq_getElem?_getD, List.getElem?_map, List.getElem?_take_of_lt hj, List.getElem?_eq_getElem hjz, Option.map_some, Option.getD_some]
      have := hb _ (List.getElem_mem hjz)
      congr 1
      omega
theorem bss_of_rows {W : World} {a : Addr} {len cap : Nat} {A : Nat → Option Addr} {L C : Nat → Nat} {Z : Nat → List Int} (h1 : len ≤ cap) (h2 : cap ≤ maxLen)
    (h : ∀ r, r < cap → W.cell? (a.add r) = some (.slice (A r) (L r) (C r)) ∧ L r ≤ C r ∧ C r ≤ maxLen ∧ (Z r).length = C r ∧ (∀ n ∈ Z r, (Lit.int .u8 n).wf = true) ∧ (A r = none → C r = 0) ∧
        ∀ a', A r = some a' → ∀ c, c < C r → W.cell? (a'.add c) = some (.int .u8 ((Z r).getD c 0))) :
    Bss W (.slice (some a) len cap) ((List.range len).map fun r => natsOf ((Z r).take (L r))) := by
  refine ⟨some a, cap, by simp, by simpa using h1, h2, (by intro e; cases e), fun hl => ?_⟩
  have hl0 : 0 < len := by
    rcases Nat.eq_zero_or_pos len with e | e
    · subst e; simp at hl
    · exact e
  obtain ⟨b, off, m, f, rfl, hH, hm, hf⟩ := has_of_cells (n := cap) (V := fun r => .slice (A r) (L r) (C r)) (by omega) (fun c hc => (h c hc).1)
  refine ⟨b, off, m, f, rfl, hH, by simp; omega, fun j hj => ?_⟩
  have hj' : j < len := by simpa using hj
  rw [hf j (by omega)]
  obtain ⟨_, k1, k2, k3, k4, k5, k6⟩ := h j (by omega)
  have := bs_of_cells k1 k2 k3 k4 k5 k6
  simpa [List.getD_eq_getElem?_getD, hj'] using this
end Go.Proofs.YtmegpfjlijphoaaDoor
