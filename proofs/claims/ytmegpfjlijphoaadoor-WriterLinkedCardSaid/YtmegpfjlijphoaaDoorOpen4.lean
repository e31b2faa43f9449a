/- Slices of bools, and whole numbers, as arguments, opened. -/
import Derived.Test.YtmegpfjlijphoaaDoorOpen3
import Derived.Test.YtmegpfjlijphoaaDoorPl1
namespace Go.Proofs.YtmegpfjlijphoaaDoor
open Go.ChangeShapes Go.WideShapes Go.ChangeAt Go.WideMaps Go.WideElems Go.RowKit Go.Jal
section
variable {H : Type} {enc : TypeId × Value → H} {W : World} {base fuel : Nat} {cs : List Value} {x : DataW H × List MemPlace}
theorem open_bools {v : Value} {d : DataW H} {p : List MemPlace} (hval : Value.okWide Tryd.prog W .any base 43 v) (hd : DataW.Trod enc Tryd.prog W 0 (fun _ => true) true 43 v d p) : ∃ bs, Bools W v bs := by
  obtain ⟨a0, len0, cap0, rfl⟩ := okWide_slice Tryd.underlying43 hval
  obtain ⟨fuel, hf⟩ := hd
  rcases Go.Deep.open_slice Tryd.underlying43 hf with ⟨hcs, _⟩ | ⟨a, len, cap, m, n, D, Pl, hcs, _, hl, hm, hmm, _, hx⟩
  · simp [Value.cells] at hcs
    obtain ⟨rfl, rfl, rfl⟩ := hcs
    exact ⟨[], none, 0, rfl, by simp [maxLen], fun h => absurd rfl h⟩
  · simp [Value.cells] at hcs
    obtain ⟨rfl, rfl, rfl⟩ := hcs
    simp only [if_true] at hmm
    have hmm' := hmm.symm
    subst hmm'
    have c1 : Tryd.prog.cellsOf 4 = 1 := by kernel_rfl
    rw [c1] at hx
    have key : ∀ i, i < len0 → ∃ y : Bool, W.cell? (a.add i) = some (.bool y) := fun i hi => by
      obtain ⟨cs', h1, h2⟩ := hx i (by omega)
      obtain ⟨y, hy, _⟩ := DataW.trod_bool Tryd.underlying4 h2
      have h3 := (World.cells?_some h1).2.2 0 (by omega)
      rw [hy] at h3
      exact ⟨y, by simpa [Addr.add_add] using h3⟩
    obtain ⟨f, hf⟩ := Go.Deep.choose_lt key
    refine ⟨(List.range len0).map f, some a, cap0, by simp, by simp; omega, fun hne => ?_⟩
    have hl0 : 0 < len0 := by
      rcases Nat.eq_zero_or_pos len0 with e | e
      · subst e; simp at hne
      · exact e
    obtain ⟨b, off, N, g, rfl, hH, hN, hg⟩ := has_of_cells (W := W) (a := a) (n := len0) (V := fun c => .bool (f c)) (by omega) (fun c hc => hf c hc)
    refine ⟨b, off, N, g, rfl, hH, by simp; omega, fun j y hj => ?_⟩
    have hlt : j < len0 := by
      have := (List.getElem?_eq_some_iff.1 hj).1
      simpa using this
    rw [hg j hlt]
    rw [List.getElem?_map, List.getElem?_range hlt] at hj
    have : f j = y := by simpa using hj
    rw [this]
end
end Go.Proofs.YtmegpfjlijphoaaDoor
