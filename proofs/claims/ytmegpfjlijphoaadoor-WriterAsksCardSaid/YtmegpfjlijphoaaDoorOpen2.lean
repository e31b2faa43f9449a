/- Arguments, opened in this family's words; the laid tables for rows that name one table alone. -/
import Derived.Test.YtmegpfjlijphoaaDoorOpen
import Derived.ShutString
import Derived.ChangeOld
import Derived.Below
import Derived.Test.YtmegpfjlijphoaaDoorTie
import Derived.Test.YtmegpfjlijphoaaDoorCards
import Derived.SevenTiedAt
namespace Go.Proofs.YtmegpfjlijphoaaDoor
open Go.ChangeShapes Go.WideShapes Go.ChangeAt Go.WideMaps Go.WideElems Go.RowKit Go.Jal

theorem laidOut : laidOutB Tryd.prog = true := by kernel_rfl
section
variable {H : Type} {enc : TypeId × Value → H} {P : Program} {W : World} {base : Nat} {t e : TypeId} {v : Value} {d : DataW H} {p : List MemPlace}
theorem open_bytes (ht : P.underlying t = some (.slice e)) (he : P.underlying e = some (.int .u8)) (hc : P.cellsOf e = 1) (hval : Value.okWide P W .any base t v) (hd : DataW.Trod enc P W 0 (fun _ => true) true t v d p) : ∃ l, Bs W v l := by
  obtain ⟨a0, len0, cap0, rfl⟩ := okWide_slice ht hval
  obtain ⟨fuel, hf⟩ := hd
  rcases open_ints ht he hc hf with ⟨hcs, _⟩ | ⟨a, len, cap, zs, hcs, _, hl, hm, hz, _, hcell, hw⟩
  · simp [Value.cells] at hcs
    obtain ⟨rfl, rfl, rfl⟩ := hcs
    exact ⟨[], Bs.nil (by simp [maxLen]) (fun _ => rfl)⟩
  · simp [Value.cells] at hcs
    obtain ⟨rfl, rfl, rfl⟩ := hcs
    have hz' : zs.length = cap0 := by simpa using hz
    exact ⟨_, bs_of_cells hl hm hz' hw (by intro h; cases h) (fun a' e c hc' => by cases e; exact hcell c (by omega))⟩
theorem open_rows {r : TypeId} (ht : P.underlying t = some (.slice r)) (hr : P.underlying r = some (.slice e)) (he : P.underlying e = some (.int .u8)) (hcr : P.cellsOf r = 1) (hc : P.cellsOf e = 1) (hval : Value.okWide P W .any base t v) (hd : DataW.Trod enc P W 0 (fun _ => true) true t v d p) : ∃ ls, Bss W v ls := by
  obtain ⟨a0, len0, cap0, rfl⟩ := okWide_slice ht hval
  obtain ⟨fuel, hf⟩ := hd
  rcases Go.Deep.open_int_rows ht hr he hcr hc hf with ⟨hcs, _⟩ | ⟨a, len, cap, A, L, C, Z, hcs, _, hl, hm, _, hr⟩
  · simp [Value.cells] at hcs
    obtain ⟨rfl, rfl, rfl⟩ := hcs
    exact ⟨[], none, 0, rfl, Nat.le_refl _, by simp [maxLen], fun _ => rfl, fun h => absurd rfl h⟩
  · simp [Value.cells] at hcs
    obtain ⟨rfl, rfl, rfl⟩ := hcs
    exact ⟨_, bss_of_rows hl hm fun r hrc => by
      obtain ⟨h1, h2, h3, h4, h5, h6, h7⟩ := hr r hrc
      exact ⟨h1, h2, h3, h4, h5, h6, fun a' e => (h7 a' e).2⟩⟩
theorem open_arr {n : Nat} {k : IntKind} (ht : P.underlying t = some (.array n e)) (he : P.underlying e = some (.int k)) (hce : P.cellsOf e = 1) (hct : P.cellsOf t = n) (hval : Value.okWide P W .any base t v) (hd : DataW.Trod enc P W 0 (fun _ => true) true t v d p) :
    ∃ f : Nat → Int, v = .agg (row n fun j => .int k (f j)) ∧ ∀ j, j < n → (Lit.int k (f j)).wf = true := by
  simp only [Value.okWide, ht] at hval
  obtain ⟨cs, rfl, hsz, _⟩ := hval
  obtain ⟨fuel, hf⟩ := hd
  obtain ⟨xs, m, _, hx, hlen, hn, hel⟩ := DataW.trod_array ht hf
  have hsz' : cs.size = n := by rw [hsz, hct]
  have hh : ∀ i, i < n → ∃ q : Int, cs[i]? = some (.int k q) ∧ (Lit.int k q).wf = true := fun i hi => by
    have h3 := hel i hi
    rw [hce, Nat.mul_one] at h3
    rw [List.getElem?_eq_getElem (by omega)] at h3
    obtain ⟨q, e1, _, e3⟩ := DataW.trod_int he h3
    refine ⟨q, ?_, e3⟩
    have e4 := congrArg (fun l => l[0]?) e1
    simpa [List.getElem?_take_of_lt, Value.cells] using e4
  refine ⟨fun j => match cs[j]? with | some (.int _ q) => q | _ => 0, ?_, fun j hj => ?_⟩
  · congr 1
    apply Array.ext
    · simp [row, hsz']
    · intro i h1 h2
      obtain ⟨q, e1, _⟩ := hh i (by omega)
      rw [Array.getElem?_eq_getElem h1] at e1
      simp [row, Array.getElem?_eq_getElem h1, Option.some.inj e1]
  · obtain ⟨q, e1, e2⟩ := hh j hj
    simp only [e1]
    exact e2
theorem open_hash {n : Nat} (ht : P.underlying t = some (.array n e)) (he : P.underlying e = some (.int .u8)) (hce : P.cellsOf e = 1) (hct : P.cellsOf t = n) (hval : Value.okWide P W .any base t v) (hd : DataW.Trod enc P W 0 (fun _ => true) true t v d p) :
    ∃ l : List Nat, v = .agg (row n (bF l)) ∧ l.length = n ∧ ∀ x ∈ l, x < 256 := by
  obtain ⟨f, rfl, hf⟩ := open_arr ht he hce hct hval hd
  have hb : ∀ j, j < n → 0 ≤ f j ∧ f j < 256 := fun j hj => by
    have := hf j hj
    simp [Lit.wf] at this
    have e1 : IntKind.u8.min = 0 := rfl
    have e2 : IntKind.u8.max = 255 := rfl
    rw [e1, e2] at this
    omega
  refine ⟨(List.range n).map fun j => (f j).toNat, ?_, by simp, fun x hx => ?_⟩
  · congr 1
    refine row_congr fun j hj => ?_
    unfold bF
    have := hb j hj
    simp only [List.getD_eq_getElem?_getD, List.getElem?_map, List.getElem?_range hj, Option.map_some, Option.getD_some]
    congr 1
    omega
  · obtain ⟨j, hj, rfl⟩ := List.mem_map.1 hx
    have := hb j (List.mem_range.1 hj)
    omega
end
def laidR : List (String × DataW Unit) := [("jalousie/hash.rounds", Rows.laid_jalousie_hash_rounds)]
theorem of_laidR {W : World} (h : laidMetH Tryd.prog laidR W) : Has W 1 64 (wF Sha.K) := by
  rw [MakeChecks.laidMetH_plain _ _ _ (by kernel_rfl)] at h
  obtain ⟨ps, ⟨g1, t1, cs1, f1, p1, q1, hg1, ht1, hv1, hd1, _, _⟩, _, _⟩ := h
  obtain rfl := Option.some.inj (gRounds.symm.trans hg1)
  obtain rfl := Option.some.inj (tRounds.symm.trans ht1)
  rw [K_rounds] at hd1
  exact words_laid Tryd.underlying69 Tryd.underlying67 (by kernel_rfl) (by kernel_rfl) rfl hd1 hg1 hv1
theorem door_metR (os : Os) (args : Array Value) : laidMetH Tryd.prog laidR ((World.doorLaid Tryd.prog 4000 os).forCall (fun _ _ => 0) ⟨#[], args, []⟩).memory :=
  laidMetH_of_parts3 (fuel := 8) (laidMet_of_run' 8 (by kernel_rfl) (by kernel_rfl)) (by kernel_rfl) (by kernel_rfl)
end Go.Proofs.YtmegpfjlijphoaaDoor
