/- bytes.Join by the shelf's contract, in this family's words. -/
import Derived.Test.YthbobmpeaemdnaaDoorBase
import Derived.Ground.SlbNamesProg
import Derived.Shelf.Bytes.SlJoin
namespace Go.Jal
open Go Go.RowKit

/-- v is a slice of byte slices that read as the lists of ls. -/
def Bss (w : World) (v : Value) (ls : List (List Nat)) : Prop :=
  ∃ ao cap, v = .slice ao ls.length cap ∧ ls.length ≤ cap ∧ cap ≤ maxLen ∧ (ao = none → cap = 0) ∧
    (ls ≠ [] → ∃ b off n f, ao = some ⟨b, off, none⟩ ∧ Has w b n f ∧ off + ls.length ≤ n ∧ ∀ j, j < ls.length → Bs w (f (off + j)) (ls.getD j []))
theorem Bss.keep {w w' : World} {L : List (Nat × Obj)} {v : Value} {ls : List (List Nat)} (h : Bss w v ls) (hst : St w [] L w') : Bss w' v ls := by
  obtain ⟨ao, cap, e, h1, h2, h4, h5⟩ := h
  refine ⟨ao, cap, e, h1, h2, h4, fun hl => ?_⟩
  obtain ⟨b, off, n, f, e1, e2, e3, e4⟩ := h5 hl
  exact ⟨b, off, n, f, e1, e2.keep hst, e3, fun j hj => (e4 j hj).keep hst⟩
/-- The bytes as Lean's own. -/
def toU (l : List Nat) : List UInt8 := l.map UInt8.ofNat
theorem toU_length (l : List Nat) : (toU l).length = l.length := by simp [toU]
theorem toU_get {l : List Nat} (h : ∀ x ∈ l, x < 256) {i : Nat} {x : UInt8} (hi : (toU l)[i]? = some x) : i < l.length ∧ x.toNat = l.getD i 0 := by
  simp only [toU, List.getElem?_map, Option.map_eq_some_iff] at hi
  obtain ⟨y, hy, rfl⟩ := hi
  have hlt := h y (List.mem_of_getElem? hy)
  refine ⟨(List.getElem?_eq_some_iff.1 hy).1, ?_⟩
  rw [List.getD_eq_getElem?_getD, hy, Option.getD_some, UInt8.toNat_ofNat']
  omega
theorem Bs.cellU {w : World} {v : Value} {l : List Nat} (h : Bs w v l) : ∃ (p : Option Addr) (cap : Nat), v = .slice p l.length cap ∧ (p = none → l = []) ∧ ∀ a, p = some a → ∀ (i : Nat) x, (toU l)[i]? = some x → w.cell? (a.add i) = some (.int .u8 (x.toNat : Int)) := by
  obtain ⟨ao, cap, rfl, h1, h2, h3, h4, h5⟩ := h
  refine ⟨ao, cap, rfl, fun e => ?_, fun a ha i x hx => ?_⟩
  · have := h4 e
    exact List.length_eq_zero_iff.1 (by omega)
  · obtain ⟨hi, hx2⟩ := toU_get h3 hx
    obtain ⟨b, off, n, f, e1, e2, e3, e4⟩ := h5 (by intro e; subst e; simp at hi)
    rw [ha] at e1; cases e1
    rw [Addr.add_mid, e2.cell (by omega), e4 i hi, hx2]; rfl
theorem Bs.holds {w : World} {v : Value} {l : List Nat} (h : Bs w v l) : Lib.HoldsBytes w v (toU l) := by
  obtain ⟨p, cap, e, h1, h2⟩ := h.cellU
  exact ⟨p, cap, by rw [toU_length]; exact e, fun e => by rw [h1 e]; rfl, h2⟩
theorem heap_of_cell {w : World} {g i : Nat} {v : Value} (h : w.cell? ⟨g, i, none⟩ = some v) : ∃ cs T fr, w.heap[g]? = some (.cells cs T fr) ∧ cs[i]? = some v := by
  unfold World.cell? at h
  cases q : w.heap[g]? with
  | none => simp [q] at h
  | some o =>
    cases o <;> simp [q] at h
    exact ⟨_, _, _, rfl, h⟩
theorem Bs.of_fresh {B : Nat} {w : World} {v : Value} {l : List Nat} (h : Lib.FreshBytes B w v (toU l)) (hlt : ∀ x ∈ l, x < 256) : Bs w v l := by
  obtain ⟨g, cap, zs, rfl, _, h2, h3, h4, h5, h6, h7, _⟩ := h
  rw [toU_length] at h2 h6 ⊢
  refine ⟨_, cap, rfl, h2, h3, hlt, (by intro e; cases e), fun hl => ?_⟩
  have hpos : 0 < l.length := List.length_pos_iff.2 hl
  obtain ⟨cs, T, fr, c1, c2⟩ := heap_of_cell (h7 0 (by omega))
  have hcs : ∀ i, i < cap → cs[i]? = some (.int .u8 (zs.getD i 0)) := fun i hi => by rw [← cell_of_row w g i cs T fr c1]; exact h7 i hi
  have hsz : cap ≤ cs.size := by
    have := hcs (cap - 1) (by omega)
    have := (Array.getElem?_eq_some_iff.1 this).1
    omega
  refine ⟨g, 0, cs.size, fun j => cs.getD j undef, rfl, ⟨T, fr, by rw [row_self]; exact c1⟩, by omega, fun j hj => ?_⟩
  have e1 := hcs j (by omega)
  simp only [Nat.zero_add, Array.getD_eq_getD_getElem?, e1, Option.getD_some]
  unfold bF
  have hz := congrArg (fun l => l[j]?) h6
  simp only [Lib.bytesOf, toU, List.getElem?_map, List.getElem?_take_of_lt hj] at hz
  have k1 : zs[j]? = some (zs.getD j 0) := by rw [List.getD_eq_getElem?_getD, List.getElem?_eq_getElem (by omega)]; rfl
  have k2 : l[j]? = some (l.getD j 0) := by rw [List.getD_eq_getElem?_getD, List.getElem?_eq_getElem hj]; rfl
  rw [k1, k2] at hz
  simp only [Option.map_some, Option.some.injEq] at hz
  have b1 := h5 _ (List.mem_of_getElem? k1)
  have b2 := hlt _ (List.mem_of_getElem? k2)
  have := congrArg UInt8.toNat hz
  simp only [UInt8.toNat_ofNat'] at this
  congr 1
  omega
theorem St.of_below {w w' : World} (h : RowKit.Below w.heap.size w w') : St w [] [] w' :=
  ⟨h.os, h.tape, h.output, h.size, by simp, by simp, by simp, fun k hk _ => h.block k hk⟩
theorem join_flat (ls : List (List Nat)) : Lib.join (ls.map toU) [] = toU ls.flatten := by
  have h : ∀ xs : List (List UInt8), Lib.join xs [] = xs.flatten := by
    intro xs
    cases xs with
    | nil => rfl
    | cons x r => rw [Lib.join_cons]; simp [Lib.joinTail]
  rw [h, toU, List.map_flatten]; rfl
theorem lens_flat (ls : List (List Nat)) : Lib.lens (ls.map toU) = ls.flatten.length := by
  simp [Lib.lens, List.length_flatten, toU, Function.comp_def]
end Go.Jal
namespace Go.Proofs.YthbobmpeaemdnaaDoor
open Go.RowKit Go.Jal Go.Shelf
def laysJ_ren : Go.Shelf.Ren := ⟨fun | 14 => 43 | 15 => 61 | n => n, fun | 26 => 69 | 22 => 35 | 3 => 3 | 4 => 4 | 0 => 0 | 9 => 9 | 20 => 20 | 5 => 5 | n => n, fun | n => n⟩
theorem laysJ : Go.Proofs.SlLaysJ.n14 Tryd.prog laysJ_ren := {
  mixed := by kernel_rfl
  f14 := Tryd.func43.trans (congrArg some (by kernel_rfl))
  f15 := Tryd.func61.trans (congrArg some (by kernel_rfl))
  t0 := Tryd.underlying0
  a0 := Tryd.isAgg0
  z0 := Tryd.sizeOf0
  v0 := Tryd.zeroValue0
  t3 := Tryd.underlying3
  a3 := Tryd.isAgg3
  z3 := Tryd.sizeOf3
  v3 := Tryd.zeroValue3
  t4 := Tryd.underlying4
  a4 := Tryd.isAgg4
  z4 := Tryd.sizeOf4
  v4 := Tryd.zeroValue4
  t9 := Tryd.underlying9
  a9 := Tryd.isAgg9
  z9 := Tryd.sizeOf9
  v9 := Tryd.zeroValue9
  t20 := Tryd.underlying20
  a20 := Tryd.isAgg20
  z20 := Tryd.sizeOf20
  v20 := Tryd.zeroValue20
  t22 := Tryd.underlying35
  a22 := Tryd.isAgg35
  z22 := Tryd.sizeOf35
  v22 := Tryd.zeroValue35
  t26 := Tryd.underlying69
  a26 := Tryd.isAgg69
  z26 := Tryd.sizeOf69
  v26 := Tryd.zeroValue69
  t5 := Tryd.underlying5
  z5 := Tryd.sizeOf5
  i5 := by kernel_rfl }
theorem join_any (v : Value) (ls : List (List Nat)) (w : World) (h : Bss w v ls) (hn : ls.length ≤ 140737488355328) (hl : ls.flatten.length ≤ 140737488355328) (hlt : ∀ x ∈ ls.flatten, x < 256) :
    Ret Tryd.prog 43 #[v, .slice none 0 0] w fun v' w' => Bs w' v' ls.flatten ∧ St w [] [] w' := by
  obtain ⟨ao, cap, rfl, h1, h2, h3, h4⟩ := h
  match ls, h1, h4, hn, hl, hlt with
  | [], _, _, _, _, _ =>
    refine Calls.mono (Any.bytes_Join_none laysJ ao cap _ w) ?_
    rintro e w' ⟨rfl, rfl⟩
    exact ⟨_, rfl, Bs.nil (by simp [maxLen]) (fun _ => rfl), ((St.refl w).alloc _).none⟩
  | [l], h1, h4, _, hl, hlt =>
    obtain ⟨b, off, n, f, rfl, e2, e3, e4⟩ := h4 (by simp)
    have hb := e4 0 (by simp)
    simp only [List.getD_cons_zero, Nat.add_zero] at hb
    obtain ⟨p, c, hf, k1, k2⟩ := hb.cellU
    have hcell := e2.cell (i := off) (by simp at e3; omega)
    rw [hf] at hcell
    have hlt' : ∀ x ∈ l, x < 256 := by simpa using hlt
    simp only [List.flatten_cons, List.flatten_nil, List.append_nil] at hl ⊢
    by_cases hz : l = []
    · subst hz
      refine Calls.mono (Any.bytes_Join_one_empty laysJ b off cap p c _ w hcell) ?_
      rintro e w' ⟨rfl, rfl⟩
      exact ⟨_, rfl, Bs.nil (by simp [maxLen]) (fun _ => rfl), St.refl _⟩
    · cases p with
      | none => exact absurd (k1 rfl) hz
      | some ad =>
        refine Calls.mono (Any.bytes_Join_one laysJ b off cap ad c (toU l) _ w (by rw [toU_length]; exact hcell) (k2 ad rfl) (by rw [toU_length]; exact List.length_pos_iff.2 hz) (by rw [toU_length]; exact hl)) ?_
        rintro e w' ⟨v', rfl, hF, hB⟩
        exact ⟨_, rfl, Bs.of_fresh hF hlt', St.of_below hB⟩
  | l :: l' :: r, h1, h4, hn, hl, hlt =>
    obtain ⟨ls, hls⟩ : ∃ ls, ls = l :: l' :: r := ⟨_, rfl⟩
    have h2' : 2 ≤ ls.length := by rw [hls]; simp
    rw [← hls] at h1 h4 hn hl hlt ⊢
    obtain ⟨b, off, n, f, rfl, e2, e3, e4⟩ := h4 (by rw [hls]; simp)
    clear hls
    refine Calls.mono (Any.bytes_Join_many laysJ b off ls.length cap ((List.range ls.length).map fun j => f (off + j)) (ls.map toU) (.slice none 0 0) [] w (by simp) h2' ?_ h1 ?_ hn (by rw [lens_flat]; simpa using hl)) ?_
    · refine ⟨by simp, fun i v hv => ?_, fun i v l hv hl => ?_⟩
      · have hi : i < ls.length := by have := (List.getElem?_eq_some_iff.1 hv).1; simpa using this
        have : v = f (off + i) := by simpa [hi] using hv.symm
        rw [Addr.add_mid, e2.cell (by omega), this]
      · have hi : i < ls.length := by have := (List.getElem?_eq_some_iff.1 hv).1; simpa using this
        have : v = f (off + i) := by simpa [hi] using hv.symm
        have hli : l = toU (ls.getD i []) := by
          rw [List.getElem?_map, List.getElem?_eq_getElem hi] at hl
          rw [List.getD_eq_getElem?_getD, List.getElem?_eq_getElem hi]
          simpa using hl.symm
        rw [this, hli]
        exact (e4 i hi).holds
    · exact ⟨none, 0, rfl, fun _ => rfl, fun a h => by cases h⟩
    · rintro e w' ⟨v', rfl, hF, hB⟩
      rw [join_flat] at hF
      exact ⟨_, rfl, Bs.of_fresh hF hlt, St.of_below hB⟩
end Go.Proofs.YthbobmpeaemdnaaDoor
