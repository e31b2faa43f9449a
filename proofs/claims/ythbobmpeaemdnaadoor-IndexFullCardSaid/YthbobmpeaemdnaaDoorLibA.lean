/- The memory words that all walks of this family use: what a call owns (St), blocks told by index functions (row, blk), and each memory operation of the model as one law over them. -/
import Derived.WalkKit
import Derived.Deep.QuietTactic
import Derived.BigQuiet
import Derived.Deep.RegionHeld3
import Derived.Lib.Hide
namespace Go.Jal
open Go

/-! ### Rows told by an index function -/
/-- n cells, cell i holding f i. -/
def row (n : Nat) (f : Nat → Value) : Array Value := ((List.range n).map f).toArray

@[simp] theorem size_row (n : Nat) (f : Nat → Value) : (row n f).size = n := by simp [row]
theorem row_get {n i : Nat} {f : Nat → Value} (h : i < n) : (row n f)[i]? = some (f i) := by simp [row, h]
theorem row_congr {n : Nat} {f g : Nat → Value} (h : ∀ i, i < n → f i = g i) : row n f = row n g := by
  unfold row; congr 1; apply List.map_congr_left; intro i hi; exact h i (by simpa using hi)
theorem row_self (c : Array Value) : row c.size (fun j => c.getD j undef) = c := by
  apply Array.ext
  · simp
  · intro i h1 h2
    have h3 : i < c.size := by simpa using h1
    simp [row, Array.getD, h3]
theorem row_inj {n : Nat} {f g : Nat → Value} (h : row n f = row n g) : ∀ i, i < n → f i = g i := by
  intro i hi
  have := congrArg (fun a : Array Value => a[i]?) h
  simpa [row_get hi] using this
/-- f with v at i. -/
def upd (f : Nat → Value) (i : Nat) (v : Value) : Nat → Value := fun j => if j = i then v else f j
theorem row_set {n i : Nat} {f : Nat → Value} {v : Value} : (row n f).setIfInBounds i v = row n (upd f i v) := by
  apply Array.ext
  · simp
  · intro j h1 h2
    have hj : j < n := by simpa using h2
    rw [Array.getElem_setIfInBounds (by simpa using hj)]
    simp only [row, upd, List.getElem_toArray, List.getElem_map, List.getElem_range]
    by_cases h : i = j
    · subst h; simp
    · rw [if_neg h, if_neg (fun e => h e.symm)]
/-- f with g's first m at off. -/
def blit (f : Nat → Value) (off m : Nat) (g : Nat → Value) : Nat → Value := fun j => if off ≤ j ∧ j < off + m then g (j - off) else f j
theorem row_extract {n off m : Nat} {f : Nat → Value} (h : off + m ≤ n) : (row n f).extract off (off + m) = row m (fun j => f (off + j)) := by
  apply Array.ext
  · simp; omega
  · intro j h1 h2
    have hj : j < m := by simpa using h2
    simp [row]
theorem row_list {n off m : Nat} {f g : Nat → Value} (h : off + m ≤ n) :
    ((row n f).toList.take off ++ (row m g).toList ++ (row n f).toList.drop (off + m)).toArray = row n (blit f off m g) := by
  apply Array.ext
  · simp; omega
  · intro j h1 h2
    have hj : j < n := by simpa using h2
    simp only [row, blit, List.getElem_toArray, List.getElem_map, List.getElem_range]
    by_cases c1 : j < off
    · rw [List.getElem_append_left (by simp; omega), List.getElem_append_left (by simp; omega), if_neg (by omega)]
      simp
    · by_cases c2 : j < off + m
      · rw [List.getElem_append_left (by simp; omega), List.getElem_append_right (by simp; omega), if_pos ⟨by omega, c2⟩]
        simp [show min off n = off by omega]
      · rw [List.getElem_append_right (by simp; omega), if_neg (by omega)]
        simp [show min off n = off by omega]
        congr 1; omega

/-- An unfrozen block of n cells of type T, cell i holding f i. -/
def blk (n : Nat) (f : Nat → Value) (T : TypeId) : Obj := .cells (row n f) T (0, 0)
theorem blk_congr {n : Nat} {f g : Nat → Value} {T : TypeId} (h : ∀ i, i < n → f i = g i) : blk n f T = blk n g T := by
  unfold blk; rw [row_congr h]

/-- Block b reads as n cells, cell i being f i (frozen or not). -/
def Has (w : World) (b n : Nat) (f : Nat → Value) : Prop := ∃ T fr, w.heap[b]? = some (.cells (row n f) T fr)
theorem Has.cell {w : World} {b n i : Nat} {f : Nat → Value} (h : Has w b n f) (hi : i < n) : w.cell? ⟨b, i, none⟩ = some (f i) := by
  obtain ⟨T, fr, h⟩ := h
  rw [cell_of_row w b i _ T fr h, row_get hi]
theorem Has.lt {w : World} {b n : Nat} {f : Nat → Value} (h : Has w b n f) : b < w.heap.size := by
  obtain ⟨T, fr, h⟩ := h
  by_cases c : b < w.heap.size
  · exact c
  · rw [Array.getElem?_eq_none (by omega)] at h; cases h

/-! ### What a call owns -/
/-- w0: the world in which the call began; M: the old blocks that it may write; L: what the blocks of its own (and of M) hold. All other old blocks are as they were. -/
structure St (w0 : World) (M : List Nat) (L : List (Nat × Obj)) (w : World) : Prop where
  os : w.os = w0.os
  tape : w.tape = w0.tape
  output : w.output = w0.output
  size : w0.heap.size ≤ w.heap.size
  own : ∀ p ∈ L, w.heap[p.1]? = some p.2
  nodup : (L.map Prod.fst).Nodup
  new : ∀ p ∈ L, w0.heap.size ≤ p.1 ∨ p.1 ∈ M
  old : ∀ k, k < w0.heap.size → k ∉ M → w.heap[k]? = w0.heap[k]?

theorem St.refl (w : World) : St w [] [] w := ⟨rfl, rfl, rfl, Nat.le_refl _, by simp, by simp, by simp, fun _ _ _ => rfl⟩
theorem St.refl1 {w : World} {b : Nat} {o : Obj} (h : w.heap[b]? = some o) : St w [b] [(b, o)] w :=
  ⟨rfl, rfl, rfl, Nat.le_refl _, by simpa using h, by simp, by simp, fun _ _ _ => rfl⟩
theorem St.refl2 {w : World} {b c : Nat} {o u : Obj} (h : w.heap[b]? = some o) (h2 : w.heap[c]? = some u) (hn : b ≠ c) : St w [b, c] [(b, o), (c, u)] w :=
  ⟨rfl, rfl, rfl, Nat.le_refl _, by simp [h, h2], by simp [hn], by simp, fun _ _ _ => rfl⟩
theorem St.below {w0 w : World} {L : List (Nat × Obj)} (h : St w0 [] L w) : RowKit.Below w0.heap.size w0 w :=
  ⟨h.os, h.tape, h.output, h.size, fun k hk => h.old k hk (by simp)⟩
theorem lt_of_some {w : World} {b : Nat} {o : Obj} (h : w.heap[b]? = some o) : b < w.heap.size := by
  by_cases c : b < w.heap.size
  · exact c
  · rw [Array.getElem?_eq_none (by omega)] at h; cases h

/-- One entry of L, and what else there is. -/
inductive Pick : List (Nat × Obj) → Nat → Obj → List (Nat × Obj) → Prop where
  | head {b : Nat} {o : Obj} {L : List (Nat × Obj)} : Pick ((b, o) :: L) b o L
  | tail {b : Nat} {o : Obj} {q : Nat × Obj} {L L' : List (Nat × Obj)} : Pick L b o L' → Pick (q :: L) b o (q :: L')
theorem Pick.mem {L L' : List (Nat × Obj)} {b : Nat} {o : Obj} (h : Pick L b o L') : (b, o) ∈ L := by
  induction h with
  | head => simp
  | tail _ ih => exact List.mem_cons_of_mem _ ih
theorem Pick.perm {L L' : List (Nat × Obj)} {b : Nat} {o : Obj} (h : Pick L b o L') : L.Perm ((b, o) :: L') := by
  induction h with
  | head => exact .refl _
  | tail _ ih => exact (ih.cons _).trans (.swap _ _ _)

section
variable {w0 w : World} {M : List Nat} {L L' : List (Nat × Obj)} {b : Nat} {o o' : Obj}

theorem St.perm (h : St w0 M L w) (hp : L.Perm L') : St w0 M L' w :=
  ⟨h.os, h.tape, h.output, h.size, fun p m => h.own p (hp.mem_iff.2 m), ((hp.map Prod.fst).nodup_iff).1 h.nodup, fun p m => h.new p (hp.mem_iff.2 m), h.old⟩
theorem St.front (h : St w0 M L w) (hp : Pick L b o L') : St w0 M ((b, o) :: L') w := h.perm hp.perm
theorem St.drop (h : St w0 M ((b, o) :: L) w) : St w0 M L w :=
  ⟨h.os, h.tape, h.output, h.size, fun p m => h.own p (by simp [m]), (by have := h.nodup; simp at this ⊢; exact this.2), fun p m => h.new p (by simp [m]), h.old⟩
theorem St.sub (h : St w0 M L w) (hs : L'.Sublist L) : St w0 M L' w :=
  ⟨h.os, h.tape, h.output, h.size, fun p m => h.own p (hs.subset m), (hs.map Prod.fst).nodup h.nodup, fun p m => h.new p (hs.subset m), h.old⟩
theorem St.none (h : St w0 M L w) : St w0 M [] w := h.sub (List.nil_sublist _)
theorem St.mono (h : St w0 M L w) {M' : List Nat} (hM : ∀ k ∈ M, k ∈ M') : St w0 M' L w :=
  ⟨h.os, h.tape, h.output, h.size, h.own, h.nodup, fun p m => (h.new p m).imp id (hM _), fun k hk hn => h.old k hk (fun c => hn (hM _ c))⟩
theorem St.has (h : St w0 M L w) {n : Nat} {f : Nat → Value} {T : TypeId} {fr : Nat × Nat} (hp : Pick L b (.cells (row n f) T fr) L') : Has w b n f :=
  ⟨T, fr, h.own _ hp.mem⟩
theorem St.hasb (h : St w0 M L w) {n : Nat} {f : Nat → Value} {T : TypeId} (hp : Pick L b (blk n f T) L') : Has w b n f :=
  ⟨T, (0, 0), h.own _ hp.mem⟩
/-- An old block that the call may not write. -/
theorem St.hasOld (h : St w0 M L w) {n : Nat} {f : Nat → Value} (ho : Has w0 b n f) (hb : b ∉ M) : Has w b n f := by
  obtain ⟨T, fr, ho⟩ := ho
  exact ⟨T, fr, by rw [h.old b (lt_of_some ho) hb]; exact ho⟩
theorem St.heapOld (h : St w0 M L w) (ho : w0.heap[b]? = some o) (hb : b ∉ M) : w.heap[b]? = some o := by
  rw [h.old b (lt_of_some ho) hb]; exact ho
theorem St.lt (h : St w0 M L w) (hp : Pick L b o L') : b < w.heap.size := lt_of_some (h.own _ hp.mem)
theorem St.fresh (h : St w0 M L w) : ∀ p ∈ L, p.1 < w.heap.size := fun p m => lt_of_some (h.own p m)

theorem St.drew (h : St w0 M L w) : St w0 M L w.drew := ⟨h.os, h.tape, h.output, h.size, h.own, h.nodup, h.new, h.old⟩
theorem St.alloc (h : St w0 M L w) (o : Obj) : St w0 M ((w.heap.size, o) :: L) (w.alloc o) := by
  refine ⟨h.os, h.tape, h.output, ?_, ?_, ?_, ?_, ?_⟩
  · have := h.size; simp; omega
  · intro p m
    rcases List.mem_cons.1 m with rfl | m
    · exact heap_alloc_new w o
    · rw [RowKit.Below.heap_alloc w o _ (h.fresh p m)]; exact h.own p m
  · simp only [List.map_cons, List.nodup_cons]
    refine ⟨fun m => ?_, h.nodup⟩
    obtain ⟨p, hp, e⟩ := List.mem_map.1 m
    have := h.fresh p hp; omega
  · intro p m
    rcases List.mem_cons.1 m with rfl | m
    · exact .inl h.size
    · exact h.new p m
  · intro k hk hM
    rw [RowKit.Below.heap_alloc w o k (by have := h.size; omega)]; exact h.old k hk hM
/-- Another object in a block that is owned. -/
theorem St.put (h : St w0 M ((b, o) :: L) w) (w' : World) (o' : Obj) (hh : w'.heap = w.heap.setIfInBounds b o') (h1 : w'.os = w.os) (h2 : w'.tape = w.tape) (h3 : w'.output = w.output) :
    St w0 M ((b, o') :: L) w' := by
  have hn : b ∉ L.map Prod.fst := by have := h.nodup; simp only [List.map_cons, List.nodup_cons] at this; exact this.1
  have hlt : b < w.heap.size := lt_of_some (h.own (b, o) (by simp))
  refine ⟨h1.trans h.os, h2.trans h.tape, h3.trans h.output, by rw [hh]; simpa using h.size, ?_, by simpa using h.nodup, ?_, ?_⟩
  · intro p m
    rw [hh]
    rcases List.mem_cons.1 m with rfl | m
    · simp [hlt]
    · have hne : b ≠ p.1 := fun e => hn (e ▸ List.mem_map.2 ⟨p, m, rfl⟩)
      rw [Array.getElem?_setIfInBounds_ne hne]; exact h.own p (by simp [m])
  · intro p m
    rcases List.mem_cons.1 m with rfl | m
    · exact h.new (b, o) (by simp)
    · exact h.new p (by simp [m])
  · intro k hk hM
    have hne : b ≠ k := by
      rintro rfl
      rcases h.new (b, o) (by simp) with c | c
      · simp at c; omega
      · exact hM c
    rw [hh, Array.getElem?_setIfInBounds_ne hne]; exact h.old k hk hM
/-- A call that writes no old block of its own world. -/
theorem St.call (h : St w0 M L w) {w' : World} (h' : St w [] L' w') : St w0 M (L' ++ L) w' := by
  have hge : ∀ p ∈ L', w.heap.size ≤ p.1 := fun p m => (h'.new p m).resolve_right (by simp)
  refine ⟨h'.os.trans h.os, h'.tape.trans h.tape, h'.output.trans h.output, Nat.le_trans h.size h'.size, ?_, ?_, ?_, ?_⟩
  · intro p m
    rcases List.mem_append.1 m with m | m
    · exact h'.own p m
    · rw [h'.old p.1 (h.fresh p m) (by simp)]; exact h.own p m
  · rw [List.map_append]
    refine List.nodup_append.2 ⟨h'.nodup, h.nodup, fun x hx y hy e => ?_⟩
    obtain ⟨p, hp, rfl⟩ := List.mem_map.1 hx
    obtain ⟨q, hq, e2⟩ := List.mem_map.1 hy
    have := hge p hp; have := h.fresh q hq; omega
  · intro p m
    rcases List.mem_append.1 m with m | m
    · exact .inl (Nat.le_trans h.size (hge p m))
    · exact h.new p m
  · intro k hk hM
    rw [h'.old k (by have := h.size; omega) (by simp)]; exact h.old k hk hM
/-- A call that may write one block that is owned. -/
theorem St.call1 (h : St w0 M ((b, o) :: L) w) {w' : World} (h' : St w [b] L' w') : St w0 M (L' ++ L) w' := by
  have hn : b ∉ L.map Prod.fst := by have := h.nodup; simp only [List.map_cons, List.nodup_cons] at this; exact this.1
  have hd := h.drop
  have hge : ∀ p ∈ L', w.heap.size ≤ p.1 ∨ p.1 = b := fun p m => (h'.new p m).imp id (by simp)
  have hne : ∀ q ∈ L, q.1 ≠ b := fun q m e => hn (e ▸ List.mem_map.2 ⟨q, m, rfl⟩)
  refine ⟨h'.os.trans h.os, h'.tape.trans h.tape, h'.output.trans h.output, Nat.le_trans h.size h'.size, ?_, ?_, ?_, ?_⟩
  · intro p m
    rcases List.mem_append.1 m with m | m
    · exact h'.own p m
    · rw [h'.old p.1 (hd.fresh p m) (by simpa using hne p m)]; exact hd.own p m
  · rw [List.map_append]
    refine List.nodup_append.2 ⟨h'.nodup, hd.nodup, fun x hx y hy e => ?_⟩
    obtain ⟨p, hp, rfl⟩ := List.mem_map.1 hx
    obtain ⟨q, hq, e2⟩ := List.mem_map.1 hy
    have := hd.fresh q hq
    rcases hge p hp with c | c
    · omega
    · exact hne q hq (by omega)
  · intro p m
    rcases List.mem_append.1 m with m | m
    · rcases hge p m with c | c
      · exact .inl (Nat.le_trans h.size c)
      · rw [c]; exact h.new (b, o) (by simp)
    · exact hd.new p m
  · intro k hk hM
    have hkb : k ≠ b := by
      rintro rfl
      rcases h.new (k, o) (by simp) with c | c
      · simp at c; omega
      · exact hM c
    rw [h'.old k (by have := h.size; omega) (by simpa using hkb)]; exact h.old k hk hM
end
end Go.Jal
