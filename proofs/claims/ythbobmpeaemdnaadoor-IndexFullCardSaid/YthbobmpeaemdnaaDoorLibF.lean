/- Slice literals, append, structs built, as operations; the ends of regions that draw. -/
import Derived.Test.YthbobmpeaemdnaaDoorLibE
namespace Go.Jal
open Go Go.RowKit

section
variable {P : Program}

theorem fold_zip (n off : Nat) : ∀ (l : List Value) (k : Nat) (f : Nat → Value), off + k + l.length ≤ n →
    (l.zipIdx k).foldl (fun cs (p : Value × Nat) => cs.setIfInBounds (off + p.2) p.1) (row n f) = row n (fun j => if off + k ≤ j ∧ j < off + k + l.length then l.getD (j - (off + k)) undef else f j)
  | [], k, f, _ => by
    simp only [List.zipIdx_nil, List.foldl_nil, List.length_nil, Nat.add_zero]
    refine row_congr fun i hi => ?_
    rw [if_neg (by omega)]
  | v :: l, k, f, hl => by
    simp only [List.zipIdx_cons, List.foldl_cons, row_set]
    simp only [List.length_cons] at hl ⊢
    rw [fold_zip n off l (k + 1) _ (by omega)]
    refine row_congr fun i hi => ?_
    simp only [upd]
    by_cases c : i = off + k
    · subst c
      rw [if_neg (by omega), if_pos rfl, if_pos ⟨by omega, by omega⟩]
      simp
    · by_cases d : off + (k + 1) ≤ i ∧ i < off + (k + 1) + l.length
      · rw [if_pos d, if_pos ⟨by omega, by omega⟩]
        rw [show i - (off + k) = (i - (off + (k + 1))) + 1 by omega]
        simp
      · rw [if_neg d, if_neg c, if_neg (by omega)]

theorem fill_one {n off m : Nat} {f g : Nat → Value} (h : off + m ≤ n) :
    ((row m g).zipIdx.foldl (fun cs (p : Value × Nat) => cs.setIfInBounds (off + p.2) p.1) (row n f)) = row n (blit f off m g) := by
  have h0 : (row m g).zipIdx.foldl (fun cs (p : Value × Nat) => cs.setIfInBounds (off + p.2) p.1) (row n f) = ((row m g).toList.zipIdx 0).foldl (fun cs (p : Value × Nat) => cs.setIfInBounds (off + p.2) p.1) (row n f) := by
    rw [← Array.foldl_toList, Array.toList_zipIdx]
  rw [h0, fold_zip n off _ 0 f (by simp [row]; omega)]
  refine row_congr fun i hi => ?_
  unfold blit
  simp only [Nat.add_zero]
  by_cases c : off ≤ i ∧ i < off + m
  · rw [if_pos (by simpa [row] using c), if_pos c]
    simp [row, List.getD_eq_getElem?_getD, show i - off < m by omega]
  · rw [if_neg (by simpa [row] using c), if_neg c]

/-- A slice type's facts: its element's type, cells, bytes, zero. -/
structure Elt (P : Program) (t e z bytes : Nat) (zf : Nat → Value) : Prop where
  und : P.underlying t = some (.slice e)
  zer : Zer P e z zf
  siz : (P.info? e).map (fun i => (i.size, i.bytes)) = some (z, bytes)
  pos : 0 < z

theorem run_sizeOf {t z : Nat} {bytes : Nat} (h : (P.info? t).map (fun i => (i.size, i.bytes)) = some (z, bytes)) (w : World) : (sizeOf t).run P w = .ok z w := by
  cases q : P.info? t with
  | none => simp [q] at h
  | some i => simp [q] at h; simp [sizeOf, typeInfo, q, h.1]
theorem run_zeroValue {t n : Nat} {f : Nat → Value} (hz : Zer P t n f) (w : World) : ∃ zv, (zeroValue t).run P w = .ok zv w ∧ zv.cells = row n f := by
  unfold Zer at hz
  cases q1 : P.info? t with
  | none => simp [q1] at hz
  | some i =>
    cases q2 : i.zero with
    | none => simp [q1, q2] at hz
    | some zv => exact ⟨zv, by simp [zeroValue, typeInfo, q1, q2], by simpa [q1, q2] using hz⟩

theorem run_buildSlice1 {t e z bytes : Nat} {zf : Nat → Value} (he : Elt P t e z bytes zf) (hz : z ≤ 16777216) {v : Value} {g : Nat → Value} (hv : v.cells = row z g) (w : World) :
    (Instr.buildSlice t 1 #[(0, v)]).run P w = .ok (.slice (some ⟨w.heap.size, 0, none⟩) 1 1) (w.alloc (blk z g e)) := by
  have hpos := he.pos
  obtain ⟨zv, hz1, hz2⟩ := run_zeroValue he.zer w
  have h24 : ¬ (z > 2 ^ 24) := by omega
  have hz0 : z ≠ 0 := by omega
  have hfill : Instr.fill (fun i => some (i * z, z)) ((Array.range z).map (fun i => (row z zf)[i % z]!)) [(0, v)] = some (row z g) := by
    have h1 : ((Array.range z).map (fun i => (row z zf)[i % z]!)) = row z zf := by
      apply Array.ext
      · simp
      · intro i h1 h2
        have hi : i < z := by simpa using h2
        simp [row, Nat.mod_eq_of_lt hi, hi]
    rw [h1]
    have h2 : Instr.fill (fun i => some (i * z, z)) (row z zf) [(0, v)] = some ((row z g).zipIdx.foldl (fun cs (p : Value × Nat) => cs.setIfInBounds (0 * z + p.2) p.1) (row z zf)) := by
      simp [Instr.fill, hv]
    rw [h2, show 0 * z = 0 by simp, fill_one (by omega)]
    congr 1
    exact row_congr fun i hi => by unfold blit; rw [if_pos ⟨by omega, by omega⟩]; rfl
  simp [Instr.buildSlice, run_underlying he.und, run_sizeOf he.siz, h24, hz0, hz1, hz2, hfill, newRow, newObj, Sem.run, blk]

section
variable {ops : Array Oper} {Q : Exit → Act → World → Prop} {K : Act → World → Prop} {a a' : Act} {w w0 : World} {rest : List Oper} {o : Oper} {M : List Nat} {L L' : List (Nat × Obj)}

theorem wo_buildSlice1 {t e z bytes : Nat} {zf : Nat → Value} {x : Operand} {v : Value} {g : Nat → Value} (ho : o.op = .buildSlice t 1 #[(0, x)]) (he : Elt P t e z bytes zf) (hz : z ≤ 16777216) (hx : a.eval x = v) (hv : v.cells = row z g) (hst : St w0 M L w)
    (hk : ∀ b w', w0.heap.size ≤ b → St w0 M ((b, blk z g e) :: L) w' → K (a.put o.dst (.slice (some ⟨b, 0, none⟩) 1 1)) w') : o.wp P a w K Q := by
  unfold Oper.wp execOp
  simp only [ho, Sem.run_bind]
  have : (#[(0, x)] : Array (Nat × Operand)).map (fun p => (p.1, a.eval p.2)) = #[(0, v)] := by simp [hx]
  simp only [List.map_toArray, List.map_cons, List.map_nil, hx, run_buildSlice1 he hz hv, Result.andThen_ok, Sem.run_pure]
  exact hk _ _ hst.size (hst.alloc _)
theorem wl_buildSlice1 {t e z bytes : Nat} {zf : Nat → Value} {x : Operand} {v : Value} {g : Nat → Value} (ho : o.op = .buildSlice t 1 #[(0, x)]) (hw : Region.wanted o (yielded ops a.tmps) = true) (he : Elt P t e z bytes zf) (hz : z ≤ 16777216) (hx : a.eval x = v) (hv : v.cells = row z g) (hst : St w0 M L w)
    (hk : ∀ b w', w0.heap.size ≤ b → St w0 M ((b, blk z g e) :: L) w' → wpList P ops Q rest (a.put o.dst (.slice (some ⟨b, 0, none⟩) 1 1)) w') : wpList P ops Q (o :: rest) a w :=
  BigFrame.wpList_want hw fun _ hK => wo_buildSlice1 ho he hz hx hv hst fun b w' h1 h2 => hK _ _ (hk b w' h1 h2)

theorem wo_append {t e z bytes : Nat} {zf : Nat → Value} {s x : Operand} (ho : o.op = .call { callee := .builtin .append, args := #[s, x], argTypes := #[t, t] }) (he : Elt P t e z bytes zf)
    {v : Value} {n : Nat} {g : Nat → Value} {E : List (Nat × Obj)} {ad : Option Addr} {m c : Nat} {h : Nat → Value} (hs : a.eval s = v) (hx : a.eval x = .slice ad m c)
    (hown : Own z e v n g E) (hst : St w0 M (E ++ L) w) (hsrc : Src w ad (m * z) h) (hnil : ad = none → m = 0) (h1 : ∀ j, j < m * z → (h j).oneCell' = true)
    (hfit : (n + m) * bytes ≤ 140737488355328) (h63 : n + m ≤ maxLen)
    (hk : ∀ v' w' E', Own z e v' (n + m) (glue (n * z) g h) E' → St w0 M (E' ++ L) w' → (v' = .slice none 0 0 → v = .slice none 0 0 ∧ m = 0) → K (a.put o.dst v') w') : o.wp P a w K Q := by
  obtain ⟨v', w', E', hr, r1, r2, r3⟩ := run_append_st (P := P) (ty := o.type) he.und he.zer he.siz he.pos hown hst (c := c) hsrc hnil h1 hfit h63
  unfold Oper.wp execOp
  simp only [ho, resolve, invoke, builtin, Sem.run_bind, Sem.run_pure, Result.andThen_ok, List.map_toArray, List.map_cons, List.map_nil, hs, hx, hr]
  exact hk v' w' E' r1 r2 r3
theorem wl_append {t e z bytes : Nat} {zf : Nat → Value} {s x : Operand} (ho : o.op = .call { callee := .builtin .append, args := #[s, x], argTypes := #[t, t] }) (hw : Region.wanted o (yielded ops a.tmps) = true) (he : Elt P t e z bytes zf)
    {v : Value} {n : Nat} {g : Nat → Value} {E : List (Nat × Obj)} {ad : Option Addr} {m c : Nat} {h : Nat → Value} (hs : a.eval s = v) (hx : a.eval x = .slice ad m c)
    (hown : Own z e v n g E) (hst : St w0 M (E ++ L) w) (hsrc : Src w ad (m * z) h) (hnil : ad = none → m = 0) (h1 : ∀ j, j < m * z → (h j).oneCell' = true)
    (hfit : (n + m) * bytes ≤ 140737488355328) (h63 : n + m ≤ maxLen)
    (hk : ∀ v' w' E', Own z e v' (n + m) (glue (n * z) g h) E' → St w0 M (E' ++ L) w' → (v' = .slice none 0 0 → v = .slice none 0 0 ∧ m = 0) → wpList P ops Q rest (a.put o.dst v') w') : wpList P ops Q (o :: rest) a w :=
  BigFrame.wpList_want hw fun _ hK => wo_append ho he hs hx hown hst hsrc hnil h1 hfit h63 fun v' w' E' r1 r2 r3 => hK _ _ (hk v' w' E' r1 r2 r3)
end

/-! ### arrays built of scalars -/
def lstF (l : List Value) : Nat → Value := fun j => l.getD j undef
def numbered : Nat → List Value → List (Nat × Value)
  | _, [] => []
  | k, v :: l => (k, v) :: numbered (k + 1) l
theorem fill_scal (n : Nat) : ∀ (l : List Value) (k : Nat) (f : Nat → Value), k + l.length ≤ n → (∀ v ∈ l, v.oneCell' = true) →
    Instr.fill (fun i => some (i * 1, 1)) (row n f) (numbered k l) = some (row n (fun j => if k ≤ j ∧ j < k + l.length then l.getD (j - k) undef else f j))
  | [], k, f, _, _ => by
    simp only [numbered, Instr.fill, List.length_nil, Nat.add_zero]
    congr 1
    exact row_congr fun i _ => by rw [if_neg (by omega)]
  | v :: l, k, f, hl, h1 => by
    have hv : v.cells = #[v] := cells_one (h1 v (by simp))
    simp only [List.length_cons] at hl ⊢
    have e1 : ¬ (v.cells.size ≠ 1 ∨ (decide (k * 1 + v.cells.size > (row n f).size)) = true) := by rw [hv]; simp; omega
    simp only [numbered, Instr.fill, hv]
    have e2 : (#[v] : Array Value).zipIdx.foldl (fun cs (p : Value × Nat) => cs.setIfInBounds (k * 1 + p.2) p.1) (row n f) = row n (upd f k v) := by
      have := fill_one (n := n) (off := k) (m := 1) (f := f) (g := fun _ => v) (by omega)
      rw [← row_one, blit_one] at this
      rw [Nat.mul_one]; exact this
    rw [if_neg (by simp; omega), e2, fill_scal n l (k + 1) _ (by omega) (fun u hu => h1 u (by simp [hu]))]
    congr 1
    refine row_congr fun i hi => ?_
    simp only [upd]
    by_cases c : i = k
    · subst c
      rw [if_neg (by omega), if_pos rfl, if_pos ⟨by omega, by omega⟩]
      simp
    · by_cases d : k + 1 ≤ i ∧ i < k + 1 + l.length
      · rw [if_pos d, if_pos ⟨by omega, by omega⟩, show i - k = (i - (k + 1)) + 1 by omega]
        simp
      · rw [if_neg d, if_neg c, if_neg (by omega)]
/-- An array type of n scalars. -/
structure Bld (P : Program) (t n e : Nat) (zf : Nat → Value) : Prop where
  und : P.underlying t = some (.array n e)
  zer : Zer P t n zf
  siz : (P.info? e).map (fun i => (i.size, i.bytes)) = some (1, 4)
theorem run_buildArr {t n e : Nat} {zf : Nat → Value} (hb : Bld P t n e zf) (l : List Value) (hl : l.length = n) (h1 : ∀ v ∈ l, v.oneCell' = true) (w : World) :
    (Instr.build t (numbered 0 l).toArray).run P w = .ok (.agg (row n (lstF l))) w := by
  obtain ⟨zv, hz1, hz2⟩ := run_zeroValue hb.zer w
  have hfill := fill_scal n l 0 zf (by omega) h1
  have e : row n (fun j => if 0 ≤ j ∧ j < 0 + l.length then l.getD (j - 0) undef else zf j) = row n (lstF l) := row_congr fun j hj => by
    rw [if_pos ⟨by omega, by omega⟩]; rfl
  rw [e] at hfill
  simp only [Nat.mul_one] at hfill
  simp [Instr.build, run_underlying hb.und, hz1, hz2, run_sizeOf hb.siz, hfill]
section
variable {ops : Array Oper} {Q : Exit → Act → World → Prop} {K : Act → World → Prop} {a a' : Act} {w w0 : World} {rest : List Oper} {o : Oper}
theorem wl_buildA {t n e : Nat} {zf : Nat → Value} {ps : List (Nat × Operand)} {l : List Value} (ho : o.op = .build t ps.toArray) (hw : Region.wanted o (yielded ops a.tmps) = true) (hb : Bld P t n e zf)
    (hp : ps.map (fun p => (p.1, a.eval p.2)) = numbered 0 l) (hl : l.length = n) (h1' : l.all Value.oneCell' = true) (ha : a.put o.dst (.agg (row n (lstF l))) = a' := by (conv => lhs; simp only [Go.Jal.put_lit, Go.Jal.put_none, Go.Jal.setL]) <;> rfl)
    (hk : wpList P ops Q rest a' w) : wpList P ops Q (o :: rest) a w := by
  have h1 : ∀ v ∈ l, v.oneCell' = true := by simpa using h1'
  refine BigFrame.wpList_want hw fun K hK => ?_
  unfold Oper.wp execOp
  simp only [ho, Sem.run_bind, List.map_toArray, hp, run_buildArr hb l hl h1, Result.andThen_ok, Sem.run_pure]
  exact hK _ _ (ha ▸ hk)
end

/-! ### the ends of regions that draw -/
/-- For a region that stores into the cells lo .. lo + m of block b: what they hold is open. -/
def SX (w0 : World) (M : List Nat) (b n : Nat) (f0 : Nat → Value) (lo m : Nat) (T : TypeId) (L : List (Nat × Obj)) : World → Prop :=
  fun w => ∃ f, (∀ j, j < n → ¬ (lo ≤ j ∧ j < lo + m) → f j = f0 j) ∧ St w0 M ((b, blk n f T) :: L) w
section
variable {lops : List Oper} {Q : Exit → Act → World → Prop} {K : Act → World → Prop} {a a' : Act} {w w0 : World} {o : Oper} {M : List Nat} {L L' : List (Nat × Obj)} {b n : Nat} {f0 : Nat → Value} {lo m : Nat} {T : TypeId} {S : World → Prop} {listed l' : Array Bool}

theorem cls_sx : Cls (SX w0 M b n f0 lo m T L) := fun _ _ ⟨f, h1, h2⟩ hb => ⟨f, h1, h2.cls hb⟩
theorem SX.of (h : St w0 M L w) (hp : Pick L b (blk n f0 T) L') : SX w0 M b n f0 lo m T L' w := ⟨f0, fun _ _ _ => rfl, h.front hp⟩
theorem SX.st (h : SX w0 M b n f0 lo m T L w) : St w0 M L w := let ⟨_, _, h2⟩ := h; h2.drop
theorem SX.own (h : SX w0 M b n f0 lo m T L w) {k : Nat} (hk : k < n) (hn : ¬ (lo ≤ k ∧ k < lo + m)) : ∃ f, Has w b n f ∧ f k = f0 k :=
  let ⟨f, h1, h2⟩ := h; ⟨f, h2.hasb Pick.head, h1 k hk hn⟩

/-- A load from a block whose cells are known one by one. -/
theorem tk_load1x {N : Act → Prop} {i : Nat} {is : List Nat} {t : TypeId} {x : Operand} {b n k : Nat} {v : Value} (ho : nth lops i = some o) (hp : o.op = .load t x) (hw : Region.wanted o (yielded lops.toArray a.tmps) = true)
    (hx : a.eval x = .pointer (some ⟨b, k, none⟩)) (hb : ∀ w, S w → ∃ f, Has w b n f ∧ f k = v) (hi : k < n) (hs : Scal P t) (ha : a.put o.dst v = a' := by (conv => lhs; simp only [Go.Jal.put_lit, Go.Jal.put_none, Go.Jal.setL]) <;> rfl)
    (hk : wpTake P lops.toArray S N is a') : wpTake P lops.toArray S N (i :: is) a :=
  tk_val ho hw (fun w hS => by
    obtain ⟨f, h1, h2⟩ := hb w hS
    unfold execOp
    simp only [hp, hx, Sem.run_bind, run_load1 h1 hi hs, Result.andThen_ok, Sem.run_pure, h2]) ha hk

/-- One operation that is not taken comes up alone, S being what is owned. -/
theorem rg_op {i n : Nat} (hr : Region.ready .any lops.toArray listed = [i]) (ho : nth lops i = some o) (hl : listed.setIfInBounds i true = l') (hw : Region.wanted o (yielded lops.toArray a.tmps) = true)
    (h : ∀ w, S w → o.wp P a w (fun a' w' => ∃ S' : World → Prop, S' w' ∧ (∀ w, S' w → S w) ∧ Cls S' ∧ wpAnyG P .any lops.toArray Q n S' l' a') Q) : wpAnyG P .any lops.toArray Q (n + 1) S listed a :=
  rg_one i o hr (get_of_nth ho) hl hw fun w hS _ hK => Oper.wp_mono (fun a' w' ⟨S', h1, h2, h3, h4⟩ => hK a' w' S' h1 (.inl ⟨h2, h3⟩) h4) (h w hS)
/-- The same, at a class of what is owned that grows. -/
theorem rg_st {i n : Nat} (hr : Region.ready .any lops.toArray listed = [i]) (ho : nth lops i = some o) (hl : listed.setIfInBounds i true = l') (hw : Region.wanted o (yielded lops.toArray a.tmps) = true)
    (h : ∀ w, St w0 M L w → o.wp P a w (fun a' w' => ∃ E, St w0 M (E ++ L) w' ∧ wpAnyG P .any lops.toArray Q n (St w0 M (E ++ L)) l' a') Q) : wpAnyG P .any lops.toArray Q (n + 1) (St w0 M L) listed a :=
  rg_op hr ho hl hw fun w hS => Oper.wp_mono (fun _ _ ⟨E, h1, h2⟩ => ⟨St w0 M (E ++ L), h1, fun _ h => h.sub (List.sublist_append_right _ _), cls_st _ _ _, h2⟩) (h w hS)

/-- The last operation, bound after all others: what S says is asked no longer. -/
theorem rg_last {S : World → Prop} {i : Nat} (hr : Region.ready .any lops.toArray listed = [i]) (ho : nth lops i = some o) (hw : Region.wanted o (yielded lops.toArray a.tmps) = true)
    (hl : Region.ready .any lops.toArray (listed.setIfInBounds i true) = []) (hlast : lastOp .any lops.toArray i = true)
    (h : ∀ w, S w → o.wp P a w (fun a' w' => Q .normal a' w') Q) : wpAnyG P .any lops.toArray Q 1 S listed a :=
  rg_one i o hr (get_of_nth ho) rfl hw fun w hS _ hK => Oper.wp_mono (fun a' w' hq => hK a' w' (fun w => w = w') rfl (.inr (.inl hlast)) (rg_done hl (fun _ hw => hw ▸ hq) _)) (h w hS)
/-- An operation that each other is bound ahead of or behind, or is a move: the class may turn. -/
theorem rg_turn {S : World → Prop} {i n : Nat} (hr : Region.ready .any lops.toArray listed = [i]) (ho : nth lops i = some o) (hl : listed.setIfInBounds i true = l') (hw : Region.wanted o (yielded lops.toArray a.tmps) = true) (hlast : lastW P .any lops.toArray i = true)
    (h : ∀ w, S w → o.wp P a w (fun a' w' => ∃ S' : World → Prop, S' w' ∧ Cls S' ∧ wpAnyG P .any lops.toArray Q n S' l' a') Q) : wpAnyG P .any lops.toArray Q (n + 1) S listed a :=
  rg_one i o hr (get_of_nth ho) hl hw fun w hS _ hK => Oper.wp_mono (fun a' w' ⟨S', h1, hc, h2⟩ => hK a' w' S' h1 (.inr (.inr ⟨hlast, hc⟩)) h2) (h w hS)
/-- A store, bound after all others. -/
theorem rg_lastStore1 {L0 : List (Nat × Obj)} {i k : Nat} {t : TypeId} {x y : Operand} {v : Value} (hr : Region.ready .any lops.toArray listed = [i]) (ho : nth lops i = some o) (hp : o.op = .store t x y)
    (hw : Region.wanted o (yielded lops.toArray a.tmps) = true) (hl : Region.ready .any lops.toArray (listed.setIfInBounds i true) = []) (hlast : lastOp .any lops.toArray i = true)
    (hx : a.eval x = .pointer (some ⟨b, k, none⟩)) (hy : a.eval y = v) (hpk : Pick L0 b (blk n f0 T) L) (hi : k < n) (hs : Scal P t) (hv : v.oneCell' = true) (ha : a.put o.dst undef = a' := by (conv => lhs; simp only [Go.Jal.put_lit, Go.Jal.put_none, Go.Jal.setL]) <;> rfl)
    (hk : ∀ w', St w0 M ((b, blk n (upd f0 k v) T) :: L) w' → Q .normal a' w') : wpAnyG P .any lops.toArray Q 1 (St w0 M L0) listed a :=
  rg_last hr ho hw hl hlast fun _ hst => wo_store1 hp hx hy hst hpk hi hs hv ha hk

/-- The last operation: a store of one cell. -/
theorem rg_store1 {i k : Nat} {t : TypeId} {x y : Operand} {v : Value} (hr : Region.ready .any lops.toArray listed = [i]) (ho : nth lops i = some o) (hp : o.op = .store t x y)
    (hw : Region.wanted o (yielded lops.toArray a.tmps) = true) (hl : Region.ready .any lops.toArray (listed.setIfInBounds i true) = [])
    (hx : a.eval x = .pointer (some ⟨b, k, none⟩)) (hy : a.eval y = v) (hi : k < n) (hs : Scal P t) (hv : v.oneCell' = true) (ha : a.put o.dst undef = a' := by (conv => lhs; simp only [Go.Jal.put_lit, Go.Jal.put_none, Go.Jal.setL]) <;> rfl)
    (hk : ∀ w', St w0 M ((b, blk n (upd f0 k v) T) :: L) w' → Q .normal a' w') : wpAnyG P .any lops.toArray Q 1 (SX w0 M b n f0 k 1 T L) listed a := by
  refine rg_op hr ho rfl hw fun w ⟨f, h1, h2⟩ => ?_
  refine wo_store1 hp hx hy h2 Pick.head hi hs hv ha fun w' h3 => ?_
  have h4 : St w0 M ((b, blk n (upd f0 k v) T) :: L) w' := by
    have : blk n (upd f k v) T = blk n (upd f0 k v) T := blk_congr fun j hj => by
      unfold upd
      by_cases c : j = k
      · rw [if_pos c, if_pos c]
      · rw [if_neg c, if_neg c]; exact h1 j hj (by omega)
    rwa [this] at h3
  refine ⟨St w0 M ((b, blk n (upd f0 k v) T) :: L), h4, fun w hw => ⟨_, ?_, hw⟩, cls_st _ _ _, rg_done hl (fun w hw => hk w hw) _⟩
  intro j hj hn
  unfold upd
  rw [if_neg (by omega)]
/-- The last operation: a store of many cells. -/
theorem rg_storeN {i k : Nat} {t : TypeId} {x y : Operand} {g : Nat → Value} (hr : Region.ready .any lops.toArray listed = [i]) (ho : nth lops i = some o) (hp : o.op = .store t x y)
    (hw : Region.wanted o (yielded lops.toArray a.tmps) = true) (hl : Region.ready .any lops.toArray (listed.setIfInBounds i true) = [])
    (hx : a.eval x = .pointer (some ⟨b, k, none⟩)) (hy : a.eval y = .agg (row m g)) (hi : k + m ≤ n) (hs : Agg P t m) (hv : ∀ j, j < m → (g j).oneCell' = true) (ha : a.put o.dst undef = a' := by (conv => lhs; simp only [Go.Jal.put_lit, Go.Jal.put_none, Go.Jal.setL]) <;> rfl)
    (hk : ∀ w', St w0 M ((b, blk n (blit f0 k m g) T) :: L) w' → Q .normal a' w') : wpAnyG P .any lops.toArray Q 1 (SX w0 M b n f0 k m T L) listed a := by
  refine rg_op hr ho rfl hw fun w ⟨f, h1, h2⟩ => ?_
  refine wo_storeN hp hx hy h2 Pick.head hi hs hv ha fun w' h3 => ?_
  have h4 : St w0 M ((b, blk n (blit f0 k m g) T) :: L) w' := by
    have : blk n (blit f k m g) T = blk n (blit f0 k m g) T := blk_congr fun j hj => by
      unfold blit
      by_cases c : k ≤ j ∧ j < k + m
      · rw [if_pos c, if_pos c]
      · rw [if_neg c, if_neg c]; exact h1 j hj c
    rwa [this] at h3
  refine ⟨St w0 M ((b, blk n (blit f0 k m g) T) :: L), h4, fun w hw => ⟨_, ?_, hw⟩, cls_st _ _ _, rg_done hl (fun w hw => hk w hw) _⟩
  intro j hj hn
  unfold blit
  rw [if_neg (by omega)]
end
/-! ### results that lie in cells -/
theorem results_cellN {fn : Func} {p : Tmp} {t : TypeId} {b n : Nat} {f : Nat → Value} {w : World} {tmps : Array Value} (h : fn.results = #[.cell p t]) (hp : tmps.getD p undef = .pointer (some ⟨b, 0, none⟩))
    (hb : Has w b n f) (ha : Agg P t n) : (results fn tmps).run P w = .ok (.agg (row n f)) w := by
  obtain ⟨d, hu, hd, hz⟩ := ha
  obtain ⟨T, fr, hb⟩ := hb
  exact results_cell_row h tmps w b T (row n f) fr d hp hb hu (by cases d <;> simp_all [TypeDesc.isRow]) (by simpa using hz)
theorem ret_cellN {fn : Func} {R : Ending → World → Prop} {a : Act} {w : World} {p : Tmp} {t : TypeId} {b n : Nat} {f : Nat → Value} (h : fn.results = #[.cell p t]) (hp : a.tmps.getD p undef = .pointer (some ⟨b, 0, none⟩))
    (hb : Has w b n f) (ha : Agg P t n) (hd : a.defers = []) (hR : R (.returned (.agg (row n f))) w) : bodyPost P fn R .ret a w :=
  bodyPost_ret (results_cellN h hp hb ha) hd hR
end
end Go.Jal
