/- Each memory operation of the model as one law over 'Has' and 'St': for a plain list of operations (wl_..). -/
import Derived.Test.YthbobmpeaemdnaaDoorLibA
namespace Go.Jal
open Go

section
variable {P : Program}

/-- A type of one cell. -/
def Scal (P : Program) (t : TypeId) : Prop := ∃ d, P.underlying t = some d ∧ d.isRow = false ∧ (P.info? t).map (·.size) = some 1
theorem Scal.size {P : Program} {t : TypeId} (h : Scal P t) : (P.info? t).map (·.size) = some 1 := let ⟨_, _, _, h⟩ := h; h
/-- A struct or an array of n cells. -/
def Agg (P : Program) (t : TypeId) (n : Nat) : Prop := ∃ d, P.underlying t = some d ∧ d.isRow = true ∧ (P.info? t).map (·.size) = some n
/-- Its zero value's cells. -/
def Zer (P : Program) (t : TypeId) (n : Nat) (f : Nat → Value) : Prop := ((P.info? t).bind fun i => i.zero).map Value.cells = some (row n f)

/-- What a call of a Go function that returns comes to. -/
def Ret (P : Program) (f : FuncId) (args : Array Value) (w : World) (R : Value → World → Prop) : Prop :=
  Calls P f args w fun e w' => ∃ v, e = .returned v ∧ R v w'
theorem Ret.mono {f : FuncId} {args : Array Value} {w : World} {R R' : Value → World → Prop} (h : Ret P f args w R) (hr : ∀ v w', R v w' → R' v w') : Ret P f args w R' :=
  Calls.mono h fun _ _ ⟨v, he, hv⟩ => ⟨v, he, hr v _ hv⟩
/-- A function with a body. -/
def Plain (P : Program) (f : FuncId) : Prop := ((P.funcs[f]?).map fun fn => (fn.name == "runtime.NumGoroutine") || fn.body.isNone) = some false
theorem run_callFunc {f : FuncId} (h : Plain P f) (args : Array Value) (w : World) : (callFunc f args).run P w = .ok (.enter f args) w := by
  unfold Plain at h
  cases hf : P.funcs[f]? with
  | none => simp [hf] at h
  | some fn =>
    simp only [hf, Option.map_some, Option.some.injEq, Bool.or_eq_false_iff] at h
    simp only [callFunc, Sem.run_bind, run_program, Result.andThen_ok, hf, h.1, h.2]
    rfl

/-- The frame written out. -/
def setL : List Value → Nat → Value → List Value
  | [], _, _ => []
  | _ :: l, 0, v => v :: l
  | x :: l, i + 1, v => x :: setL l i v
theorem setL_eq : ∀ (l : List Value) (i : Nat) (v : Value), setL l i v = l.set i v
  | [], _, _ => rfl
  | _ :: _, 0, _ => rfl
  | _ :: l, i + 1, v => by simp [setL, setL_eq l i v]
theorem put_lit (l : List Value) (ds : List Deferred) (d : Nat) (v : Value) : Act.put ⟨l.toArray, ds⟩ (some d) v = ⟨(setL l d v).toArray, ds⟩ := by
  simp [Act.put, setL_eq]
theorem put_none (a : Act) (v : Value) : Act.put a none v = a := rfl

/-! ### the runs -/
theorem run_load1 {w : World} {b n i : Nat} {f : Nat → Value} {t : TypeId} (h : Has w b n f) (hi : i < n) (hs : Scal P t) :
    (Instr.loadAt t (.pointer (some ⟨b, i, none⟩))).run P w = .ok (f i) w := by
  obtain ⟨d, hu, hd, _⟩ := hs
  have hagg : (isAgg t).run P w = .ok false w := by
    unfold isAgg
    rw [Sem.run_bind, run_underlying hu w]
    cases d <;> simp_all [TypeDesc.isRow]
  simp [Instr.loadAt, Instr.sureAddr, loadVar, hagg, h.cell hi]
theorem run_loadN {w : World} {b n i m : Nat} {f : Nat → Value} {t : TypeId} (h : Has w b n f) (hi : i + m ≤ n) (ha : Agg P t m) :
    (Instr.loadAt t (.pointer (some ⟨b, i, none⟩))).run P w = .ok (.agg (row m fun j => f (i + j))) w := by
  obtain ⟨d, hu, hd, hz⟩ := ha
  have := run_loadAt_mid (P := P) w b i t ((List.range m).map fun j => f (i + j)) d (by
    intro j v hj
    have hjm : j < m := by
      have := (List.getElem?_eq_some_iff.1 hj).1; simpa using this
    have : v = f (i + j) := by simpa [hjm] using hj.symm
    rw [this]; exact h.cell (by omega)) hu hd (by simpa using hz)
  rw [this]; rfl

theorem heap_setRow (w : World) (g : Nat) (old cs : Array Value) (t : TypeId) (fr : Nat × Nat) (hg : w.heap[g]? = some (.cells old t fr)) :
    (w.setRow g cs).heap = w.heap.setIfInBounds g (.cells cs t fr) := by
  have hlt : g < w.heap.size := (Array.getElem?_eq_some_iff.1 hg).1
  have hv : w.heap[g] = .cells old t fr := (Array.getElem?_eq_some_iff.1 hg).2
  unfold World.setRow
  apply Array.ext
  · simp
  · intro i h1 h2
    simp only [Array.getElem_modify]
    rw [Array.getElem_setIfInBounds (by simpa using h1)]
    by_cases e : g = i
    · subst e; simp [hv]
    · simp [e]

theorem run_storeN_row {w : World} {b n i m : Nat} {f g : Nat → Value} {t T : TypeId} (h : w.heap[b]? = some (blk n f T)) (hi : i + m ≤ n) (hz : (P.info? t).map (·.size) = some m)
    (hg : ∀ j, j < m → (g j).oneCell' = true) (v : Value) (hv : v.cells = row m g) :
    (Instr.storeAt t (.pointer (some ⟨b, i, none⟩)) v).run P w = .ok () (w.setRow b (row n (blit f i m g))) := by
  cases hq : P.info? t with
  | none => simp [hq] at hz
  | some inf =>
    have hs : inf.size = m := by simpa [hq] using hz
    have hst := run_storeCells_at (P := P) b i T (row m g).toList 0 (row n f) w h (by simp [row]; omega) (by
      intro u hu
      simp only [row, List.mem_map, List.mem_range] at hu
      obtain ⟨j, hj, rfl⟩ := hu
      exact hg j hj)
    rw [show i + 0 = i from rfl, show (row m g).toList.length = m by simp [row], row_list hi] at hst
    simp [Instr.storeAt, Instr.sureAddr, storeVar, sizeOf, typeInfo, hq, hs, hv, hst]

theorem row_one (v : Value) : #[v] = row 1 (fun _ => v) := by simp [row, List.range_succ]
theorem blit_one (f : Nat → Value) (i : Nat) (v : Value) : blit f i 1 (fun _ => v) = upd f i v := by
  funext j; unfold blit upd
  by_cases h : j = i
  · subst h; rw [if_pos ⟨by omega, by omega⟩, if_pos rfl]
  · rw [if_neg (by omega), if_neg h]
theorem cells_one {v : Value} (h : v.oneCell' = true) : v.cells = #[v] := by cases v <;> first | rfl | simp [Value.oneCell'] at h

section
variable {w0 w : World} {M : List Nat} {L L' : List (Nat × Obj)}

theorem St.setRow {b n : Nat} {f : Nat → Value} {T : TypeId} (h : St w0 M ((b, blk n f T) :: L) w) (g : Nat → Value) : St w0 M ((b, blk n g T) :: L) (w.setRow b (row n g)) :=
  h.put _ _ (heap_setRow w b _ _ T (0, 0) (h.own (b, blk n f T) (by simp))) rfl rfl rfl
end

/-! ### the operations in a plain list -/
section
variable {ops : Array Oper} {Q : Exit → Act → World → Prop} {a a' : Act} {w w0 : World} {rest : List Oper} {o : Oper} {M : List Nat} {L L' : List (Nat × Obj)}

/-- For choosing a law by the operation at hand. -/
theorem at_d (d : Tmp) {op ty pos af g} (h : wpList P ops Q (⟨some d, op, ty, pos, af, g⟩ :: rest) a w) : wpList P ops Q (⟨some d, op, ty, pos, af, g⟩ :: rest) a w := h
theorem at_n (op : Op) {ty pos af g} (h : wpList P ops Q (⟨none, op, ty, pos, af, g⟩ :: rest) a w) : wpList P ops Q (⟨none, op, ty, pos, af, g⟩ :: rest) a w := h
theorem at_op (h : wpList P ops Q (o :: rest) a w) : wpList P ops Q (o :: rest) a w := h

theorem wl_load1 {t : TypeId} {x : Operand} {b i n : Nat} {f : Nat → Value} (ho : o.op = .load t x) (hw : Region.wanted o (yielded ops a.tmps) = true)
    (hx : a.eval x = .pointer (some ⟨b, i, none⟩)) (hb : Has w b n f) (hi : i < n) (hs : Scal P t) (ha : a.put o.dst (f i) = a' := by (conv => lhs; simp only [Go.Jal.put_lit, Go.Jal.put_none, Go.Jal.setL]) <;> rfl)
    (hk : wpList P ops Q rest a' w) : wpList P ops Q (o :: rest) a w := by
  refine BigFrame.wpList_want hw fun K hK => ?_
  unfold Oper.wp execOp
  simp only [ho, hx, Sem.run_bind, run_load1 hb hi hs, Result.andThen_ok, Sem.run_pure]
  exact hK _ _ (ha ▸ hk)

/-- The value told by an equation. -/
theorem wl_load1v {t : TypeId} {x : Operand} {b i n : Nat} {f : Nat → Value} {v : Value} (ho : o.op = .load t x) (hw : Region.wanted o (yielded ops a.tmps) = true)
    (hx : a.eval x = .pointer (some ⟨b, i, none⟩)) (hb : Has w b n f := by first | exact Go.Jal.St.hasb hst (by repeat (first | exact Go.Jal.Pick.head | apply Go.Jal.Pick.tail)) | exact Go.Jal.St.hasOld hst (by assumption) (by simp) | assumption) (hv : f i = v := by (conv => lhs; whnf) <;> rfl) (hi : i < n := by omega) (hs : Scal P t) (ha : a.put o.dst v = a' := by (conv => lhs; simp only [Go.Jal.put_lit, Go.Jal.put_none, Go.Jal.setL]) <;> rfl)
    (hk : wpList P ops Q rest a' w) : wpList P ops Q (o :: rest) a w :=
  wl_load1 ho hw hx hb hi hs (by rw [hv]; exact ha) hk

theorem wl_loadN {t : TypeId} {x : Operand} {b i n m : Nat} {f : Nat → Value} (ho : o.op = .load t x) (hw : Region.wanted o (yielded ops a.tmps) = true)
    (hx : a.eval x = .pointer (some ⟨b, i, none⟩)) (hb : Has w b n f := by first | exact Go.Jal.St.hasb hst (by repeat (first | exact Go.Jal.Pick.head | apply Go.Jal.Pick.tail)) | exact Go.Jal.St.hasOld hst (by assumption) (by simp) | assumption) (hs : Agg P t m) (hi : i + m ≤ n := by omega) (ha : a.put o.dst (.agg (row m fun j => f (i + j))) = a' := by (conv => lhs; simp only [Go.Jal.put_lit, Go.Jal.put_none, Go.Jal.setL]) <;> rfl)
    (hk : wpList P ops Q rest a' w) : wpList P ops Q (o :: rest) a w := by
  refine BigFrame.wpList_want hw fun K hK => ?_
  unfold Oper.wp execOp
  simp only [ho, hx, Sem.run_bind, run_loadN hb hi hs, Result.andThen_ok, Sem.run_pure]
  exact hK _ _ (ha ▸ hk)

/-- A whole variable. -/
theorem wl_loadAll {t : TypeId} {x : Operand} {b n : Nat} {f : Nat → Value} (ho : o.op = .load t x) (hw : Region.wanted o (yielded ops a.tmps) = true)
    (hx : a.eval x = .pointer (some ⟨b, 0, none⟩)) (hb : Has w b n f := by first | exact Go.Jal.St.hasb hst (by repeat (first | exact Go.Jal.Pick.head | apply Go.Jal.Pick.tail)) | exact Go.Jal.St.hasOld hst (by assumption) (by simp) | assumption) (hs : Agg P t n) (ha : a.put o.dst (.agg (row n f)) = a' := by (conv => lhs; simp only [Go.Jal.put_lit, Go.Jal.put_none, Go.Jal.setL]) <;> rfl)
    (hk : wpList P ops Q rest a' w) : wpList P ops Q (o :: rest) a w :=
  wl_loadN (i := 0) ho hw hx hb hs (by omega) (by rw [show (row n fun j => f (0 + j)) = row n f from row_congr fun j _ => by rw [Nat.zero_add]]; exact ha) hk

theorem wo_store1 {K : Act → World → Prop} {t : TypeId} {x y : Operand} {b i n : Nat} {f : Nat → Value} {v : Value} {T : TypeId} (ho : o.op = .store t x y)
    (hx : a.eval x = .pointer (some ⟨b, i, none⟩)) (hy : a.eval y = v) (hst : St w0 M L w) (hp : Pick L b (blk n f T) L') (hi : i < n) (hs : Scal P t) (hv : v.oneCell' = true)
    (ha : a.put o.dst undef = a' := by (conv => lhs; simp only [Go.Jal.put_lit, Go.Jal.put_none, Go.Jal.setL]) <;> rfl)
    (hk : ∀ w', St w0 M ((b, blk n (upd f i v) T) :: L') w' → K a' w') : o.wp P a w K Q := by
  obtain ⟨d, _, _, hz⟩ := hs
  have hf := hst.front hp
  have hr := run_storeN_row (P := P) (w := w) (i := i) (m := 1) (g := fun _ => v) (t := t) (hf.own (b, blk n f T) (by simp)) (by omega) hz (fun _ _ => hv) v (by rw [cells_one hv, row_one])
  rw [blit_one] at hr
  unfold Oper.wp execOp
  simp only [ho, hx, hy, Sem.run_bind, hr, Result.andThen_ok, Sem.run_pure]
  subst ha
  exact hk _ (hf.setRow _)
theorem wl_store1 {t : TypeId} {x y : Operand} {b i n : Nat} {f : Nat → Value} {v : Value} {T : TypeId} (ho : o.op = .store t x y) (hw : Region.wanted o (yielded ops a.tmps) = true)
    (hx : a.eval x = .pointer (some ⟨b, i, none⟩)) (hy : a.eval y = v := by (conv => lhs; whnf) <;> rfl) (hst : St w0 M L w := by exact hst) (hp : Pick L b (blk n f T) L' := by repeat (first | exact Go.Jal.Pick.head | apply Go.Jal.Pick.tail)) (hi : i < n := by omega) (hs : Scal P t) (hv : v.oneCell' = true := by rfl)
    (ha : a.put o.dst undef = a' := by (conv => lhs; simp only [Go.Jal.put_lit, Go.Jal.put_none, Go.Jal.setL]) <;> rfl)
    (hk : ∀ w', St w0 M ((b, blk n (upd f i v) T) :: L') w' → wpList P ops Q rest a' w') : wpList P ops Q (o :: rest) a w :=
  BigFrame.wpList_want hw fun _ hK => wo_store1 ho hx hy hst hp hi hs hv ha fun w' h => hK _ _ (hk w' h)

theorem wo_storeN {K : Act → World → Prop} {t : TypeId} {x y : Operand} {b i n m : Nat} {f g : Nat → Value} {T : TypeId} (ho : o.op = .store t x y)
    (hx : a.eval x = .pointer (some ⟨b, i, none⟩)) (hy : a.eval y = .agg (row m g)) (hst : St w0 M L w) (hp : Pick L b (blk n f T) L') (hi : i + m ≤ n) (hs : Agg P t m) (hv : ∀ j, j < m → (g j).oneCell' = true)
    (ha : a.put o.dst undef = a' := by (conv => lhs; simp only [Go.Jal.put_lit, Go.Jal.put_none, Go.Jal.setL]) <;> rfl)
    (hk : ∀ w', St w0 M ((b, blk n (blit f i m g) T) :: L') w' → K a' w') : o.wp P a w K Q := by
  obtain ⟨d, _, _, hz⟩ := hs
  have hf := hst.front hp
  have hr := run_storeN_row (P := P) (w := w) (i := i) (m := m) (g := g) (t := t) (hf.own (b, blk n f T) (by simp)) hi hz hv (.agg (row m g)) rfl
  unfold Oper.wp execOp
  simp only [ho, hx, hy, Sem.run_bind, hr, Result.andThen_ok, Sem.run_pure]
  subst ha
  exact hk _ (hf.setRow _)
theorem wl_storeN {t : TypeId} {x y : Operand} {b i n m : Nat} {f g : Nat → Value} {T : TypeId} (ho : o.op = .store t x y) (hw : Region.wanted o (yielded ops a.tmps) = true)
    (hx : a.eval x = .pointer (some ⟨b, i, none⟩)) (hy : a.eval y = .agg (row m g)) (hst : St w0 M L w := by exact hst) (hp : Pick L b (blk n f T) L' := by repeat (first | exact Go.Jal.Pick.head | apply Go.Jal.Pick.tail)) (hi : i + m ≤ n := by omega) (hs : Agg P t m) (hv : ∀ j, j < m → (g j).oneCell' = true := by intro j hj; first | rfl | exact lstF_one rfl j hj | simp [oneC, hj])
    (ha : a.put o.dst undef = a' := by (conv => lhs; simp only [Go.Jal.put_lit, Go.Jal.put_none, Go.Jal.setL]) <;> rfl)
    (hk : ∀ w', St w0 M ((b, blk n (blit f i m g) T) :: L') w' → wpList P ops Q rest a' w') : wpList P ops Q (o :: rest) a w :=
  BigFrame.wpList_want hw fun _ hK => wo_storeN ho hx hy hst hp hi hs hv ha fun w' h => hK _ _ (hk w' h)

theorem blit_all (f : Nat → Value) (n : Nat) (g : Nat → Value) (T : TypeId) : blk n (blit f 0 n g) T = blk n g T :=
  blk_congr fun i hi => by unfold blit; rw [if_pos ⟨by omega, by omega⟩]; rfl

/-- A whole variable stored. -/
theorem wo_storeAll {K : Act → World → Prop} {t : TypeId} {x y : Operand} {b n : Nat} {f g : Nat → Value} {T : TypeId} (ho : o.op = .store t x y)
    (hx : a.eval x = .pointer (some ⟨b, 0, none⟩)) (hy : a.eval y = .agg (row n g)) (hst : St w0 M L w) (hp : Pick L b (blk n f T) L') (hs : Agg P t n) (hv : ∀ j, j < n → (g j).oneCell' = true)
    (ha : a.put o.dst undef = a' := by (conv => lhs; simp only [Go.Jal.put_lit, Go.Jal.put_none, Go.Jal.setL]) <;> rfl)
    (hk : ∀ w', St w0 M ((b, blk n g T) :: L') w' → K a' w') : o.wp P a w K Q :=
  wo_storeN ho hx hy hst hp (by omega) hs hv ha fun w' h => hk w' (by rwa [blit_all] at h)
theorem wl_storeAll {t : TypeId} {x y : Operand} {b n : Nat} {f g : Nat → Value} {T : TypeId} (ho : o.op = .store t x y) (hw : Region.wanted o (yielded ops a.tmps) = true)
    (hx : a.eval x = .pointer (some ⟨b, 0, none⟩)) (hy : a.eval y = .agg (row n g)) (hst : St w0 M L w := by exact hst) (hp : Pick L b (blk n f T) L' := by repeat (first | exact Go.Jal.Pick.head | apply Go.Jal.Pick.tail)) (hs : Agg P t n) (hv : ∀ j, j < n → (g j).oneCell' = true := by intro j hj; first | rfl | exact lstF_one rfl j hj | simp [oneC, hj])
    (ha : a.put o.dst undef = a' := by (conv => lhs; simp only [Go.Jal.put_lit, Go.Jal.put_none, Go.Jal.setL]) <;> rfl)
    (hk : ∀ w', St w0 M ((b, blk n g T) :: L') w' → wpList P ops Q rest a' w') : wpList P ops Q (o :: rest) a w :=
  wl_storeN ho hw hx hy hst hp (by omega) hs hv ha fun w' h => hk w' (by rwa [blit_all] at h)

theorem run_alloc {t : TypeId} {n : Nat} {f : Nat → Value} (hz : Zer P t n f) (w : World) :
    (Instr.alloc t true (.tuple #[])).run P w = .ok (.pointer (some ⟨w.heap.size, 0, none⟩)) (w.alloc (blk n f t)) := by
  obtain ⟨i, z, h1, h2, h3⟩ : ∃ i z, P.info? t = some i ∧ i.zero = some z ∧ z.cells = row n f := by
    unfold Zer at hz
    cases h1 : P.info? t with
    | none => simp [h1] at hz
    | some i =>
      cases h2 : i.zero with
      | none => simp [h1, h2] at hz
      | some z => exact ⟨i, z, rfl, h2, by simpa [h1, h2] using hz⟩
  simp [Instr.alloc, zeroValue, typeInfo, h1, h2, newVar, newRow, newObj, h3, blk, Sem.run]

theorem wo_alloc {K : Act → World → Prop} {t : TypeId} {n : Nat} {f : Nat → Value} (ho : o.op = .alloc t) (hst : St w0 M L w) (hz : Zer P t n f)
    (hk : ∀ b w', w0.heap.size ≤ b → St w0 M ((b, blk n f t) :: L) w' → K (a.put o.dst (.pointer (some ⟨b, 0, none⟩))) w') : o.wp P a w K Q := by
  unfold Oper.wp execOp
  simp only [ho, Sem.run_bind, run_alloc hz, Result.andThen_ok, Sem.run_pure]
  exact hk _ _ hst.size (hst.alloc _)
theorem wl_alloc {t : TypeId} {n : Nat} {f : Nat → Value} (ho : o.op = .alloc t) (hw : Region.wanted o (yielded ops a.tmps) = true) (hst : St w0 M L w) (hz : Zer P t n f)
    (hk : ∀ b w', w0.heap.size ≤ b → St w0 M ((b, blk n f t) :: L) w' → wpList P ops Q rest (a.put o.dst (.pointer (some ⟨b, 0, none⟩))) w') : wpList P ops Q (o :: rest) a w :=
  BigFrame.wpList_want hw fun _ hK => wo_alloc ho hst hz fun b w' h1 h2 => hK _ _ (hk b w' h1 h2)

/-- A variable made of a value. -/
theorem wo_box {K : Act → World → Prop} {t : TypeId} {x : Operand} {n : Nat} {g : Nat → Value} {v : Value} (ho : o.op = .box t x) (hx : a.eval x = v) (hv : v.cells = row n g) (hst : St w0 M L w)
    (hk : ∀ b w', w0.heap.size ≤ b → St w0 M ((b, blk n g t) :: L) w' → K (a.put o.dst (.pointer (some ⟨b, 0, none⟩))) w') : o.wp P a w K Q := by
  have hr : (Instr.box t v).run P w = .ok (.pointer (some ⟨w.heap.size, 0, none⟩)) (w.alloc (blk n g t)) := by
    simp [Instr.box, newVar, newRow, newObj, hv, blk, Sem.run]
  unfold Oper.wp execOp
  simp only [ho, hx, Sem.run_bind, hr, Result.andThen_ok, Sem.run_pure]
  exact hk _ _ hst.size (hst.alloc _)
theorem wl_box {t : TypeId} {x : Operand} {n : Nat} {g : Nat → Value} {v : Value} (ho : o.op = .box t x) (hw : Region.wanted o (yielded ops a.tmps) = true) (hx : a.eval x = v) (hv : v.cells = row n g) (hst : St w0 M L w)
    (hk : ∀ b w', w0.heap.size ≤ b → St w0 M ((b, blk n g t) :: L) w' → wpList P ops Q rest (a.put o.dst (.pointer (some ⟨b, 0, none⟩))) w') : wpList P ops Q (o :: rest) a w :=
  BigFrame.wpList_want hw fun _ hK => wo_box ho hx hv hst fun b w' h1 h2 => hK _ _ (hk b w' h1 h2)

/-- A call of a Go function by its contract. -/
theorem wo_call {K : Act → World → Prop} {f : FuncId} (hf : Plain P f) {xs : List Operand} {ts : Array TypeId} {args : List Value} {R : Value → World → Prop} (ho : o.op = .call { callee := .value (.func f), args := xs.toArray, argTypes := ts })
    (hx : xs.map a.eval = args) (hc : Ret P f args.toArray w R)
    (hk : ∀ v w', R v w' → K (a.put o.dst v) w') : o.wp P a w K Q := by
  obtain ⟨dst, op, ty, pos, after, guard⟩ := o
  simp only at ho
  subst ho
  unfold Oper.wp
  rw [execOp_call_go]
  simp only [List.map_toArray, hx, Array.append_empty, Array.empty_append, run_callFunc hf, Oper.upon_enter]
  refine Calls.mono hc ?_
  rintro e w' ⟨v, rfl, hv⟩
  exact hk v w' hv
theorem wl_call {f : FuncId} (hf : Plain P f) {xs : List Operand} {ts : Array TypeId} {args : List Value} {R : Value → World → Prop} (ho : o.op = .call { callee := .value (.func f), args := xs.toArray, argTypes := ts })
    (hw : Region.wanted o (yielded ops a.tmps) = true) (hx : xs.map a.eval = args) (hc : Ret P f args.toArray w R)
    (hk : ∀ v w', R v w' → wpList P ops Q rest (a.put o.dst v) w') : wpList P ops Q (o :: rest) a w :=
  BigFrame.wpList_want hw fun _ hK => wo_call hf ho hx hc fun v w' h => hK _ _ (hk v w' h)
end
end
end Go.Jal
