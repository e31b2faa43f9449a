/- '==' of arrays of numbers. -/
import Derived.Test.YthbobmpeaemdnaaDoorHBase
namespace Go.Jal
open Go.RowKit
section
variable {P : Program}
def cellK (x : Nat) : Value := .int .u64 (x : Int)
theorem all_range_eqN : ∀ (xs ys : List Nat), xs.length = ys.length → ((List.range xs.length).all fun i => xs.getD i 0 == ys.getD i 0) = (xs == ys)
  | [], [], _ => rfl
  | x :: xs, y :: ys, h => by
    have ih := all_range_eqN xs ys (by simpa using h)
    rw [List.length_cons, List.range_succ_eq_map, List.all_cons, List.all_map]
    simp only [List.getD_cons_zero, Function.comp_def, List.getD_cons_succ, ih]
    simp [List.cons_beq_cons]
  | [], _ :: _, h => by simp at h
  | _ :: _, [], h => by simp at h
theorem run_equalIn_nums (w : World) (d : Nat) (t e : TypeId) (n : Nat) (ht : P.underlying t = some (.array n e)) (he : P.underlying e = some (.int .u64)) (hsz : ∀ w, (sizeOf e).run P w = .ok 1 w)
    (xs ys : List Nat) (hx : xs.length = n) (hy : ys.length = n) :
    (Op.equalIn (d + 2) t (.agg (xs.map cellK).toArray) (.agg (ys.map cellK).toArray)).run P w = .ok (xs == ys) w := by
  rw [← all_range_eqN xs ys (hx.trans hy.symm), hx, List.range_eq_range', Op.equalIn]
  simp only [Sem.run_bind, run_underlying ht, Result.andThen_ok, hsz, Std.Legacy.Range.forIn_eq_forIn_range', Std.Legacy.Range.size, Nat.sub_zero, Nat.add_sub_cancel, Nat.div_one]
  have hl : ∀ i ∈ List.range' 0 n 1, i < n := fun i hi => by simpa using (List.mem_range'_1.1 hi).2
  generalize List.range' 0 n 1 = l at hl ⊢
  induction l with
  | nil => simp
  | cons i l ih =>
    have hi : i < n := hl i (by simp)
    have px : (part e (xs.map cellK).toArray (i * 1)).run P w = .ok (cellK (xs.getD i 0)) w := by
      simp [part, isAgg, run_underlying he, List.getD, List.getElem?_eq_getElem (show i < xs.length by omega)]
    have py : (part e (ys.map cellK).toArray (i * 1)).run P w = .ok (cellK (ys.getD i 0)) w := by
      simp [part, isAgg, run_underlying he, List.getD, List.getElem?_eq_getElem (show i < ys.length by omega)]
    have pe : (Op.equalIn (d + 1) e (cellK (xs.getD i 0)) (cellK (ys.getD i 0))).run P w = .ok (xs.getD i 0 == ys.getD i 0) w := by
      rw [cellK, cellK, run_equalIn_int w d e .u64 .u64 _ _ he]
      congr 1
      rw [Bool.eq_iff_iff]
      simp
      omega
    simp only [List.forIn_cons, Sem.run_bind, px, py, pe, Result.andThen_ok, List.all_cons]
    cases hb : (xs.getD i 0 == ys.getD i 0)
    · simp
    · simp only [Bool.not_true, Bool.false_eq_true, if_false, Sem.run_pure, Result.andThen_ok, Bool.true_and]
      exact ih fun j hj => hl j (by simp [hj])
theorem exec_neB {t n e : Nat} {x y : Operand} {l l' : List Nat} (he : EqB P t n e) (hl : l.length = n) (hl' : l'.length = n) (h : ∀ z ∈ l, z < 256) (h' : ∀ z ∈ l', z < 256) (w : World) :
    (do eqGuard .neq t x y (.agg (row n (bF l))) (.agg (row n (bF l'))); binOp .neq t (.agg (row n (bF l))) (.agg (row n (bF l'))) : Sem Value).run P w = .ok (.bool (decide (l ≠ l'))) w := by
  have hsz : ∀ w, (sizeOf e).run P w = .ok 1 w := fun w => by
    cases q : P.info? e with
    | none => have := he.siz; simp [q] at this
    | some i => have := he.siz; simp [q] at this; simp [sizeOf, typeInfo, q, this]
  have hq := run_equalIn_bytes (P := P) w 9998 t e n he.und he.elt hsz (toU l) (toU l') (by rw [toU_length, hl]) (by rw [toU_length, hl'])
  simp only [Sem.run_bind, run_eqGuard_agg w .neq t x y _ _ he.grd, Result.andThen_ok, run_neq_struct]
  rw [row_cells hl h, row_cells hl' h', hq, toU_inj h h']
  simp only [Result.andThen_ok]
  congr 2
  by_cases c : l = l' <;> simp [c]
theorem tk_neB {lops : List Oper} {S : World → Prop} {N : Act → Prop} {i : Nat} {is : List Nat} {o : Oper} {a a' : Act} {t n e t' : Nat} {x y : Operand} {l l' : List Nat} {r : Bool} (ho : nth lops i = some o) (hp : o.op = .binOp .neq t x y t') (hw : Region.wanted o (yielded lops.toArray a.tmps) = true) (he : EqB P t n e) (hx : a.eval x = .agg (row n (bF l))) (hy : a.eval y = .agg (row n (bF l')))
    (hl : l.length = n) (hl' : l'.length = n) (h : ∀ z ∈ l, z < 256) (h' : ∀ z ∈ l', z < 256) (hr : decide (l ≠ l') = r) (ha : a.put o.dst (.bool r) = a' := by (conv => lhs; simp only [Go.Jal.put_lit, Go.Jal.put_none, Go.Jal.setL]) <;> rfl) (hk : wpTake P lops.toArray S N is a') : wpTake P lops.toArray S N (i :: is) a :=
  tk_val ho hw (fun w _ => by
    have hq := exec_neB (x := x) (y := y) he hl hl' h h' w
    unfold execOp
    simp only [Sem.run_bind] at hq
    simp only [hp, hx, hy, Sem.run_bind, hq, Result.andThen_ok, Sem.run_pure, hr]) ha hk
theorem wl_neB {ops : Array Oper} {Q : Exit → Act → World → Prop} {rest : List Oper} {o : Oper} {a a' : Act} {w : World} {t n e t' : Nat} {x y : Operand} {l l' : List Nat} {r : Bool} (ho : o.op = .binOp .neq t x y t') (hw : Region.wanted o (yielded ops a.tmps) = true) (he : EqB P t n e) (hx : a.eval x = .agg (row n (bF l))) (hy : a.eval y = .agg (row n (bF l')))
    (hl : l.length = n) (hl' : l'.length = n) (h : ∀ z ∈ l, z < 256) (h' : ∀ z ∈ l', z < 256) (hr : decide (l ≠ l') = r) (ha : a.put o.dst (.bool r) = a' := by (conv => lhs; simp only [Go.Jal.put_lit, Go.Jal.put_none, Go.Jal.setL]) <;> rfl) (hk : wpList P ops Q rest a' w) : wpList P ops Q (o :: rest) a w := by
  refine BigFrame.wpList_want hw fun K hK => ?_
  have hq := exec_neB (x := x) (y := y) he hl hl' h h' w
  unfold Oper.wp execOp
  simp only [Sem.run_bind] at hq
  simp only [ho, hx, hy, Sem.run_bind, hq, Result.andThen_ok, Sem.run_pure, hr]
  exact hK _ _ (ha ▸ hk)
structure EqN (P : Program) (t n e : Nat) : Prop where
  und : P.underlying t = some (.array n e)
  elt : P.underlying e = some (.int .u64)
  siz : (P.info? e).map (·.size) = some 1
  grd : P.eqGuardType P.depth t = false
theorem row_cellsK {l : List Nat} {n : Nat} (hn : l.length = n) : row n (kF l) = (l.map cellK).toArray := by
  subst hn
  unfold row
  congr 1
  apply List.ext_getElem
  · simp
  · intro i h1 h2
    have hi : i < l.length := by simpa using h1
    simp [kF, cellK, List.getD_eq_getElem?_getD, hi]
variable {ops : Array Oper} {Q : Exit → Act → World → Prop} {rest : List Oper} {o : Oper} {a a' : Act} {w : World}
theorem wl_eqN {t n e t' : Nat} {x y : Operand} {l l' : List Nat} {r : Bool} (ho : o.op = .binOp .eql t x y t') (hw : Region.wanted o (yielded ops a.tmps) = true) (he : EqN P t n e) (hx : a.eval x = .agg (row n (kF l))) (hy : a.eval y = .agg (row n (kF l')))
    (hl : l.length = n) (hl' : l'.length = n) (hr : decide (l = l') = r) (ha : a.put o.dst (.bool r) = a' := by (conv => lhs; simp only [Go.Jal.put_lit, Go.Jal.put_none, Go.Jal.setL]) <;> rfl) (hk : wpList P ops Q rest a' w) : wpList P ops Q (o :: rest) a w := by
  refine BigFrame.wpList_want hw fun K hK => ?_
  have hsz : ∀ w, (sizeOf e).run P w = .ok 1 w := fun w => by
    cases q : P.info? e with
    | none => have := he.siz; simp [q] at this
    | some i => have := he.siz; simp [q] at this; simp [sizeOf, typeInfo, q, this]
  have hq : (do eqGuard .eql t x y (.agg (row n (kF l))) (.agg (row n (kF l'))); binOp .eql t (.agg (row n (kF l))) (.agg (row n (kF l'))) : Sem Value).run P w = .ok (.bool (decide (l = l'))) w := by
    have hq := run_equalIn_nums (P := P) w 9998 t e n he.und he.elt hsz l l' hl hl'
    simp only [Sem.run_bind, run_eqGuard_agg w .eql t x y _ _ he.grd, Result.andThen_ok, run_eql_struct]
    rw [row_cellsK hl, row_cellsK hl', hq]
    simp only [Result.andThen_ok]
    congr 2
    rw [Bool.eq_iff_iff]; simp
  unfold Oper.wp execOp
  simp only [Sem.run_bind] at hq
  simp only [ho, hx, hy, Sem.run_bind, hq, Result.andThen_ok, Sem.run_pure, hr]
  exact hK _ _ (ha ▸ hk)
end
end Go.Jal
namespace Go.Proofs.YthbobmpeaemdnaaDoor
open Go.RowKit Go.Jal
theorem eqn32 : EqN Tryd.prog 32 6 26 := ⟨Tryd.underlying32, Tryd.underlying26, sc26.size, Tryd.eqGuardType32⟩
end Go.Proofs.YthbobmpeaemdnaaDoor
