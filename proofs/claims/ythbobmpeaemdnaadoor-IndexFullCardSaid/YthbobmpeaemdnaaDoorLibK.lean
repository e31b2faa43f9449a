/- Slicing a byte slice: b[i:j], with one bound or both. -/
import Derived.Test.YthbobmpeaemdnaaDoorLibI
namespace Go.Jal
open Go.RowKit
section
variable {P : Program} {w w0 : World} {M : List Nat} {L : List (Nat × Obj)}

/-- what 'v[lo:hi]' gives: one value, in any world, and what bytes v has the part of them it has -/
structure Cut (P : Program) (t : TypeId) (v : Value) (lo hi : Option Value) (i n : Nat) (v' : Value) : Prop where
  run : ∀ w, (Instr.sliceAt t v lo hi none).run P w = .ok v' w
  bs : ∀ w l, Bs w v l → i + n ≤ l.length → Bs w v' ((l.drop i).take n)
  shape : ∃ ad c, v' = .slice ad n c
theorem cut_any {t e : TypeId} (hu : P.underlying t = some (.slice e)) (hz : (P.info? e).map (·.size) = some 1) {v : Value} {l : List Nat} (h : Bs w v l) {i j : Nat} {lo hi : Option Value} {k1 k2 : IntKind}
    (hlo : lo = none ∧ i = 0 ∨ lo = some (.int k1 (i : Int))) (hhi : hi = none ∧ j = l.length ∨ hi = some (.int k2 (j : Int))) (hij : i ≤ j) (hj : j ≤ l.length) : ∃ v', Cut P t v lo hi i (j - i) v' := by
  obtain ⟨ao, cap, rfl, h1, h2, h3, h4, h5⟩ := h
  cases q : P.info? e with
  | none => simp [q] at hz
  | some inf =>
    have hs : inf.size = 1 := by simpa [q] using hz
    refine ⟨.slice (if cap = i then ao else ao.map (·.add (i * 1))) (j - i) (cap - i), ⟨fun w => ?_, fun w l' hb hl => ?_, ⟨_, _, rfl⟩⟩⟩
    · have c1 : (0 : Int) ≤ i ∧ (i : Int) ≤ j := ⟨by omega, by omega⟩
      have c2 : (0 : Int) ≤ j ∧ (j : Int) ≤ cap := ⟨by omega, by omega⟩
      rcases hlo with ⟨rfl, rfl⟩ | rfl <;> rcases hhi with ⟨rfl, rfl⟩ | rfl <;>
        simp [Instr.sliceAt, Instr.slice, run_underlying hu, Instr.sliceBounds, Instr.sliceBound, asIntOf, c1, c2, sizeOf, typeInfo, q, hs, hij, Nat.le_trans hj h1]
    · obtain ⟨ao', cap', e, g1, g2, g3, g4, g5⟩ := hb
      simp only [Value.slice.injEq] at e
      obtain ⟨rfl, hl', rfl⟩ := e
      refine ⟨if cap = i then ao else ao.map (·.add (i * 1)), cap - i, ?_, ?_, by omega, fun x hx => g3 x (List.mem_of_mem_drop (List.mem_of_mem_take hx)), fun hn => ?_, fun hne => ?_⟩
      · congr 1
        simp only [List.length_take, List.length_drop]; omega
      · simp only [List.length_take, List.length_drop]; omega
      · cases ao with
        | none => have := g4 rfl; omega
        | some a => split at hn <;> cases hn
      · have hpos : 0 < j - i := by
          rcases Nat.eq_zero_or_pos (j - i) with e | e
          · rw [e] at hne; simp at hne
          · exact e
        obtain ⟨b, off, n, f, rfl, k1, k2, k3⟩ := g5 (by intro e; subst e; simp at hl; omega)
        refine ⟨b, off + i, n, f, ?_, k1, ?_, fun x hx => ?_⟩
        · rw [if_neg (by omega)]
          by_cases hi : i = 0
          · subst hi; simp [Addr.add]
          · simp [Addr.add, hi]
        · simp only [List.length_take, List.length_drop]; omega
        · simp only [List.length_take, List.length_drop] at hx
          rw [Nat.add_assoc, k3 (i + x) (by omega)]
          unfold bF
          congr 2
          simp only [List.getD_eq_getElem?_getD]
          rw [List.getElem?_take_of_lt (by omega), List.getElem?_drop]
theorem wl_cut {ops : Array Oper} {Q : Exit → Act → World → Prop} {rest : List Oper} {o : Oper} {a a' : Act} {t : TypeId} {i n : Nat} {x : Operand} {low high : Option Operand} {v v' : Value} {lo hi : Option Value} (hc : Cut P t v lo hi i n v') (ho : o.op = .slice t x low high none) (hw : Region.wanted o (yielded ops a.tmps) = true)
    (hx : a.eval x = v) (hlo : low.map a.eval = lo) (hhi : high.map a.eval = hi) (ha : a.put o.dst v' = a' := by (conv => lhs; simp only [Go.Jal.put_lit, Go.Jal.put_none, Go.Jal.setL]) <;> rfl) (hk : wpList P ops Q rest a' w) : wpList P ops Q (o :: rest) a w := by
  refine BigFrame.wpList_want hw fun K hK => ?_
  unfold Oper.wp execOp
  subst hlo hhi
  simp only [ho, Sem.run_bind, hx, Option.map_none, hc.run, Result.andThen_ok, Sem.run_pure]
  exact hK _ _ (ha ▸ hk)
theorem tk_cut {lops : List Oper} {S : World → Prop} {N : Act → Prop} {i0 : Nat} {is : List Nat} {o : Oper} {a a' : Act} {t : TypeId} {i n : Nat} {x : Operand} {low high : Option Operand} {v v' : Value} {lo hi : Option Value} (hc : Cut P t v lo hi i n v') (ho : nth lops i0 = some o) (hp : o.op = .slice t x low high none) (hw : Region.wanted o (yielded lops.toArray a.tmps) = true)
    (hx : a.eval x = v) (hlo : low.map a.eval = lo) (hhi : high.map a.eval = hi) (ha : a.put o.dst v' = a' := by (conv => lhs; simp only [Go.Jal.put_lit, Go.Jal.put_none, Go.Jal.setL]) <;> rfl) (hk : wpTake P lops.toArray S N is a') : wpTake P lops.toArray S N (i0 :: is) a :=
  tk_val ho hw (fun w _ => by
    subst hlo hhi
    unfold execOp
    simp only [hp, Sem.run_bind, hx, Option.map_none, hc.run, Result.andThen_ok, Sem.run_pure]) ha hk
/-- comparing integers: what is known of it -/
def cmpI : BinOp → Int → Int → Bool
  | .eql, a, b => decide (a = b)
  | .neq, a, b => decide (a ≠ b)
  | .lss, a, b => decide (a < b)
  | .leq, a, b => decide (a ≤ b)
  | .gtr, a, b => decide (b < a)
  | _, a, b => decide (b ≤ a)
def isCmp : BinOp → Bool
  | .eql | .neq | .lss | .leq | .gtr | .geq => true
  | _ => false
theorem exec_cmp {b : BinOp} (hb : isCmp b = true) {t : TypeId} {x y : Operand} {k : IntKind} {p q : Int} (w : World) :
    (do eqGuard b t x y (.int k p) (.int k q); binOp b t (.int k p) (.int k q) : Sem Value).run P w = .ok (.bool (cmpI b p q)) w := by
  cases b <;> simp [isCmp] at hb <;> simp [eqGuard, binOp, Op.intCmp, cmpI] <;> rfl
theorem wl_cmp {ops : Array Oper} {Q : Exit → Act → World → Prop} {rest : List Oper} {o : Oper} {a a' : Act} {b : BinOp} {t t' : TypeId} {x y : Operand} {k : IntKind} {p q : Int} {r : Bool} (hr : cmpI b p q = r) (ho : o.op = .binOp b t x y t') (hb : isCmp b = true) (hw : Region.wanted o (yielded ops a.tmps) = true)
    (hx : a.eval x = .int k p) (hy : a.eval y = .int k q) (ha : a.put o.dst (.bool r) = a' := by (conv => lhs; simp only [Go.Jal.put_lit, Go.Jal.put_none, Go.Jal.setL]) <;> rfl) (hk : wpList P ops Q rest a' w) : wpList P ops Q (o :: rest) a w := by
  refine BigFrame.wpList_want hw fun K hK => ?_
  have hq := exec_cmp (P := P) hb (t := t) (x := x) (y := y) (k := k) (p := p) (q := q) w
  unfold Oper.wp execOp
  simp only [Sem.run_bind] at hq
  simp only [ho, hx, hy, Sem.run_bind, hq, Result.andThen_ok, Sem.run_pure, hr]
  exact hK _ _ (ha ▸ hk)
theorem tk_cmp {lops : List Oper} {S : World → Prop} {N : Act → Prop} {i0 : Nat} {is : List Nat} {o : Oper} {a a' : Act} {b : BinOp} {t t' : TypeId} {x y : Operand} {k : IntKind} {p q : Int} {r : Bool} (hr : cmpI b p q = r) (ho : nth lops i0 = some o) (hp : o.op = .binOp b t x y t') (hb : isCmp b = true) (hw : Region.wanted o (yielded lops.toArray a.tmps) = true)
    (hx : a.eval x = .int k p) (hy : a.eval y = .int k q) (ha : a.put o.dst (.bool r) = a' := by (conv => lhs; simp only [Go.Jal.put_lit, Go.Jal.put_none, Go.Jal.setL]) <;> rfl) (hk : wpTake P lops.toArray S N is a') : wpTake P lops.toArray S N (i0 :: is) a :=
  tk_val ho hw (fun w _ => by
    have hq := exec_cmp (P := P) hb (t := t) (x := x) (y := y) (k := k) (p := p) (q := q) w
    unfold execOp
    simp only [Sem.run_bind] at hq
    simp only [hp, hx, hy, Sem.run_bind, hq, Result.andThen_ok, Sem.run_pure, hr]) ha hk
end
end Go.Jal
