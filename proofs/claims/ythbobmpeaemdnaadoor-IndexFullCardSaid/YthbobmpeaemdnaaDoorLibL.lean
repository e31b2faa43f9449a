/- Fields, elements of slices and arrays, parts of blocks. -/
import Derived.Test.YthbobmpeaemdnaaDoorLibK
import Derived.Test.YthbobmpeaemdnaaDoorHdr
import Derived.Lib.BytesEntry
import Derived.Lib.Bytealg
namespace Go.Jal
open Go.RowKit
section
variable {P : Program} {ops : Array Oper} {lops : List Oper} {Q : Exit → Act → World → Prop} {rest : List Oper} {o : Oper} {a a' : Act} {w w0 : World} {M : List Nat} {L : List (Nat × Obj)}

structure Fld (P : Program) (s f off : Nat) : Prop where
  get : ∃ fields fd, P.underlying s = some (.struct fields) ∧ fields[f]? = some fd ∧ fd.offset = off ∧ ∃ z, (P.info? fd.type).map (·.size) = some (z + 1)
theorem run_fld {s f off b i : Nat} (h : Fld P s f off) (w : World) : (Instr.fieldAt s (.pointer (some ⟨b, i, none⟩)) f).run P w = .ok (.pointer (some ⟨b, i + off, none⟩)) w := by
  obtain ⟨fields, fd, h1, h2, rfl, z, h3⟩ := h.get
  cases q : P.info? fd.type with
  | none => simp [q] at h3
  | some inf =>
    have hs : inf.size = z + 1 := by simpa [q] using h3
    have hadd : (⟨b, i, none⟩ : Addr).add fd.offset = ⟨b, i + fd.offset, none⟩ := by
      by_cases c : fd.offset = 0
      · simp [Addr.add, c]
      · simp [Addr.add, c]
    simp [Instr.fieldAt, run_underlying h1, h2, Instr.sureAddr, fieldPlace, sizeOf, typeInfo, q, hs, hadd]
theorem wl_fld {s f off b i r : Nat} {x : Operand} (h : Fld P s f off) (hr : i + off = r) (ho : o.op = .fieldAddr s x f) (hw : Region.wanted o (yielded ops a.tmps) = true) (hx : a.eval x = .pointer (some ⟨b, i, none⟩))
    (ha : a.put o.dst (.pointer (some ⟨b, r, none⟩)) = a' := by (conv => lhs; simp only [Go.Jal.put_lit, Go.Jal.put_none, Go.Jal.setL]) <;> rfl) (hk : wpList P ops Q rest a' w) : wpList P ops Q (o :: rest) a w := by
  refine BigFrame.wpList_want hw fun K hK => ?_
  subst hr
  unfold Oper.wp execOp
  simp only [ho, hx, Sem.run_bind, run_fld h, Result.andThen_ok, Sem.run_pure]
  exact hK _ _ (ha ▸ hk)
theorem tk_fld {S : World → Prop} {N : Act → Prop} {i0 : Nat} {is : List Nat} {s f off b i r : Nat} {x : Operand} (h : Fld P s f off) (hr : i + off = r) (ho : nth lops i0 = some o) (hp : o.op = .fieldAddr s x f) (hw : Region.wanted o (yielded lops.toArray a.tmps) = true)
    (hx : a.eval x = .pointer (some ⟨b, i, none⟩)) (ha : a.put o.dst (.pointer (some ⟨b, r, none⟩)) = a' := by (conv => lhs; simp only [Go.Jal.put_lit, Go.Jal.put_none, Go.Jal.setL]) <;> rfl) (hk : wpTake P lops.toArray S N is a') : wpTake P lops.toArray S N (i0 :: is) a :=
  tk_val ho hw (fun w _ => by
    subst hr
    unfold execOp
    simp only [hp, hx, Sem.run_bind, run_fld h, Result.andThen_ok, Sem.run_pure]) ha hk
/-- the zero value of an array type -/
theorem run_build0 {t n e z : Nat} {f g : Nat → Value} (hu : P.underlying t = some (.array n e)) (hz : Zer P t n f) (hs : (P.info? e).map (·.size) = some z) (hg : ∀ j, j < n → f j = g j) (w : World) : (Instr.build t #[]).run P w = .ok (.agg (row n g)) w := by
  obtain ⟨zv, h1, h2⟩ := run_zeroValue hz w
  have hsz : (sizeOf e).run P w = .ok z w := by
    cases q : P.info? e with
    | none => simp [q] at hs
    | some i => simp [q] at hs; simp [sizeOf, typeInfo, q, hs]
  rw [← row_congr hg]
  simp [Instr.build, run_underlying hu, h1, h2, hsz, Instr.fill]
theorem wl_build0 {t n e z : Nat} {f g : Nat → Value} (hu : P.underlying t = some (.array n e)) (hz : Zer P t n f) (hs : (P.info? e).map (·.size) = some z) (hg : ∀ j, j < n → f j = g j) (ho : o.op = .build t #[]) (hw : Region.wanted o (yielded ops a.tmps) = true)
    (ha : a.put o.dst (.agg (row n g)) = a' := by (conv => lhs; simp only [Go.Jal.put_lit, Go.Jal.put_none, Go.Jal.setL]) <;> rfl) (hk : wpList P ops Q rest a' w) : wpList P ops Q (o :: rest) a w := by
  refine BigFrame.wpList_want hw fun K hK => ?_
  unfold Oper.wp execOp
  have hq := run_build0 hu hz hs hg w
  simp only [ho, Sem.run_bind, List.map_toArray, List.map_nil] at *
  simp only [hq, Result.andThen_ok, Sem.run_pure]
  exact hK _ _ (ha ▸ hk)
theorem tk_build0 {S : World → Prop} {N : Act → Prop} {i0 : Nat} {is : List Nat} {t n e z : Nat} {f g : Nat → Value} (hu : P.underlying t = some (.array n e)) (hz : Zer P t n f) (hs : (P.info? e).map (·.size) = some z) (hg : ∀ j, j < n → f j = g j) (ho : nth lops i0 = some o) (hp : o.op = .build t #[]) (hw : Region.wanted o (yielded lops.toArray a.tmps) = true)
    (ha : a.put o.dst (.agg (row n g)) = a' := by (conv => lhs; simp only [Go.Jal.put_lit, Go.Jal.put_none, Go.Jal.setL]) <;> rfl) (hk : wpTake P lops.toArray S N is a') : wpTake P lops.toArray S N (i0 :: is) a :=
  tk_val ho hw (fun w _ => by
    unfold execOp
    have hq := run_build0 hu hz hs hg w
    simp only [hp, Sem.run_bind, List.map_toArray, List.map_nil] at *
    simp only [hq, Result.andThen_ok, Sem.run_pure]) ha hk
theorem zeros_b (n : Nat) : ∀ j, j < n → Value.int IntKind.u8 0 = bF (zeros n) j := fun j hj => by
  unfold bF zeros; simp [List.getD_eq_getElem?_getD, hj]
/-- sums that stay within their kind -/
def ariI : BinOp → Int → Int → Int
  | .add, a, b => a + b
  | .sub, a, b => a - b
  | _, a, b => a * b
def isAri : BinOp → Bool
  | .add | .sub | .mul => true
  | _ => false
def inK : IntKind → Int → Prop
  | .i64, r => -9223372036854775808 ≤ r ∧ r ≤ 9223372036854775807
  | .u64, r => 0 ≤ r ∧ r ≤ 18446744073709551615
  | .u8, r => 0 ≤ r ∧ r ≤ 255
  | _, _ => False
theorem wrap_in {k : IntKind} {r : Int} (h : inK k r) : k.wrap r = r := by
  cases k <;> simp only [inK] at h <;> simp [IntKind.wrap, IntKind.bits, IntKind.signed] <;> (try split) <;> omega
theorem exec_ari {b : BinOp} (hb : isAri b = true) {t : TypeId} {x y : Operand} {k : IntKind} {p q r : Int} (hr : ariI b p q = r) (hk : inK k r) (w : World) :
    (do eqGuard b t x y (.int k p) (.int k q); binOp b t (.int k p) (.int k q) : Sem Value).run P w = .ok (.int k r) w := by
  subst hr
  have hw := wrap_in hk
  cases b <;> simp [isAri] at hb <;> simp only [ariI] at hw <;> simp [eqGuard, binOp, Op.intArith, ariI, hw]
theorem wl_ari {b : BinOp} {t t' : TypeId} {x y : Operand} {k : IntKind} {p q r : Int} (hr : ariI b p q = r) (hk' : inK k r) (ho : o.op = .binOp b t x y t') (hb : isAri b = true) (hw : Region.wanted o (yielded ops a.tmps) = true)
    (hx : a.eval x = .int k p) (hy : a.eval y = .int k q) (ha : a.put o.dst (.int k r) = a' := by (conv => lhs; simp only [Go.Jal.put_lit, Go.Jal.put_none, Go.Jal.setL]) <;> rfl) (hk : wpList P ops Q rest a' w) : wpList P ops Q (o :: rest) a w := by
  refine BigFrame.wpList_want hw fun K hK => ?_
  have hq := exec_ari (P := P) hb (t := t) (x := x) (y := y) hr hk' w
  unfold Oper.wp execOp
  simp only [Sem.run_bind] at hq
  simp only [ho, hx, hy, Sem.run_bind, hq, Result.andThen_ok, Sem.run_pure]
  exact hK _ _ (ha ▸ hk)
theorem tk_ari {S : World → Prop} {N : Act → Prop} {i0 : Nat} {is : List Nat} {b : BinOp} {t t' : TypeId} {x y : Operand} {k : IntKind} {p q r : Int} (hr : ariI b p q = r) (hk' : inK k r) (ho : nth lops i0 = some o) (hp : o.op = .binOp b t x y t') (hb : isAri b = true) (hw : Region.wanted o (yielded lops.toArray a.tmps) = true)
    (hx : a.eval x = .int k p) (hy : a.eval y = .int k q) (ha : a.put o.dst (.int k r) = a' := by (conv => lhs; simp only [Go.Jal.put_lit, Go.Jal.put_none, Go.Jal.setL]) <;> rfl) (hk : wpTake P lops.toArray S N is a') : wpTake P lops.toArray S N (i0 :: is) a :=
  tk_val ho hw (fun w _ => by
    have hq := exec_ari (P := P) hb (t := t) (x := x) (y := y) hr hk' w
    unfold execOp
    simp only [Sem.run_bind] at hq
    simp only [hp, hx, hy, Sem.run_bind, hq, Result.andThen_ok, Sem.run_pure]) ha hk
theorem wl_ariW {b : BinOp} {t t' : TypeId} {x y : Operand} {k : IntKind} {p q r : Int} (hr : k.wrap (ariI b p q) = r) (ho : o.op = .binOp b t x y t') (hb : isAri b = true) (hw : Region.wanted o (yielded ops a.tmps) = true)
    (hx : a.eval x = .int k p) (hy : a.eval y = .int k q) (ha : a.put o.dst (.int k r) = a' := by (conv => lhs; simp only [Go.Jal.put_lit, Go.Jal.put_none, Go.Jal.setL]) <;> rfl) (hk : wpList P ops Q rest a' w) : wpList P ops Q (o :: rest) a w := by
  refine BigFrame.wpList_want hw fun K hK => ?_
  have hq : (do eqGuard b t x y (.int k p) (.int k q); binOp b t (.int k p) (.int k q) : Sem Value).run P w = .ok (.int k r) w := by
    subst hr
    cases b <;> simp [isAri] at hb <;> simp [eqGuard, binOp, Op.intArith, ariI]
  unfold Oper.wp execOp
  simp only [Sem.run_bind] at hq
  simp only [ho, hx, hy, Sem.run_bind, hq, Result.andThen_ok, Sem.run_pure]
  exact hK _ _ (ha ▸ hk)
theorem wrap_i64_in (n : Int) : -9223372036854775808 ≤ IntKind.i64.wrap n ∧ IntKind.i64.wrap n ≤ 9223372036854775807 := by
  simp only [IntKind.wrap, IntKind.bits, IntKind.signed, Bool.true_and, ge_iff_le, decide_eq_true_eq]
  split <;> omega
theorem wrap_i64_lo {n : Int} (h1 : -9223372036854775808 - 64 ≤ n) (h2 : n < -9223372036854775808) : IntKind.i64.wrap n = n + 18446744073709551616 := by
  simp only [IntKind.wrap, IntKind.bits, IntKind.signed, Bool.true_and, ge_iff_le, decide_eq_true_eq]
  split <;> omega
/-- x[i] of a slice -/
theorem run_idx {t e n c b off i z : Nat} {k : IntKind} (hu : P.underlying t = some (.slice e)) (hz : (P.info? e).map (·.size) = some z) (hi : i < n) (w : World) :
    (Instr.indexAt t (.slice (some ⟨b, off, none⟩) n c) (.int k (i : Int))).run P w = .ok (.pointer (some ⟨b, off + z * i, none⟩)) w := by
  cases q : P.info? e with
  | none => simp [q] at hz
  | some inf =>
    have hs : inf.size = z := by simpa [q] using hz
    have c1 : (0 : Int) ≤ i ∧ (i : Int) < n := ⟨by omega, by omega⟩
    have hadd : (⟨b, off, none⟩ : Addr).add (i * z) = ⟨b, off + z * i, none⟩ := by
      by_cases c : i * z = 0
      · simp [Addr.add, c, Nat.mul_comm z i]
      · simp [Addr.add, c, Nat.mul_comm z i]
    simp [Instr.indexAt, run_underlying hu, asIntOf, c1, sizeOf, typeInfo, q, hs, hadd, hi]
theorem wl_idx {t e n c b off i z : Nat} {k : IntKind} {x y : Operand} (hu : P.underlying t = some (.slice e)) (hz : (P.info? e).map (·.size) = some z) (hi : i < n) (ho : o.op = .indexAddr t x y) (hw : Region.wanted o (yielded ops a.tmps) = true)
    (hx : a.eval x = .slice (some ⟨b, off, none⟩) n c) (hy : a.eval y = .int k (i : Int)) (ha : a.put o.dst (.pointer (some ⟨b, off + z * i, none⟩)) = a' := by (conv => lhs; simp only [Go.Jal.put_lit, Go.Jal.put_none, Go.Jal.setL]) <;> rfl) (hk : wpList P ops Q rest a' w) : wpList P ops Q (o :: rest) a w := by
  refine BigFrame.wpList_want hw fun K hK => ?_
  unfold Oper.wp execOp
  simp only [ho, hx, hy, Sem.run_bind, run_idx hu hz hi, Result.andThen_ok, Sem.run_pure]
  exact hK _ _ (ha ▸ hk)
theorem tk_idx {S : World → Prop} {N : Act → Prop} {i0 : Nat} {is : List Nat} {t e n c b off i z : Nat} {k : IntKind} {x y : Operand} (hu : P.underlying t = some (.slice e)) (hz : (P.info? e).map (·.size) = some z) (hi : i < n) (ho : nth lops i0 = some o) (hp : o.op = .indexAddr t x y) (hw : Region.wanted o (yielded lops.toArray a.tmps) = true)
    (hx : a.eval x = .slice (some ⟨b, off, none⟩) n c) (hy : a.eval y = .int k (i : Int)) (ha : a.put o.dst (.pointer (some ⟨b, off + z * i, none⟩)) = a' := by (conv => lhs; simp only [Go.Jal.put_lit, Go.Jal.put_none, Go.Jal.setL]) <;> rfl) (hk : wpTake P lops.toArray S N is a') : wpTake P lops.toArray S N (i0 :: is) a :=
  tk_val ho hw (fun w _ => by
    unfold execOp
    simp only [hp, hx, hy, Sem.run_bind, run_idx hu hz hi, Result.andThen_ok, Sem.run_pure]) ha hk
/-- x[i] of an array of more than one -/
theorem run_idxA {t e n b off i z : Nat} {k : IntKind} (hu : P.underlying t = some (.array n e)) (hz : (P.info? e).map (·.size) = some z) (hi : i < n) (w : World) :
    (Instr.indexAt t (.pointer (some ⟨b, off, none⟩)) (.int k (i : Int))).run P w = .ok (.pointer (some ⟨b, off + z * i, none⟩)) w := by
  cases q : P.info? e with
  | none => simp [q] at hz
  | some inf =>
    have hs : inf.size = z := by simpa [q] using hz
    have c1 : (0 : Int) ≤ i ∧ (i : Int) < n := ⟨by omega, by omega⟩
    have hadd : (⟨b, off, none⟩ : Addr).add (i * z) = ⟨b, off + z * i, none⟩ := by
      by_cases c : i * z = 0
      · simp [Addr.add, c, Nat.mul_comm z i]
      · simp [Addr.add, c, Nat.mul_comm z i]
    simp [Instr.indexAt, run_underlying hu, asIntOf, Instr.sureAddr, c1, sizeOf, typeInfo, q, hs, hadd, hi]
theorem wl_idxA {t e n b off i z : Nat} {k : IntKind} {x y : Operand} (hu : P.underlying t = some (.array n e)) (hz : (P.info? e).map (·.size) = some z) (hi : i < n) (ho : o.op = .indexAddr t x y) (hw : Region.wanted o (yielded ops a.tmps) = true)
    (hx : a.eval x = .pointer (some ⟨b, off, none⟩)) (hy : a.eval y = .int k (i : Int)) (ha : a.put o.dst (.pointer (some ⟨b, off + z * i, none⟩)) = a' := by (conv => lhs; simp only [Go.Jal.put_lit, Go.Jal.put_none, Go.Jal.setL]) <;> rfl) (hk : wpList P ops Q rest a' w) : wpList P ops Q (o :: rest) a w := by
  refine BigFrame.wpList_want hw fun K hK => ?_
  unfold Oper.wp execOp
  simp only [ho, hx, hy, Sem.run_bind, run_idxA hu hz hi, Result.andThen_ok, Sem.run_pure]
  exact hK _ _ (ha ▸ hk)
theorem tk_idxA {S : World → Prop} {N : Act → Prop} {i0 : Nat} {is : List Nat} {t e n b off i z : Nat} {k : IntKind} {x y : Operand} (hu : P.underlying t = some (.array n e)) (hz : (P.info? e).map (·.size) = some z) (hi : i < n) (ho : nth lops i0 = some o) (hp : o.op = .indexAddr t x y) (hw : Region.wanted o (yielded lops.toArray a.tmps) = true)
    (hx : a.eval x = .pointer (some ⟨b, off, none⟩)) (hy : a.eval y = .int k (i : Int)) (ha : a.put o.dst (.pointer (some ⟨b, off + z * i, none⟩)) = a' := by (conv => lhs; simp only [Go.Jal.put_lit, Go.Jal.put_none, Go.Jal.setL]) <;> rfl) (hk : wpTake P lops.toArray S N is a') : wpTake P lops.toArray S N (i0 :: is) a :=
  tk_val ho hw (fun w _ => by
    unfold execOp
    simp only [hp, hx, hy, Sem.run_bind, run_idxA hu hz hi, Result.andThen_ok, Sem.run_pure]) ha hk
/-- a part of a block, its cells named -/
theorem wl_loadP {t : TypeId} {x : Operand} {b i n m : Nat} {f g : Nat → Value} (ho : o.op = .load t x) (hw : Region.wanted o (yielded ops a.tmps) = true)
    (hx : a.eval x = .pointer (some ⟨b, i, none⟩)) (hb : Has w b n f := by first | exact Go.Jal.St.hasb hst (by repeat (first | exact Go.Jal.Pick.head | apply Go.Jal.Pick.tail)) | exact Go.Jal.St.hasOld hst (by assumption) (by simp) | assumption) (hs : Agg P t m) (hi : i + m ≤ n := by omega) (hv : ∀ j, j < m → f (i + j) = g j) (ha : a.put o.dst (.agg (row m g)) = a' := by (conv => lhs; simp only [Go.Jal.put_lit, Go.Jal.put_none, Go.Jal.setL]) <;> rfl)
    (hk : wpList P ops Q rest a' w) : wpList P ops Q (o :: rest) a w :=
  wl_loadN ho hw hx hb hs hi (by rw [row_congr hv]; exact ha) hk
theorem tk_loadP {S : World → Prop} {N : Act → Prop} {i0 : Nat} {is : List Nat} {t : TypeId} {x : Operand} {b n k m : Nat} {f g : Nat → Value} (ho : nth lops i0 = some o) (hp : o.op = .load t x) (hw : Region.wanted o (yielded lops.toArray a.tmps) = true)
    (hx : a.eval x = .pointer (some ⟨b, k, none⟩)) (hb : ∀ w, S w → Has w b n f := by intro w hst; first | exact Go.Jal.St.hasb hst (by repeat (first | exact Go.Jal.Pick.head | apply Go.Jal.Pick.tail)) | exact Go.Jal.St.hasOld hst (by assumption) (by simp) | assumption) (hs : Agg P t m) (hi : k + m ≤ n := by omega) (hv : ∀ j, j < m → f (k + j) = g j) (ha : a.put o.dst (.agg (row m g)) = a' := by (conv => lhs; simp only [Go.Jal.put_lit, Go.Jal.put_none, Go.Jal.setL]) <;> rfl)
    (hk : wpTake P lops.toArray S N is a') : wpTake P lops.toArray S N (i0 :: is) a :=
  tk_loadN ho hp hw hx hb hs hi (by rw [row_congr hv]; exact ha) hk
end
section
variable {P : Program} {w : World}
theorem run_bytesOf {v : Value} {l : List Nat} (h : Bs w v l) : (Extern.Bytes.bytesOf v).run P w = .ok ⟨(toU l).toArray⟩ w := by
  obtain ⟨p, cap, rfl, h1, h2⟩ := h.cellU
  cases p with
  | none =>
    obtain rfl := h1 rfl
    simp [Extern.Bytes.bytesOf, toU]
    rfl
  | some ad =>
    have hl := Lib.run_loadBytesX (P := P) w ((toU l).map fun b => (b.toNat : Int)) ad .empty (fun j x hj => by
      rw [List.getElem?_map] at hj
      cases q : (toU l)[j]? with
      | none => simp [q] at hj
      | some y =>
        simp only [q, Option.map_some, Option.some.injEq] at hj
        rw [← hj]
        exact h2 ad rfl j y q)
    rw [List.length_map, toU_length] at hl
    show (Extern.Bytes.loadBytes ad l.length .empty).run P w = _
    rw [hl]
    congr 2
    have e : Lib.bytesOf ((toU l).map fun b => (b.toNat : Int)) = toU l := by
      unfold Lib.bytesOf
      rw [List.map_map]
      conv => rhs; rw [← List.map_id (toU l)]
      exact List.map_congr_left fun b _ => by simp
    rw [e]
    simp [ByteArray.empty, ByteArray.emptyWithCapacity]
    rfl
theorem run_compare {v v' : Value} {l l' : List Nat} (h : Bs w v l) (h' : Bs w v' l') : (Extern.BytealgCompare.compare #[v, v']).run P w = .ok (.int .i64 (Lib.compareBytes (toU l) (toU l'))) w := by
  change Sem.run P (do pure (goInt (Extern.BytealgCompare.cmp (← Extern.Bytes.bytesOf v) (← Extern.Bytes.bytesOf v')))) w = _
  simp only [Sem.run_bind, run_bytesOf h, run_bytesOf h', Sem.run_pure, Result.andThen_ok]
  rw [Lib.cmp_eq]
  rfl
end
end Go.Jal
