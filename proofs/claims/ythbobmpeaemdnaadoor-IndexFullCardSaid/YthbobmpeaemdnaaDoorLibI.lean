/- Arrays and strings compared, bytes made strings and back. -/
import Derived.Test.YthbobmpeaemdnaaDoorLibH
import Derived.Stop.BytesEq
import Derived.Laws.IdiomStrings
namespace Go.Jal
open Go Go.RowKit

/-- a string of bytes -/
def strL (l : List Nat) : Value := .string ⟨(toU l).toArray⟩
theorem toU_inj {l l' : List Nat} (h : ∀ x ∈ l, x < 256) (h' : ∀ x ∈ l', x < 256) : (toU l == toU l') = decide (l = l') := by
  by_cases c : l = l'
  · subst c; simp
  · rw [decide_eq_false c]
    simp only [beq_eq_false_iff_ne, ne_eq]
    intro e
    apply c
    have hlen : l.length = l'.length := by have := congrArg List.length e; simpa [toU] using this
    apply List.ext_getElem hlen
    intro i h1 h2
    have e1 := congrArg (fun l => l[i]?) e
    simp only [toU, List.getElem?_map, List.getElem?_eq_getElem h1, List.getElem?_eq_getElem h2, Option.map_some, Option.some.injEq] at e1
    have := congrArg UInt8.toNat e1
    simp only [UInt8.toNat_ofNat'] at this
    have b1 := h _ (List.getElem_mem h1)
    have b2 := h' _ (List.getElem_mem h2)
    omega
theorem row_cells {l : List Nat} {n : Nat} (hn : l.length = n) (h : ∀ x ∈ l, x < 256) : row n (bF l) = ((toU l).map Extern.Stop.cell).toArray := by
  subst hn
  apply Array.ext
  · simp [toU]
  · intro i h1 h2
    have hi : i < l.length := by simpa using h1
    simp only [row, bF, toU, Extern.Stop.cell, List.getElem_toArray, List.getElem_map, List.getElem_range, List.getD_eq_getElem?_getD, List.getElem?_eq_getElem hi, Option.getD_some, UInt8.toNat_ofNat']
    have := h _ (List.getElem_mem hi)
    rw [Nat.mod_eq_of_lt (by omega)]
    rfl
section
variable {P : Program} {ops : Array Oper} {lops : List Oper} {Q : Exit → Act → World → Prop} {K : Act → World → Prop} {a a' : Act} {w w0 : World} {rest : List Oper} {o : Oper} {M : List Nat} {L L' : List (Nat × Obj)}

/-- An array type of bytes, for '=='. -/
structure EqB (P : Program) (t n e : Nat) : Prop where
  und : P.underlying t = some (.array n e)
  elt : P.underlying e = some (.int .u8)
  siz : (P.info? e).map (·.size) = some 1
  grd : P.eqGuardType P.depth t = false
theorem exec_eqB {t n e : Nat} {x y : Operand} {l l' : List Nat} (he : EqB P t n e) (hl : l.length = n) (hl' : l'.length = n) (h : ∀ z ∈ l, z < 256) (h' : ∀ z ∈ l', z < 256) (w : World) :
    (do eqGuard .eql t x y (.agg (row n (bF l))) (.agg (row n (bF l'))); binOp .eql t (.agg (row n (bF l))) (.agg (row n (bF l'))) : Sem Value).run P w = .ok (.bool (decide (l = l'))) w := by
  have hsz : ∀ w, (sizeOf e).run P w = .ok 1 w := fun w => by
    cases q : P.info? e with
    | none => have := he.siz; simp [q] at this
    | some i => have := he.siz; simp [q] at this; simp [sizeOf, typeInfo, q, this]
  have hq := run_equalIn_bytes (P := P) w 9998 t e n he.und he.elt hsz (toU l) (toU l') (by rw [toU_length, hl]) (by rw [toU_length, hl'])
  simp only [Sem.run_bind, run_eqGuard_agg w .eql t x y _ _ he.grd, Result.andThen_ok, run_eql_struct]
  rw [row_cells hl h, row_cells hl' h', hq, toU_inj h h']
  rfl
theorem wl_eqB {t n e t' : Nat} {x y : Operand} {l l' : List Nat} {r : Bool} (ho : o.op = .binOp .eql t x y t') (hw : Region.wanted o (yielded ops a.tmps) = true) (he : EqB P t n e) (hx : a.eval x = .agg (row n (bF l))) (hy : a.eval y = .agg (row n (bF l')))
    (hl : l.length = n) (hl' : l'.length = n) (h : ∀ z ∈ l, z < 256) (h' : ∀ z ∈ l', z < 256) (hr : decide (l = l') = r) (ha : a.put o.dst (.bool r) = a' := by (conv => lhs; simp only [Go.Jal.put_lit, Go.Jal.put_none, Go.Jal.setL]) <;> rfl) (hk : wpList P ops Q rest a' w) : wpList P ops Q (o :: rest) a w := by
  refine BigFrame.wpList_want hw fun K hK => ?_
  have hq := exec_eqB (x := x) (y := y) he hl hl' h h' w
  unfold Oper.wp execOp
  simp only [Sem.run_bind] at hq
  simp only [ho, hx, hy, Sem.run_bind, hq, Result.andThen_ok, Sem.run_pure, hr]
  exact hK _ _ (ha ▸ hk)
theorem tk_eqB {S : World → Prop} {N : Act → Prop} {i : Nat} {is : List Nat} {t n e t' : Nat} {x y : Operand} {l l' : List Nat} {r : Bool} (ho : nth lops i = some o) (hp : o.op = .binOp .eql t x y t') (hw : Region.wanted o (yielded lops.toArray a.tmps) = true) (he : EqB P t n e) (hx : a.eval x = .agg (row n (bF l))) (hy : a.eval y = .agg (row n (bF l')))
    (hl : l.length = n) (hl' : l'.length = n) (h : ∀ z ∈ l, z < 256) (h' : ∀ z ∈ l', z < 256) (hr : decide (l = l') = r) (ha : a.put o.dst (.bool r) = a' := by (conv => lhs; simp only [Go.Jal.put_lit, Go.Jal.put_none, Go.Jal.setL]) <;> rfl) (hk : wpTake P lops.toArray S N is a') : wpTake P lops.toArray S N (i :: is) a :=
  tk_val ho hw (fun w _ => by
    have hq := exec_eqB (x := x) (y := y) he hl hl' h h' w
    unfold execOp
    simp only [Sem.run_bind] at hq
    simp only [hp, hx, hy, Sem.run_bind, hq, Result.andThen_ok, Sem.run_pure, hr]) ha hk

/-! ### strings of bytes -/
theorem run_b2s {src dst e : TypeId} (hs : P.underlying src = some (.slice e)) (he : P.underlying e = some (.int .u8)) (hd : P.underlying dst = some .string) {v : Value} {l : List Nat} (h : Bs w v l) : (convert src dst v).run P w = .ok (strL l) w := by
  obtain ⟨p, cap, rfl, h1, h2⟩ := h.cellU
  cases p with
  | none =>
    obtain rfl := h1 rfl
    show (convert src dst (.slice none 0 cap)).run P w = _
    rw [run_convert_bytes_string w src dst e none 0 cap hs he hd]
    simp [Conv.bytesToString, strL, toU, ByteArray.empty, ByteArray.emptyWithCapacity]
    rfl
  | some ad =>
    have hb := run_convert_bytes_back (P := P) w src dst e ad cap (toU l) hs he hd (fun j hj => h2 ad rfl j _ (List.getElem?_eq_getElem hj))
    rw [toU_length] at hb
    exact hb
theorem wl_b2s {src dst e : TypeId} {x : Operand} {v : Value} {l : List Nat} (ho : o.op = .convert src dst x) (hw : Region.wanted o (yielded ops a.tmps) = true) (hs : P.underlying src = some (.slice e)) (he : P.underlying e = some (.int .u8)) (hd : P.underlying dst = some .string)
    (hx : a.eval x = v) (h : Bs w v l) (ha : a.put o.dst (strL l) = a' := by (conv => lhs; simp only [Go.Jal.put_lit, Go.Jal.put_none, Go.Jal.setL]) <;> rfl) (hk : wpList P ops Q rest a' w) : wpList P ops Q (o :: rest) a w := by
  refine BigFrame.wpList_want hw fun K hK => ?_
  unfold Oper.wp execOp
  simp only [ho, hx, Sem.run_bind, run_b2s hs he hd h, Result.andThen_ok, Sem.run_pure]
  exact hK _ _ (ha ▸ hk)
theorem tk_b2s {S : World → Prop} {N : Act → Prop} {i : Nat} {is : List Nat} {src dst e : TypeId} {x : Operand} {v : Value} {l : List Nat} (ho : nth lops i = some o) (hp : o.op = .convert src dst x) (hw : Region.wanted o (yielded lops.toArray a.tmps) = true) (hs : P.underlying src = some (.slice e)) (he : P.underlying e = some (.int .u8)) (hd : P.underlying dst = some .string)
    (hx : a.eval x = v) (h : ∀ w, S w → Bs w v l) (ha : a.put o.dst (strL l) = a' := by (conv => lhs; simp only [Go.Jal.put_lit, Go.Jal.put_none, Go.Jal.setL]) <;> rfl) (hk : wpTake P lops.toArray S N is a') : wpTake P lops.toArray S N (i :: is) a :=
  tk_val ho hw (fun w hS => by
    unfold execOp
    simp only [hp, hx, Sem.run_bind, run_b2s hs he hd (h w hS), Result.andThen_ok, Sem.run_pure]) ha hk
/-- '==' of one string with itself. -/
theorem exec_eqS {t : TypeId} {x y : Operand} {s : Value} (hs : ∃ b, s = .string b) (_ht : P.underlying t = some .string) (w : World) :
    (do eqGuard .eql t x y s s; binOp .eql t s s : Sem Value).run P w = .ok (.bool true) w := by
  obtain ⟨b, rfl⟩ := hs
  have hg : (eqGuard .eql t x y (.string b) (.string b)).run P w = .ok () w := by simp [eqGuard]
  simp [hg, binOp, Op.stringOp]
theorem tk_eqS {S : World → Prop} {N : Act → Prop} {i : Nat} {is : List Nat} {t t' : TypeId} {x y : Operand} {l l' : List Nat} (ho : nth lops i = some o) (hp : o.op = .binOp .eql t x y t') (hw : Region.wanted o (yielded lops.toArray a.tmps) = true) (ht : P.underlying t = some .string)
    (hx : a.eval x = strL l) (hy : a.eval y = strL l') (hl : l = l') (ha : a.put o.dst (.bool true) = a' := by (conv => lhs; simp only [Go.Jal.put_lit, Go.Jal.put_none, Go.Jal.setL]) <;> rfl) (hk : wpTake P lops.toArray S N is a') : wpTake P lops.toArray S N (i :: is) a :=
  tk_val ho hw (fun w _ => by
    subst hl
    have hq := exec_eqS (x := x) (y := y) (s := strL l) ⟨_, rfl⟩ ht w
    unfold execOp
    simp only [Sem.run_bind] at hq
    simp only [hp, hx, hy, Sem.run_bind, hq, Result.andThen_ok, Sem.run_pure]) ha hk
/-- []byte(s) -/
theorem run_s2b {src dst e : TypeId} (hs : P.underlying src = some .string) (hd : P.underlying dst = some (.slice e)) (he : P.underlying e = some (.int .u8)) {l : List Nat} (hl : ∀ x ∈ l, x < 256) (hm : l.length ≤ maxLen) (hst : St w0 M L w) :
    ∃ v w' o b, (convert src dst (strL l)).run P w = .ok v w' ∧ w0.heap.size ≤ b ∧ St w0 M ((b, o) :: L) w' ∧ Bs w' v l := by
  have hr := run_bytes_of_string (P := P) w src dst e ⟨(toU l).toArray⟩ hs hd he
  have hsz : (⟨(toU l).toArray⟩ : ByteArray).size = l.length := by simp [ByteArray.size, toU]
  rw [hsz] at hr
  have hst' := hst.drew.alloc (Obj.cells (bytesRow ⟨(toU l).toArray⟩ (grownCap w l.length 0 e)) e ((bytesRow ⟨(toU l).toArray⟩ (grownCap w l.length 0 e)).size, (bytesRow ⟨(toU l).toArray⟩ (grownCap w l.length 0 e)).size + 1))
  refine ⟨_, _, _, _, hr, hst.size, hst', ?_⟩
  have hcap := grownCap_ge w l.length 0 e
  have hcm := grownCap_le_maxLen w l.length 0 e hm
  obtain ⟨C, hC⟩ : ∃ C, C = bytesRow ⟨(toU l).toArray⟩ (grownCap w l.length 0 e) := ⟨_, rfl⟩
  have hcs : C.size = grownCap w l.length 0 e := by
    rw [hC, bytesRow, Array.size_append, Array.size_map, Array.size_replicate, hsz]
    have : (toU l).toArray.size = l.length := by simp [toU]
    show (toU l).toArray.size + _ = _
    omega
  have hH := hst'.own _ (List.mem_cons_self ..)
  rw [← hC] at hH ⊢
  refine Bs.of_blk (f := fun j => C.getD j undef) (n := C.size) ⟨_, _, by rw [row_self]; exact hH⟩ (by omega) (fun j hj => ?_) hl hcap hcm
  rw [Nat.zero_add, hC]
  simp only [bytesRow, Array.getD_eq_getD_getElem?]
  rw [Array.getElem?_append_left (by simp [toU]; exact hj)]
  simp only [toU, bF, List.map_toArray, List.getElem?_toArray, List.getElem?_map, List.getElem?_eq_getElem hj, Option.map_some, Option.getD_some, List.getD_eq_getElem?_getD]
  have := hl _ (List.getElem_mem hj)
  simp [UInt8.toNat_ofNat', Nat.mod_eq_of_lt this]
theorem wl_s2b {src dst e : TypeId} {x : Operand} {l : List Nat} (ho : o.op = .convert src dst x) (hw : Region.wanted o (yielded ops a.tmps) = true) (hs : P.underlying src = some .string) (hd : P.underlying dst = some (.slice e)) (he : P.underlying e = some (.int .u8))
    (hx : a.eval x = strL l) (hl : ∀ x ∈ l, x < 256) (hm : l.length ≤ maxLen) (hst : St w0 M L w)
    (hk : ∀ v w' ob b, w0.heap.size ≤ b → St w0 M ((b, ob) :: L) w' → Bs w' v l → wpList P ops Q rest (a.put o.dst v) w') : wpList P ops Q (o :: rest) a w := by
  refine BigFrame.wpList_want hw fun K hK => ?_
  obtain ⟨v, w', ob, b, hr, h1, h2, h3⟩ := run_s2b (P := P) hs hd he hl hm hst
  unfold Oper.wp execOp
  simp only [ho, hx, Sem.run_bind, hr, Result.andThen_ok, Sem.run_pure]
  exact hK _ _ (hk _ _ _ _ h1 h2 h3)
/-- []byte{..} as a []byte: the block is marked, no cell of it. -/
theorem run_same {t e : TypeId} (ht : P.underlying t = some (.slice e)) (he : P.underlying e = some (.int .u8)) {b n m c : Nat} {f : Nat → Value} {T : TypeId} (hst : St w0 M ((b, blk n f T) :: L) w) :
    ∃ w', (convert t t (.slice (some ⟨b, 0, none⟩) m c)).run P w = .ok (.slice (some ⟨b, 0, none⟩) m c) w' ∧ St w0 M ((b, .cells (row n f) T (n, n + 1)) :: L) w' := by
  have hb := hst.own (b, blk n f T) (List.mem_cons_self ..)
  have hsh : w.shape? b = some (T, n) := by unfold World.shape?; rw [hb]; simp [blk]
  refine ⟨w.freeze ⟨b, n, none⟩ 1, ?_, ?_⟩
  · simp [convert, run_underlying ht, run_underlying he, markStringish, hsh]
  · refine hst.put _ _ ?_ rfl rfl rfl
    have hlt : b < w.heap.size := lt_of_some hb
    have hv : w.heap[b] = blk n f T := (Array.getElem?_eq_some_iff.1 hb).2
    unfold World.freeze
    rw [if_neg (by decide)]
    apply Array.ext
    · simp
    · intro i h1 h2
      simp only [Array.getElem_modify]
      rw [Array.getElem_setIfInBounds (by simpa using h1)]
      by_cases e : b = i
      · subst e; simp [hv, blk]
      · simp [e]
theorem wl_same {t e : TypeId} {x : Operand} {b n m c : Nat} {f : Nat → Value} {T : TypeId} (ho : o.op = .convert t t x) (hw : Region.wanted o (yielded ops a.tmps) = true) (ht : P.underlying t = some (.slice e)) (he : P.underlying e = some (.int .u8))
    (hx : a.eval x = .slice (some ⟨b, 0, none⟩) m c) (hst : St w0 M L w) (hp : Pick L b (blk n f T) L')
    (hk : ∀ w', St w0 M ((b, .cells (row n f) T (n, n + 1)) :: L') w' → wpList P ops Q rest (a.put o.dst (.slice (some ⟨b, 0, none⟩) m c)) w') : wpList P ops Q (o :: rest) a w := by
  refine BigFrame.wpList_want hw fun K hK => ?_
  obtain ⟨w', hr, h2⟩ := run_same (P := P) (m := m) (c := c) ht he (hst.front hp)
  unfold Oper.wp execOp
  simp only [ho, hx, Sem.run_bind, hr, Result.andThen_ok, Sem.run_pure]
  exact hK _ _ (hk _ h2)

theorem wl_arrayAt {t e : TypeId} {n m c : Nat} {ad : Option Addr} {x : Operand} (ho : o.op = .sliceToArrayPointer t x) (hw : Region.wanted o (yielded ops a.tmps) = true) (hu : P.underlying t = some (.array n e)) (hx : a.eval x = .slice ad m c) (hm : n ≤ m)
    (ha : a.put o.dst (.pointer ad) = a' := by (conv => lhs; simp only [Go.Jal.put_lit, Go.Jal.put_none, Go.Jal.setL]) <;> rfl) (hk : wpList P ops Q rest a' w) : wpList P ops Q (o :: rest) a w := by
  refine BigFrame.wpList_want hw fun K hK => ?_
  have hr : (Instr.arrayAt t (.slice ad m c)).run P w = .ok (.pointer ad) w := by
    have : ¬ m < n := by omega
    simp [Instr.arrayAt, run_underlying hu, this]
  unfold Oper.wp execOp
  simp only [ho, hx, Sem.run_bind, hr, Result.andThen_ok, Sem.run_pure]
  exact hK _ _ (ha ▸ hk)

/-- Two come up. -/
theorem rg_two {listed : Array Bool} {i j n : Nat} {oi oj : Oper} (hr : Region.ready .any lops.toArray listed = [i, j]) (hoi : nth lops i = some oi) (hoj : nth lops j = some oj)
    (hwi : Region.wanted oi (yielded lops.toArray a.tmps) = true) (hwj : Region.wanted oj (yielded lops.toArray a.tmps) = true)
    (hi : ∀ w, St w0 M L w → oi.wp P a w (fun a' w' => ∃ E, St w0 M (E ++ L) w' ∧ wpAnyG P .any lops.toArray Q n (St w0 M (E ++ L)) (listed.setIfInBounds i true) a') Q)
    (hj : ∀ w, St w0 M L w → oj.wp P a w (fun a' w' => ∃ E, St w0 M (E ++ L) w' ∧ wpAnyG P .any lops.toArray Q n (St w0 M (E ++ L)) (listed.setIfInBounds j true) a') Q) :
    wpAnyG P .any lops.toArray Q (n + 1) (St w0 M L) listed a := by
  refine ⟨fun h0 => (by rw [hr] at h0; cases h0), fun k hk w hS => ?_⟩
  rw [hr] at hk
  have hk' : k = i ∨ k = j := by simpa using hk
  rcases hk' with rfl | rfl
  · unfold wpOp
    simp only [get_of_nth hoi, hwi, if_true]
    exact .inl (Oper.wp_mono (fun a' w' ⟨E, h1, h2⟩ => ⟨_, h1, .inl ⟨fun _ h => h.sub (List.sublist_append_right _ _), cls_st _ _ _⟩, h2⟩) (hi w hS))
  · unfold wpOp
    simp only [get_of_nth hoj, hwj, if_true]
    exact .inl (Oper.wp_mono (fun a' w' ⟨E, h1, h2⟩ => ⟨_, h1, .inl ⟨fun _ h => h.sub (List.sublist_append_right _ _), cls_st _ _ _⟩, h2⟩) (hj w hS))
end
end Go.Jal
