/- Values of rows: index; results. -/
import Derived.Test.YthbobmpeaemdnaaDoorLibJ
namespace Go.Jal
open Go Go.RowKit
section
variable {P : Program} {ops : Array Oper} {Q : Exit → Act → World → Prop} {K : Act → World → Prop} {a a' : Act} {w w0 : World} {rest : List Oper} {o : Oper} {M : List Nat} {L L' : List (Nat × Obj)}

theorem run_index1 {t e : TypeId} {n : Nat} {f : Nat → Value} {k : Nat} (hu : P.underlying t = some (.array n e)) (hs : Scal P e) (hk : k < n) (kd : IntKind) (w : World) :
    (Instr.index t (.agg (row n f)) (.int kd (k : Int))).run P w = .ok (f k) w := by
  obtain ⟨d, hd, hr, hz⟩ := hs
  cases q : P.info? e with
  | none => simp [q] at hz
  | some i =>
    have hs : i.size = 1 := by simpa [q] using hz
    have hagg : (isAgg e).run P w = .ok false w := by
      unfold isAgg
      rw [Sem.run_bind, run_underlying hd w]
      cases d <;> simp_all [TypeDesc.isRow]
    have h1 : (0 : Int) ≤ k ∧ (k : Int) < n := ⟨by omega, by omega⟩
    have h2 : (row n f)[k * 1]? = some (f k) := by rw [Nat.mul_one, row_get hk]
    simp [Instr.index, asIntOf, run_underlying hu, h1, sizeOf, typeInfo, q, hs, part, hagg, row, hk]
theorem wl_index1 {t e : TypeId} {n : Nat} {f : Nat → Value} {k : Nat} {x y : Operand} {kd : IntKind} {v : Value} (ho : o.op = .index t x y) (hw : Region.wanted o (yielded ops a.tmps) = true) (hu : P.underlying t = some (.array n e)) (hs : Scal P e) (hx : a.eval x = .agg (row n f)) (hy : a.eval y = .int kd (k : Int)) (hk0 : k < n)
    (hv : f k = v) (ha : a.put o.dst v = a' := by (conv => lhs; simp only [Go.Jal.put_lit, Go.Jal.put_none, Go.Jal.setL]) <;> rfl) (hk : wpList P ops Q rest a' w) : wpList P ops Q (o :: rest) a w := by
  refine BigFrame.wpList_want hw fun K hK => ?_
  unfold Oper.wp execOp
  simp only [ho, Sem.run_bind, hx, hy, run_index1 hu hs hk0, Result.andThen_ok, Sem.run_pure, hv]
  exact hK _ _ (ha ▸ hk)
/-- A slice of slices that the call owns. -/
theorem Bss.of_own {L E : List (Nat × Obj)} {e : TypeId} {v : Value} {ls : List (List Nat)} {n : Nat} {g : Nat → Value} (h : Own 1 e v n g E) (hst : St w0 M (E ++ L) w) (hn : ls.length = n) (hb : ∀ j, j < n → Bs w (g j) (ls.getD j [])) : Bss w v ls := by
  subst hn
  rcases h with ⟨rfl, h2, rfl⟩ | ⟨b, cap, f, rfl, h2, h3, rfl, h5⟩
  · obtain rfl : ls = [] := List.length_eq_zero_iff.1 h2
    exact ⟨none, 0, rfl, Nat.le_refl _, by simp [maxLen], fun _ => rfl, fun h => absurd rfl h⟩
  · have : Has w b (cap * 1) f := hst.hasb Pick.head
    exact ⟨_, cap, rfl, h2, h3, (by intro h; cases h), fun _ => ⟨b, 0, cap * 1, f, rfl, this, by omega, fun j hj => by rw [Nat.zero_add, h5 j (by omega)]; exact hb j hj⟩⟩
/-- A slice of slices in a block of its own. -/
theorem Bss.of_blk {ls : List (List Nat)} {b n : Nat} {f : Nat → Value} (hb : Has w b n f) (hn : ls.length = n) (h1 : n ≤ 1000000) (hs : ∀ j, j < n → Bs w (f j) (ls.getD j [])) : Bss w (.slice (some ⟨b, 0, none⟩) n n) ls := by
  subst hn
  exact ⟨_, _, rfl, Nat.le_refl _, by unfold maxLen; omega, (by intro h; cases h), fun _ => ⟨b, 0, _, f, rfl, hb, by omega, fun j hj => by rw [Nat.zero_add]; exact hs j hj⟩⟩
theorem Src.of_bss {ad : Option Addr} {c m : Nat} {ls : List (List Nat)} (h : Bss w (.slice ad m c) ls) : ∃ h' : Nat → Value, Src w ad (m * 1) h' ∧ (ad = none → m = 0) ∧ m = ls.length ∧ ∀ j, j < m → Bs w (h' j) (ls.getD j []) ∧ (h' j).oneCell' = true := by
  obtain ⟨ao, cap, e, h1, h2, h4, h5⟩ := h
  cases e
  by_cases hl : ls = []
  · subst hl; exact ⟨fun _ => undef, .inl rfl, fun _ => rfl, rfl, fun j hj => by simp at hj⟩
  · obtain ⟨b, off, n, f, e1, e2, e3, e4⟩ := h5 hl
    refine ⟨fun j => f (off + j), .inr ⟨b, off, n, f, e1, e2, by omega, fun j hj => rfl⟩, fun e => ?_, rfl, fun j hj => ⟨e4 j hj, ?_⟩⟩
    · have := h4 e; omega
    · obtain ⟨_, _, e, _⟩ := e4 j hj
      show (f (off + j)).oneCell' = true
      rw [e]; rfl
theorem blit_bF (l r : List Nat) (m : Nat) (h : r.length = m) : blit (bF l) l.length m (bF r) = bF (l ++ r) := by
  subst h
  funext j
  unfold blit bF
  by_cases c : j < l.length
  · rw [if_neg (by omega)]; simp [List.getD_eq_getElem?_getD, List.getElem?_append, c]
  · by_cases d : j < l.length + r.length
    · rw [if_pos ⟨by omega, d⟩]; simp [List.getD_eq_getElem?_getD, List.getElem?_append, c]
    · rw [if_neg (by omega), getD_ge (by omega), getD_ge (by rw [List.length_append]; omega)]

theorem run_buildSliceN {t e bytes n : Nat} {zf : Nat → Value} (he : Elt P t e 1 bytes zf) (l : List Value) (hl : l.length = n) (h1 : ∀ v ∈ l, v.oneCell' = true) (hn : n ≤ 16777216) (w : World) :
    (Instr.buildSlice t n (numbered 0 l).toArray).run P w = .ok (.slice (some ⟨w.heap.size, 0, none⟩) n n) (w.alloc (blk n (lstF l) e)) := by
  by_cases hn0 : n = 0
  · subst hn0
    obtain rfl : l = [] := List.length_eq_zero_iff.1 hl
    exact run_buildSlice0 he w
  obtain ⟨zv, hz1, hz2⟩ := run_zeroValue he.zer w
  have h24 : ¬ (n * 1 > 2 ^ 24) := by omega
  have hz0 : n * 1 ≠ 0 := by omega
  have hz : ((Array.range (n * 1)).map (fun i => (row 1 zf)[i % (row 1 zf).size]!)) = row n (fun i => zf 0) := by
    apply Array.ext
    · simp
    · intro i h1 h2
      simp [row, Nat.mod_one]
  have hfill := fill_scal n l 0 (fun i => zf 0) (by omega) h1
  have e : row n (fun j => if 0 ≤ j ∧ j < 0 + l.length then l.getD (j - 0) undef else zf 0) = row n (lstF l) := row_congr fun j hj => by
    rw [if_pos ⟨by omega, by omega⟩]; rfl
  rw [e] at hfill
  simp only [Instr.buildSlice, Sem.run_bind, run_underlying he.und, Result.andThen_ok, run_sizeOf he.siz, if_neg h24, if_neg hz0, hz1, hz2, Sem.run_pure, hz, hfill]
  simp [newRow, newObj, Sem.run, blk]
theorem wo_buildSliceN {t e bytes n : Nat} {zf : Nat → Value} {ps : List (Nat × Operand)} {l : List Value} (ho : o.op = .buildSlice t n ps.toArray) (he : Elt P t e 1 bytes zf)
    (hp : ps.map (fun p => (p.1, a.eval p.2)) = numbered 0 l) (hl : l.length = n) (h1' : l.all Value.oneCell' = true) (hn : n ≤ 16777216) (hst : St w0 M L w)
    (hk : ∀ b w', w0.heap.size ≤ b → St w0 M ((b, blk n (lstF l) e) :: L) w' → K (a.put o.dst (.slice (some ⟨b, 0, none⟩) n n)) w') : o.wp P a w K Q := by
  have h1 : ∀ v ∈ l, v.oneCell' = true := by simpa using h1'
  unfold Oper.wp execOp
  simp only [ho, Sem.run_bind, List.map_toArray, hp, run_buildSliceN he l hl h1 hn, Result.andThen_ok, Sem.run_pure]
  exact hk _ _ hst.size (hst.alloc _)
theorem wl_buildSliceN {t e bytes n : Nat} {zf : Nat → Value} {ps : List (Nat × Operand)} {l : List Value} (ho : o.op = .buildSlice t n ps.toArray) (hw : Region.wanted o (yielded ops a.tmps) = true) (he : Elt P t e 1 bytes zf)
    (hp : ps.map (fun p => (p.1, a.eval p.2)) = numbered 0 l) (hl : l.length = n) (h1' : l.all Value.oneCell' = true) (hn : n ≤ 16777216) (hst : St w0 M L w)
    (hk : ∀ b w', w0.heap.size ≤ b → St w0 M ((b, blk n (lstF l) e) :: L) w' → wpList P ops Q rest (a.put o.dst (.slice (some ⟨b, 0, none⟩) n n)) w') : wpList P ops Q (o :: rest) a w :=
  BigFrame.wpList_want hw fun _ hK => wo_buildSliceN ho he hp hl h1' hn hst fun b w' h1 h2 => hK _ _ (hk b w' h1 h2)

theorem run_sliceArr {t e : TypeId} {n b off l h : Nat} {k1 k2 : IntKind} (hu : P.underlying t = some (.array n e)) (hz : (P.info? e).map (·.size) = some 1) (h1 : l ≤ h) (h2 : h ≤ n) (h3 : l < n) (w : World) :
    (Instr.sliceAt t (.pointer (some ⟨b, off, none⟩)) (some (.int k1 (l : Int))) (some (.int k2 (h : Int))) none).run P w = .ok (.slice (some ⟨b, off + l, none⟩) (h - l) (n - l)) w := by
  cases q : P.info? e with
  | none => simp [q] at hz
  | some i =>
    have hs : i.size = 1 := by simpa [q] using hz
    have c1 : (0 : Int) ≤ l ∧ (l : Int) ≤ h := ⟨by omega, by omega⟩
    have c2 : (0 : Int) ≤ h ∧ (h : Int) ≤ n := ⟨by omega, by omega⟩
    have c3 : ¬ n = l := by omega
    simp [Instr.sliceAt, run_underlying hu, Instr.sureAddr, Instr.sliceBounds, Instr.sliceBound, asIntOf, c1, c2, sizeOf, typeInfo, q, hs, c3, Addr.add, h1, h2]
theorem Own.spot {z : Nat} {e : TypeId} {ad : Option Addr} {m c n : Nat} {g : Nat → Value} {E : List (Nat × Obj)} (h : Own z e (.slice ad m c) n g E) : ∀ a, ad = some a → a.spot = none := by
  rintro a rfl
  rcases h with ⟨h, _⟩ | ⟨b, cap, f, h, _⟩
  · cases h
  · cases h; rfl
theorem Own.take {e : TypeId} {ad : Option Addr} {m c n k : Nat} {l : List Nat} {E : List (Nat × Obj)} (h : Own 1 e (.slice ad m c) n (bF l) E) (hl : l.length = n) (hk : k ≤ n) (hlt : ∀ x ∈ l, x < 256) (hst : St w0 M (E ++ L) w) : Bs w (.slice ad k k) (l.take k) := by
  rcases h with ⟨h, h2, rfl⟩ | ⟨b, cap, f, h, h2, h3, rfl, h5⟩
  · cases h
    obtain rfl : k = 0 := by omega
    rw [List.take_zero]
    exact Bs.nil (by simp [maxLen]) (fun _ => rfl)
  · cases h
    have hb : Has w b (c * 1) f := hst.hasb Pick.head
    have := Bs.sub (i := 0) (j := k) (cap := k) (off := 0) (l := l) hb (by omega) (fun j hj => by rw [Nat.zero_add]; exact h5 j (by omega)) hlt (Nat.zero_le _) (by omega) (by omega) (by omega)
    simpa using this
/-- x[:h:h] -/
theorem run_slice3 {t e : TypeId} {len cap h : Nat} {k1 k2 : IntKind} {ad : Option Addr} (hu : P.underlying t = some (.slice e)) (hz : (P.info? e).map (·.size) = some 1) (hp : ∀ a, ad = some a → a.spot = none) (h1 : h ≤ cap) (w : World) :
    (Instr.sliceAt t (.slice ad len cap) none (some (.int k1 (h : Int))) (some (.int k2 (h : Int)))).run P w = .ok (.slice ad h h) w := by
  cases q : P.info? e with
  | none => simp [q] at hz
  | some i =>
    have hs : i.size = 1 := by simpa [q] using hz
    have c1 : (0 : Int) ≤ h ∧ (h : Int) ≤ cap := ⟨by omega, by omega⟩
    have hadd : ad.map (·.add 0) = ad := by
      cases ad with
      | none => rfl
      | some a => obtain ⟨b, off, s⟩ := a; have := hp _ rfl; simp only at this; subst this; rfl
    simp [Instr.sliceAt, Instr.slice, run_underlying hu, Instr.sliceBounds, Instr.sliceBound, asIntOf, c1, h1, sizeOf, typeInfo, q, hadd]
theorem wl_slice3 {t e : TypeId} {len cap h : Nat} {k1 k2 : IntKind} {ad : Option Addr} {x hi mx : Operand} (ho : o.op = .slice t x none (some hi) (some mx)) (hw : Region.wanted o (yielded ops a.tmps) = true) (hu : P.underlying t = some (.slice e)) (hz : (P.info? e).map (·.size) = some 1)
    (hx : a.eval x = .slice ad len cap) (hhi : a.eval hi = .int k1 (h : Int)) (hmx : a.eval mx = .int k2 (h : Int)) (hp : ∀ a, ad = some a → a.spot = none) (h1 : h ≤ cap)
    (ha : a.put o.dst (.slice ad h h) = a' := by (conv => lhs; simp only [Go.Jal.put_lit, Go.Jal.put_none, Go.Jal.setL]) <;> rfl) (hk : wpList P ops Q rest a' w) : wpList P ops Q (o :: rest) a w := by
  refine BigFrame.wpList_want hw fun K hK => ?_
  unfold Oper.wp execOp
  simp only [ho, Sem.run_bind, hx, hhi, hmx, Option.map_some, Option.map_none, run_slice3 hu hz hp h1, Result.andThen_ok, Sem.run_pure]
  exact hK _ _ (ha ▸ hk)
theorem wl_sliceArr {t e : TypeId} {n b off l h : Nat} {k1 k2 : IntKind} {x lo hi : Operand} {v : Value} (ho : o.op = .slice t x (some lo) (some hi) none) (hw : Region.wanted o (yielded ops a.tmps) = true) (hu : P.underlying t = some (.array n e)) (hz : (P.info? e).map (·.size) = some 1)
    (hx : a.eval x = .pointer (some ⟨b, off, none⟩)) (hlo : a.eval lo = .int k1 (l : Int)) (hhi : a.eval hi = .int k2 (h : Int)) (h1 : l ≤ h) (h2 : h ≤ n) (h3 : l < n)
    (hv : Value.slice (some ⟨b, off + l, none⟩) (h - l) (n - l) = v) (ha : a.put o.dst v = a' := by (conv => lhs; simp only [Go.Jal.put_lit, Go.Jal.put_none, Go.Jal.setL]) <;> rfl) (hk : wpList P ops Q rest a' w) : wpList P ops Q (o :: rest) a w := by
  refine BigFrame.wpList_want hw fun K hK => ?_
  unfold Oper.wp execOp
  simp only [ho, Sem.run_bind, hx, hlo, hhi, Option.map_some, Option.map_none, run_sliceArr hu hz h1 h2 h3, Result.andThen_ok, Sem.run_pure, hv]
  exact hK _ _ (ha ▸ hk)

section
variable {lops : List Oper} {b n : Nat} {f0 : Nat → Value} {T : TypeId} {listed l' : Array Bool}
/-- A store of a whole variable, bound after all others. -/
theorem rg_lastStoreAll {L0 : List (Nat × Obj)} {i : Nat} {t : TypeId} {x y : Operand} {g : Nat → Value} (hr : Region.ready .any lops.toArray listed = [i]) (ho : nth lops i = some o) (hp : o.op = .store t x y)
    (hw : Region.wanted o (yielded lops.toArray a.tmps) = true) (hl : Region.ready .any lops.toArray (listed.setIfInBounds i true) = []) (hlast : lastOp .any lops.toArray i = true)
    (hx : a.eval x = .pointer (some ⟨b, 0, none⟩)) (hy : a.eval y = .agg (row n g)) (hpk : Pick L0 b (blk n f0 T) L) (hs : Agg P t n) (hv : ∀ j, j < n → (g j).oneCell' = true) (ha : a.put o.dst undef = a' := by (conv => lhs; simp only [Go.Jal.put_lit, Go.Jal.put_none, Go.Jal.setL]) <;> rfl)
    (hk : ∀ w', St w0 M ((b, blk n g T) :: L) w' → Q .normal a' w') : wpAnyG P .any lops.toArray Q 1 (St w0 M L0) listed a :=
  rg_last hr ho hw hl hlast fun _ hst => wo_storeAll hp hx hy hst hpk hs hv ha hk
end
end
end Go.Jal
