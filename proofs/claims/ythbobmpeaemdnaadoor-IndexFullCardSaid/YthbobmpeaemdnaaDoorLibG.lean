/- More of byte slices: moved from world to world, out of blocks owned; slices of slices; copy. -/
import Derived.Test.YthbobmpeaemdnaaDoorLibF
import Derived.Lib.LazyBuf
import Derived.Laws.IdiomCopy
namespace Go.Jal
open Go Go.RowKit

theorem Has.keep {w w' : World} {L : List (Nat × Obj)} {b n : Nat} {f : Nat → Value} (h : Has w b n f) (hst : St w [] L w') : Has w' b n f := hst.hasOld h (by simp)
theorem Bs.keep {w w' : World} {L : List (Nat × Obj)} {v : Value} {l : List Nat} (h : Bs w v l) (hst : St w [] L w') : Bs w' v l := by
  obtain ⟨ao, cap, e, h1, h2, h3, h4, h5⟩ := h
  refine ⟨ao, cap, e, h1, h2, h3, h4, fun hl => ?_⟩
  obtain ⟨b, off, n, f, e1, e2, e3, e4⟩ := h5 hl
  exact ⟨b, off, n, f, e1, e2.keep hst, e3, e4⟩
theorem Bs.lt {w : World} {v : Value} {l : List Nat} (h : Bs w v l) : ∀ x ∈ l, x < 256 := by obtain ⟨_, _, _, _, _, h, _⟩ := h; exact h
theorem Bs.of_blk {w : World} {b off n cap : Nat} {f : Nat → Value} {l : List Nat} (hb : Has w b n f) (hn : off + l.length ≤ n) (hf : ∀ j, j < l.length → f (off + j) = bF l j) (hlt : ∀ x ∈ l, x < 256) (hc : l.length ≤ cap) (hm : cap ≤ maxLen) :
    Bs w (.slice (some ⟨b, off, none⟩) l.length cap) l :=
  ⟨_, cap, rfl, hc, hm, hlt, (by intro h; cases h), fun _ => ⟨b, off, n, f, rfl, hb, hn, hf⟩⟩
theorem Bs.nil {w : World} {ao : Option Addr} {cap : Nat} (hm : cap ≤ maxLen) (h : ao = none → cap = 0) : Bs w (.slice ao 0 cap) [] :=
  ⟨ao, cap, rfl, Nat.zero_le _, hm, by simp, h, fun h => absurd rfl h⟩
theorem Bs.of_own {w w0 : World} {M : List Nat} {L E : List (Nat × Obj)} {e : TypeId} {v : Value} {l : List Nat} (h : Own 1 e v l.length (bF l) E) (hlt : ∀ x ∈ l, x < 256) (hst : St w0 M (E ++ L) w) : Bs w v l := by
  rcases h with ⟨rfl, h2, rfl⟩ | ⟨b, cap, f, rfl, h2, h3, rfl, h5⟩
  · obtain rfl : l = [] := List.length_eq_zero_iff.1 h2
    exact Bs.nil (by simp [maxLen]) (fun _ => rfl)
  · have : Has w b (cap * 1) f := hst.hasb Pick.head
    exact Bs.of_blk this (by omega) (fun j hj => by rw [Nat.zero_add]; exact h5 j (by omega)) hlt h2 h3
theorem Src.of_bs {w : World} {ad : Option Addr} {c m : Nat} {l : List Nat} (h : Bs w (.slice ad m c) l) : Src w ad (m * 1) (bF l) := by
  obtain ⟨ao, cap, e, h1, h2, h3, h4, h5⟩ := h
  cases e
  by_cases hl : l = []
  · subst hl; exact .inl rfl
  · obtain ⟨b, off, n, f, e1, e2, e3, e4⟩ := h5 hl
    exact .inr ⟨b, off, n, f, e1, e2, by omega, fun j hj => e4 j (by omega)⟩
/-- A call that may write the blocks of E, which are owned. -/
theorem St.callE {w0 w w' : World} {M : List Nat} {L E E' : List (Nat × Obj)} (h : St w0 M (E ++ L) w) (h' : St w (E.map Prod.fst) E' w') : St w0 M (E' ++ L) w' := by
  have hnd := h.nodup
  rw [List.map_append, List.nodup_append] at hnd
  have hE : ∀ p ∈ E, w0.heap.size ≤ p.1 ∨ p.1 ∈ M := fun p m => h.new p (by simp [m])
  have hd : St w0 M L w := h.sub (List.sublist_append_right _ _)
  have hge : ∀ p ∈ E', w.heap.size ≤ p.1 ∨ p.1 ∈ E.map Prod.fst := h'.new
  refine ⟨h'.os.trans h.os, h'.tape.trans h.tape, h'.output.trans h.output, Nat.le_trans h.size h'.size, ?_, ?_, ?_, ?_⟩
  · intro p m
    rcases List.mem_append.1 m with m | m
    · exact h'.own p m
    · rw [h'.old p.1 (hd.fresh p m) (fun c => hnd.2.2 _ c _ (List.mem_map.2 ⟨p, m, rfl⟩) rfl)]; exact h.own p (by simp [m])
  · rw [List.map_append]
    refine List.nodup_append.2 ⟨h'.nodup, hd.nodup, fun x hx y hy e => ?_⟩
    obtain ⟨p, hp, rfl⟩ := List.mem_map.1 hx
    obtain ⟨q, hq, e2⟩ := List.mem_map.1 hy
    have := hd.fresh q hq
    rcases hge p hp with c | c
    · omega
    · exact hnd.2.2 _ c _ hy e
  · intro p m
    rcases List.mem_append.1 m with m | m
    · rcases hge p m with c | c
      · exact .inl (Nat.le_trans h.size c)
      · obtain ⟨q, hq, e⟩ := List.mem_map.1 c
        rw [← e]; exact hE q hq
    · exact hd.new p m
  · intro k hk hM
    have hkb : k ∉ E.map Prod.fst := by
      intro c
      obtain ⟨q, hq, rfl⟩ := List.mem_map.1 c
      rcases hE q hq with c | c
      · omega
      · exact hM c
    rw [h'.old k (by have := h.size; omega) hkb]; exact h.old k hk hM
theorem Own.nodup {z : Nat} {e : TypeId} {v : Value} {n : Nat} {g : Nat → Value} {E : List (Nat × Obj)} (h : Own z e v n g E) : (E.map Prod.fst).Nodup := by
  rcases h with ⟨rfl, h2, rfl⟩ | ⟨b, cap, f, rfl, h2, h3, rfl, h5⟩ <;> simp
/-- The beginning of a call that may write the blocks of E. -/
theorem St.reflE {w : World} {E : List (Nat × Obj)} (h : ∀ p ∈ E, w.heap[p.1]? = some p.2) (hn : (E.map Prod.fst).Nodup) : St w (E.map Prod.fst) E w :=
  ⟨rfl, rfl, rfl, Nat.le_refl _, h, hn, fun p m => .inr (List.mem_map.2 ⟨p, m, rfl⟩), fun _ _ _ => rfl⟩
theorem Own.slice {z : Nat} {e : TypeId} {v : Value} {n : Nat} {g : Nat → Value} {E : List (Nat × Obj)} (h : Own z e v n g E) : ∃ ad c, v = .slice ad n c ∧ n ≤ c ∧ c ≤ maxLen ∧ (ad = none → n = 0 ∧ c = 0) := by
  rcases h with ⟨rfl, rfl, rfl⟩ | ⟨b, cap, f, rfl, h2, h3, rfl, h5⟩
  · exact ⟨none, 0, rfl, Nat.le_refl _, by simp [maxLen], fun _ => ⟨rfl, rfl⟩⟩
  · exact ⟨_, cap, rfl, h2, h3, fun h => by cases h⟩
theorem Own.len {z : Nat} {e : TypeId} {v : Value} {n n' : Nat} {g : Nat → Value} {E : List (Nat × Obj)} (h : Own z e v n g E) (hn : n = n') : Own z e v n' g E := hn ▸ h
/-- glue of cells of bytes -/
theorem glue_bF (l r : List Nat) (n : Nat) (h : l.length = n) : glue (n * 1) (bF l) (bF r) = bF (l ++ r) := by
  subst h
  funext j
  unfold glue bF
  rw [Nat.mul_one]
  by_cases c : j < l.length
  · rw [if_pos c]; simp [List.getD_eq_getElem?_getD, List.getElem?_append, c]
  · rw [if_neg c]; simp [List.getD_eq_getElem?_getD, List.getElem?_append, c]
theorem glue_one {l : List Nat} {y n j : Nat} (h : l.length = n) (hj : j < n + 1) : glue (n * 1) (bF l) (fun _ => nB y) j = bF (l ++ [y]) j := by
  subst h
  unfold glue bF
  rw [Nat.mul_one]
  by_cases c : j < l.length
  · rw [if_pos c]; simp [List.getD_eq_getElem?_getD, List.getElem?_append, c]
  · rw [if_neg c]
    obtain rfl : j = l.length := by omega
    simp
theorem blit_none (f : Nat → Value) (off : Nat) (g : Nat → Value) : blit f off 0 g = f := by
  funext j; unfold blit; rw [if_neg (by omega)]
/-- the length of a slice value -/
def vlen : Value → Nat
  | .slice _ n _ => n
  | _ => 0

section
variable {P : Program} {ops : Array Oper} {Q : Exit → Act → World → Prop} {K : Act → World → Prop} {a a' : Act} {w w0 : World} {rest : List Oper} {o : Oper} {M : List Nat} {L L' : List (Nat × Obj)}

theorem wl_eqnil {t e t' : TypeId} {x : Operand} {ad : Option Addr} {n c : Nat} (ho : o.op = .binOp .eql t x (.const (.slice none 0 0)) t') (hw : Region.wanted o (yielded ops a.tmps) = true) (hu : P.underlying t = some (.slice e))
    (hx : a.eval x = .slice ad n c) (hk : wpList P ops Q rest (a.put o.dst (.bool ad.isNone)) w) : wpList P ops Q (o :: rest) a w := by
  refine BigFrame.wpList_want hw fun K hK => ?_
  unfold Oper.wp execOp
  have hy : a.eval (.const (.slice none 0 0)) = .slice none 0 0 := rfl
  have hg : (eqGuard .eql t x (.const (.slice none 0 0)) (.slice ad n c) (.slice none 0 0)).run P w = .ok () w := by simp [eqGuard]
  simp only [ho, hx, hy, Sem.run_bind, hg, run_eql_slice_nil w t e ad n c hu, Result.andThen_ok, Sem.run_pure]
  exact hK _ _ hk

theorem run_buildSlice0 {t e z bytes : Nat} {zf : Nat → Value} (he : Elt P t e z bytes zf) (w : World) :
    (Instr.buildSlice t 0 #[]).run P w = .ok (.slice (some ⟨w.heap.size, 0, none⟩) 0 0) (w.alloc (blk 0 zf e)) := by
  have h0 : ∀ f : Nat → Value, (Array.range 0).map f = #[] := fun f => Array.ext (by simp) (by intro i _ h2; simp at h2)
  simp [Instr.buildSlice, run_underlying he.und, run_sizeOf he.siz, Instr.fill, newRow, newObj, Sem.run, blk, row, h0]
theorem wl_buildSlice0 {t e z bytes : Nat} {zf : Nat → Value} (ho : o.op = .buildSlice t 0 #[]) (hw : Region.wanted o (yielded ops a.tmps) = true) (he : Elt P t e z bytes zf) (hst : St w0 M L w)
    (hk : ∀ b w', w0.heap.size ≤ b → St w0 M ((b, blk 0 zf e) :: L) w' → wpList P ops Q rest (a.put o.dst (.slice (some ⟨b, 0, none⟩) 0 0)) w') : wpList P ops Q (o :: rest) a w := by
  refine BigFrame.wpList_want hw fun K hK => ?_
  unfold Oper.wp execOp
  simp only [ho, Sem.run_bind, List.map_toArray, List.map_nil, run_buildSlice0 he, Result.andThen_ok, Sem.run_pure]
  exact hK _ _ (hk _ _ hst.size (hst.alloc _))

theorem run_copy_st {dT sT ty e : TypeId} (hu : P.underlying dT = some (.slice e)) (hz : (P.info? e).map (·.size) = some 1) {b off n dl dc : Nat} {f : Nat → Value} {T : TypeId} {ad : Option Addr} {sl sc m : Nat} {h : Nat → Value}
    (hm : m = Nat.min sl dl) (hb : w.heap[b]? = some (blk n f T)) (hn : off + m ≤ n) (hsrc : Src w ad m h) (h1 : ∀ j, j < m → (h j).oneCell' = true) :
    (Builtin.copy_ #[dT, sT] ty #[.slice (some ⟨b, off, none⟩) dl dc, .slice ad sl sc]).run P w = .ok (nI m) (if m = 0 then w else w.setRow b (row n (blit f off m h))) := by
  by_cases c : m = 0
  · rw [if_pos c, run_copy_none w dT sT ty e _ _ dl dc sl sc hu hz (by omega), c]; rfl
  · rw [if_neg c]
    rcases hsrc with hsrc | ⟨sb, so, sn, sf, rfl, hb2, hn2, hf2⟩
    · exact absurd hsrc c
    have hl : (row m h).toList.length = m := by simp [row]
    rw [run_copy_row (P := P) w dT sT ty e b off dl dc ⟨sb, so, none⟩ sl sc _ T _ hu hz hb (by rw [hl, hm]) (Src.cells hb2 hn2 hf2) (by rw [hl]; simpa using hn) (by
      intro v hv
      simp only [row, List.mem_map, List.mem_range] at hv
      obtain ⟨j, hj, rfl⟩ := hv
      exact h1 j hj), hl, row_list hn]
    rfl
theorem wl_copy {dT sT e : TypeId} {d s : Operand} (ho : o.op = .call { callee := .builtin .copy, args := #[d, s], argTypes := #[dT, sT] }) (hw : Region.wanted o (yielded ops a.tmps) = true)
    (hu : P.underlying dT = some (.slice e)) (hz : (P.info? e).map (·.size) = some 1) {b off n dl dc : Nat} {f : Nat → Value} {T : TypeId} {ad : Option Addr} {sl sc m : Nat} {h : Nat → Value}
    (hd : a.eval d = .slice (some ⟨b, off, none⟩) dl dc) (hs : a.eval s = .slice ad sl sc) (hm : m = Nat.min sl dl) (hst : St w0 M L w) (hp : Pick L b (blk n f T) L') (hn : off + m ≤ n) (hsrc : Src w ad m h) (h1 : ∀ j, j < m → (h j).oneCell' = true)
    (hk : ∀ w', St w0 M ((b, blk n (blit f off m h) T) :: L') w' → wpList P ops Q rest (a.put o.dst (nI m)) w') : wpList P ops Q (o :: rest) a w := by
  have hf := hst.front hp
  have hr := run_copy_st (P := P) (ty := o.type) (sT := sT) (dc := dc) (sc := sc) hu hz hm (hf.own (b, blk n f T) (by simp)) hn hsrc h1
  refine BigFrame.wpList_want hw fun K hK => ?_
  unfold Oper.wp execOp
  simp only [ho, resolve, invoke, builtin, Sem.run_bind, Sem.run_pure, Result.andThen_ok, List.map_toArray, List.map_cons, List.map_nil, hd, hs, hr]
  refine hK _ _ (hk _ ?_)
  by_cases c : m = 0
  · subst c; rw [if_pos rfl, blit_none]; exact hf
  · rw [if_neg c]; exact hf.setRow _
end
end Go.Jal
