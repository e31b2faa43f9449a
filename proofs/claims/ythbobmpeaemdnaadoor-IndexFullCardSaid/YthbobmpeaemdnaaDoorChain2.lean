/- Chains: what one holds; Head, Tip, Writer, At, New. -/
import Derived.Test.YthbobmpeaemdnaaDoorSame
import Derived.Laws.Tables
namespace Go.Jal
open Go.RowKit
section
variable {P : Program}
theorem results_cellTmp {fn : Func} {p q : Tmp} {t : TypeId} {b n : Nat} {f : Nat → Value} {w : World} {tmps : Array Value} (h : fn.results = #[.cell p t, .tmp q]) (hp : tmps.getD p undef = .pointer (some ⟨b, 0, none⟩))
    (hb : Has w b n f) (ha : Agg P t n) : (results fn tmps).run P w = .ok (.tuple #[.agg (row n f), tmps.getD q undef]) w := by
  obtain ⟨d, hu, hd, hz⟩ := ha
  obtain ⟨T, fr, hb⟩ := hb
  have hp' : tmps[p]?.getD undef = .pointer (some ⟨b, 0, none⟩) := by simpa using hp
  have hl := run_loadVar_row (P := P) w b T t (row n f) fr d hb hu (by cases d <;> simp_all [TypeDesc.isRow]) (by simpa using hz)
  simp [results, h, hp', asAddr, hl]
theorem ret_cellTmp {fn : Func} {R : Ending → World → Prop} {a : Act} {w : World} {p q : Tmp} {t : TypeId} {b n : Nat} {f : Nat → Value} {u : Value} (h : fn.results = #[.cell p t, .tmp q]) (hp : a.tmps.getD p undef = .pointer (some ⟨b, 0, none⟩)) (hq : a.tmps.getD q undef = u)
    (hb : Has w b n f) (ha : Agg P t n) (hd : a.defers = []) (hR : R (.returned (.tuple #[.agg (row n f), u])) w) : bodyPost P fn R .ret a w :=
  bodyPost_ret (results_cellTmp h hp hb ha) hd (hq ▸ hR)
variable {ops : Array Oper} {Q : Exit → Act → World → Prop} {rest : List Oper} {o : Oper} {a a' : Act} {w : World}
/-- a value put together of constants and slots -/
theorem wl_buildC {t n : TypeId} {ps : List (Nat × Operand)} {vs : List (Nat × Value)} {f : Nat → Value} (hb : P.built t vs = some (row n f)) (ho : o.op = .build t ps.toArray) (hw : Region.wanted o (yielded ops a.tmps) = true)
    (hp : ps.map (fun p => (p.1, a.eval p.2)) = vs) (ha : a.put o.dst (.agg (row n f)) = a' := by (conv => lhs; simp only [Go.Jal.put_lit, Go.Jal.put_none, Go.Jal.setL]) <;> rfl) (hk : wpList P ops Q rest a' w) : wpList P ops Q (o :: rest) a w := by
  have hq : (Instr.build t vs.toArray).run P w = .ok (.agg (row n f)) w := run_build w t vs.toArray _ (by simpa using hb)
  refine BigFrame.wpList_want hw fun K hK => ?_
  unfold Oper.wp execOp
  simp only [ho, Sem.run_bind, List.map_toArray, hp, hq, Result.andThen_ok, Sem.run_pure]
  exact hK _ _ (ha ▸ hk)
end
/-- the last header's hash -/
def tipOf (hs : List Hdr) : List Nat := match hs.getLast? with
  | none => zeros 32
  | some H => hashB H
/-- a chain's cells -/
def cF (wr : Int) (hv : Value) (tip : List Nat) : Nat → Value := fun j => cond (Nat.blt j 1) (.int .i64 wr) (cond (Nat.blt j 2) hv (bF tip (j - 2)))
theorem cF_tip (wr : Int) (hv : Value) (tip : List Nat) : ∀ j, j < 32 → cF wr hv tip (2 + j) = bF tip j := fun j hj => by
  unfold cF; rw [blt_f (show 1 ≤ 2 + j by omega), blt_f (show 2 ≤ 2 + j by omega)]; simp only [cond_false]; congr 1; omega
/-- a chain readable -/
def ChainR (w : World) (bc : Nat) (wr : Int) (hs : List Hdr) : Prop :=
  ∃ hv, Has w bc 34 (cF wr hv (tipOf hs)) ∧ Hds w hv hs ∧ hs.length ≤ 1000 ∧ (∀ H ∈ hs, formed H = true) ∧ -9223372036854775808 ≤ wr ∧ wr ≤ 9223372036854775807
theorem Hds.keep {w w' : World} {L : List (Nat × Obj)} {v : Value} {hs : List Hdr} (h : Hds w v hs) (hst : St w [] L w') : Hds w' v hs := by
  obtain ⟨ad, cap, e, h1, h2, h3, h4, h5⟩ := h
  exact ⟨ad, cap, e, h1, h2, h3, h4, fun hl => let ⟨b, off, N, f, k1, k2, k3, k4⟩ := h5 hl; ⟨b, off, N, f, k1, k2.keep hst, k3, fun i H hi => let ⟨tok, t1, t2⟩ := k4 i H hi; ⟨tok, t1.keep hst, t2⟩⟩⟩
theorem ChainR.keep {w w' : World} {L : List (Nat × Obj)} {bc : Nat} {wr : Int} {hs : List Hdr} (h : ChainR w bc wr hs) (hst : St w [] L w') : ChainR w' bc wr hs :=
  let ⟨hv, h1, h2, h3⟩ := h; ⟨hv, h1.keep hst, h2.keep hst, h3⟩
end Go.Jal
namespace Go.Proofs.YthbobmpeaemdnaaDoor
open Go.RowKit Go.Jal
theorem agg92 : Agg Tryd.prog 92 34 := ⟨_, Tryd.underlying92, rfl, by kernel_rfl⟩
theorem fld92_0 : Fld Tryd.prog 92 0 0 := ⟨_, _, Tryd.underlying92, rfl, rfl, 0, by kernel_rfl⟩
theorem fld92_1 : Fld Tryd.prog 92 1 1 := ⟨_, _, Tryd.underlying92, rfl, rfl, 0, by kernel_rfl⟩
theorem fld92_2 : Fld Tryd.prog 92 2 2 := ⟨_, _, Tryd.underlying92, rfl, rfl, 31, by kernel_rfl⟩
set_option maxRecDepth 100000 in
theorem head_any (bc : Nat) (wr : Int) (hs : List Hdr) (w : World) (h : ChainR w bc wr hs) : Ret Tryd.prog 33 #[.pointer (some ⟨bc, 0, none⟩)] w fun v' w' => v' = .int .u64 (hs.length : Int) ∧ w = w' := by
  obtain ⟨hv, hB, hH, hl, _⟩ := h
  obtain ⟨ad, cap, rfl, _⟩ := hH
  have hst := St.refl w
  go_enter Tryd.func33, Tryd.ntmps33
  go_wp2_with (first
      | ((with_reducible refine at_d 5 ?_); go_loud (refine wl_fld (r := 1) fld92_1 rfl rfl rfl rfl (hk := ?_)))
      | ((with_reducible refine at_d 6 ?_); go_loud (refine wl_load1v rfl rfl rfl (hs := sc90) (hk := ?_))))
  go_ret
  exact ⟨_, rfl, rfl, rfl⟩
set_option maxRecDepth 100000 in
theorem at_no (bc x : Nat) (wr : Int) (hs : List Hdr) (w : World) (h : ChainR w bc wr hs) (hx : x < 18446744073709551616) (hno : x < 1 ∨ hs.length < x) :
    Ret Tryd.prog 34 #[.pointer (some ⟨bc, 0, none⟩), .int .u64 (x : Int)] w fun v' w' => v' = .tuple #[.agg (row 125 (hF zH (.slice none 0 0))), .bool false] ∧ St w [] [] w' := by
  have HC : Hid (∀ w', St w [] [] w' → ChainR w' bc wr hs) := by show ∀ _, _; exact fun w' h' => h.keep h'
  have hb : Tryd.prog.built 34 [] = some (row 125 (hF zH (.slice none 0 0))) := by kernel_rfl
  have HB := Lib.hid hb
  clear h hb
  go_enter Tryd.func34, Tryd.ntmps34
  have hst := St.refl w
  rcases hno with hno | hno
  · go_wp2_with (first
      | go_skip
      | ((with_reducible refine at_d 4 ?_); go_loud (refine wl_alloc rfl rfl hst zer34 ?_; clear hst; intro b4 w4 hb4 hst))
      | ((with_reducible refine at_d 7 ?_); go_loud (refine wl_cmp (p := (x : Int)) (q := 1) (by first | exact decide_eq_true (by omega) | exact decide_eq_false (by omega)) rfl rfl rfl rfl rfl (hk := ?_)))
      | ((with_reducible refine at_d 11 ?_); (go_outline; fail "call 33"))
      | ((with_reducible refine at_d 14 ?_); go_loud (refine wl_buildC (f := hF zH (.slice none 0 0)) HB.out rfl rfl rfl (hk := ?_)))
      | ((with_reducible refine at_n (.store 34 (.tmp 4) (.tmp 14)) ?_); go_loud (refine wl_storeAll rfl rfl rfl rfl hst Pick.head agg34 (fun j _ => hF_one zH _ rfl j) (hk := ?_); intro w1 hst1; clear hst; have hst := hst1; clear hst1)))
    exact ret_cellTmp rfl rfl rfl (St.hasb hst Pick.head) agg34 rfl ⟨_, rfl, rfl, hst.none⟩
  · by_cases h1 : x < 1
    · go_wp2_with (first
      | go_skip
      | ((with_reducible refine at_d 4 ?_); go_loud (refine wl_alloc rfl rfl hst zer34 ?_; clear hst; intro b4 w4 hb4 hst))
      | ((with_reducible refine at_d 7 ?_); go_loud (refine wl_cmp (p := (x : Int)) (q := 1) (by first | exact decide_eq_true (by omega) | exact decide_eq_false (by omega)) rfl rfl rfl rfl rfl (hk := ?_)))
      | ((with_reducible refine at_d 11 ?_); (go_outline; fail "call 33"))
      | ((with_reducible refine at_d 14 ?_); go_loud (refine wl_buildC (f := hF zH (.slice none 0 0)) HB.out rfl rfl rfl (hk := ?_)))
      | ((with_reducible refine at_n (.store 34 (.tmp 4) (.tmp 14)) ?_); go_loud (refine wl_storeAll rfl rfl rfl rfl hst Pick.head agg34 (fun j _ => hF_one zH _ rfl j) (hk := ?_); intro w1 hst1; clear hst; have hst := hst1; clear hst1)))
      exact ret_cellTmp rfl rfl rfl (St.hasb hst Pick.head) agg34 rfl ⟨_, rfl, rfl, hst.none⟩
    · go_wp2_with (first
      | go_skip
      | ((with_reducible refine at_d 4 ?_); go_loud (refine wl_alloc rfl rfl hst zer34 ?_; clear hst; intro b4 w4 hb4 hst))
      | ((with_reducible refine at_d 7 ?_); go_loud (refine wl_cmp (p := (x : Int)) (q := 1) (by first | exact decide_eq_true (by omega) | exact decide_eq_false (by omega)) rfl rfl rfl rfl rfl (hk := ?_)))
      | ((with_reducible refine at_d 11 ?_); (refine wl_call pl33 rfl rfl rfl (head_any bc wr hs _ (HC.out _ hst.none)) ?_; rintro v11 w11 ⟨rfl, rfl⟩))
      | ((with_reducible refine at_d 12 ?_); (refine wl_cmp (p := (x : Int)) (q := (hs.length : Int)) (by first | exact decide_eq_true (by omega) | exact decide_eq_false (by omega)) rfl rfl rfl rfl rfl (hk := ?_)))
      | ((with_reducible refine at_d 14 ?_); go_loud (refine wl_buildC (f := hF zH (.slice none 0 0)) HB.out rfl rfl rfl (hk := ?_)))
      | ((with_reducible refine at_n (.store 34 (.tmp 4) (.tmp 14)) ?_); go_loud (refine wl_storeAll rfl rfl rfl rfl hst Pick.head agg34 (fun j _ => hF_one zH _ rfl j) (hk := ?_); intro w1 hst1; clear hst; have hst := hst1; clear hst1)))
      exact ret_cellTmp rfl rfl rfl (St.hasb hst Pick.head) agg34 rfl ⟨_, rfl, rfl, hst.none⟩
theorem Hds.get {w : World} {ad : Option Addr} {n c : Nat} {hs : List Hdr} (h : Hds w (.slice ad n c) hs) {m : Nat} {H : Hdr} (hm : hs[m]? = some H) :
    ∃ b off N f tok, ad = some ⟨b, off, none⟩ ∧ Has w b N f ∧ off + 125 * hs.length ≤ N ∧ m < hs.length ∧ n = hs.length ∧ H.Ok ∧ Toks w tok H.toks ∧ ∀ j, j < 125 → f (off + 125 * m + j) = hF H tok j := by
  obtain ⟨ad', cap, e, h1, h2, h3, h4, h5⟩ := h
  simp only [Value.slice.injEq] at e
  obtain ⟨rfl, rfl, rfl⟩ := e
  have hlt : m < hs.length := (List.getElem?_eq_some_iff.1 hm).1
  obtain ⟨b, off, N, f, k1, k2, k3, k4⟩ := h5 (by intro e; subst e; simp at hlt)
  obtain ⟨tok, t1, t2⟩ := k4 m H hm
  exact ⟨b, off, N, f, tok, k1, k2, k3, hlt, rfl, h3 H (List.mem_of_getElem? hm), t1, t2⟩
set_option maxRecDepth 100000 in
theorem at_yes (bc m : Nat) (wr : Int) (hs : List Hdr) (H : Hdr) (w : World) (h : ChainR w bc wr hs) (hm : hs[m]? = some H) :
    Ret Tryd.prog 34 #[.pointer (some ⟨bc, 0, none⟩), .int .u64 ((m : Int) + 1)] w fun v' w' => ∃ tok E', v' = .tuple #[.agg (row 125 (hF H tok)), .bool true] ∧ Own 16 30 tok H.toks.length (bF H.toks.flatten) E' ∧ St w [] E' w' := by
  have HC : Hid (∀ w', St w [] [] w' → ChainR w' bc wr hs) := by show ∀ _, _; exact fun w' h' => h.keep h'
  obtain ⟨hv, hB, hH, hl, hf, _⟩ := h
  obtain ⟨ad, cap, rfl, _⟩ := id hH
  obtain ⟨b, off, N, f, tok, rfl, hN, hbd, hlt, _, hok, ht, hcell⟩ := Hds.get hH hm
  have HA := Lib.hid hcell
  have HT : Hid (∀ w', St w [] [] w' → Toks w' tok H.toks) := by show ∀ _, _; exact fun w' h' => ht.keep h'
  have h8 : H.toks.length ≤ 1000000 := by
    have := (formed_nat (hf H (List.mem_of_getElem? hm))).2.2.2.2.2.2.1
    omega
  clear hcell ht hH hf hm
  go_enter Tryd.func34, Tryd.ntmps34
  have hst := St.refl w
  go_wp2_with (first
      | go_skip
      | ((with_reducible refine at_d 4 ?_); go_loud (refine wl_alloc rfl rfl hst zer34 ?_; clear hst; intro b4 w4 hb4 hst))
      | ((with_reducible refine at_d 7 ?_); go_loud (refine wl_cmp (p := (m : Int) + 1) (q := 1) (by first | exact decide_eq_true (by omega) | exact decide_eq_false (by omega)) rfl rfl rfl rfl rfl (hk := ?_)))
      | ((with_reducible refine at_d 11 ?_); (refine wl_call pl33 rfl rfl rfl (head_any bc wr hs _ (HC.out _ hst.none)) ?_; rintro v11 w11 ⟨rfl, rfl⟩))
      | ((with_reducible refine at_d 12 ?_); (refine wl_cmp (p := (m : Int) + 1) (q := (hs.length : Int)) (by first | exact decide_eq_true (by omega) | exact decide_eq_false (by omega)) rfl rfl rfl rfl rfl (hk := ?_)))
      | ((with_reducible refine at_d 17 ?_); go_loud (refine wl_fld (r := 1) fld92_1 rfl rfl rfl rfl (hk := ?_)))
      | ((with_reducible refine at_d 18 ?_); go_loud (refine wl_load1v rfl rfl rfl (hs := sc90) (hk := ?_)))
      | ((with_reducible refine at_d 20 ?_); go_loud (refine wl_ari (p := (m : Int) + 1) (q := 1) (r := (m : Int)) (k := .u64) (by simp only [ariI] <;> omega) (by show _ ∧ _; omega) rfl rfl rfl rfl rfl (hk := ?_)))
      | ((with_reducible refine at_d 21 ?_); go_loud (refine wl_idx (i := m) Tryd.underlying90 siz34 (by omega) rfl rfl rfl rfl (hk := ?_)))
      | ((with_reducible refine at_d 22 ?_); go_loud (refine wl_loadP rfl rfl rfl (by first | exact St.hasb hst (by repeat (first | exact Pick.head | apply Pick.tail)) | exact St.hasOld hst (by assumption) (by simp) | assumption) agg34 (by omega) HA.out (hk := ?_)))
      | ((with_reducible refine at_d 23 ?_); go_loud (refine wl_call pl49 rfl rfl rfl (copied_any H _ _ (HT.out _ hst.none) h8) ?_; rintro v23 w23 ⟨t23, E23, rfl, hown23, hst23⟩; have hst0 := (hst.call hst23).perm List.perm_append_comm; clear hst hst23; have hst := hst0; clear hst0; have hown := hown23; obtain ⟨ad23, c23, rfl, _⟩ := hown23.slice))
      | ((with_reducible refine at_n (.store 34 (.tmp 4) (.tmp 23)) ?_); go_loud (refine wl_storeAll rfl rfl rfl rfl hst Pick.head agg34 (fun j _ => hF_one H _ rfl j) (hk := ?_); intro w1 hst1; clear hst; have hst := hst1; clear hst1)))
  exact ret_cellTmp rfl rfl rfl (St.hasb hst Pick.head) agg34 rfl ⟨_, rfl, .slice ad23 H.toks.length c23, rfl, E23, hown, hst.sub (List.Sublist.cons _ (List.Sublist.refl _))⟩
end Go.Proofs.YthbobmpeaemdnaaDoor
