/- The walks of slices.Equal of tokens and entry.Same. -/
import Derived.Test.YthbobmpeaemdnaaDoorEqK
import Derived.Test.YthbobmpeaemdnaaDoorChain1
namespace Go.Jal
open Go.RowKit
instance : DecidableEq Hdr := fun a b =>
  if h : a.writer = b.writer ∧ a.seq = b.seq ∧ a.prev = b.prev ∧ a.epoch = b.epoch ∧ a.control = b.control ∧ a.time = b.time ∧ a.item = b.item ∧ a.toks = b.toks ∧ a.knows = b.knows ∧ a.sum = b.sum ∧ a.size = b.size ∧ a.code = b.code then
    isTrue (by
      obtain ⟨a1, a2, a3, a4, a5, a6, a7, a8, a9, a10, a11, a12⟩ := a
      obtain ⟨b1, b2, b3, b4, b5, b6, b7, b8, b9, b10, b11, b12⟩ := b
      simp only at h
      obtain ⟨rfl, rfl, rfl, rfl, rfl, rfl, rfl, rfl, rfl, rfl, rfl, rfl⟩ := h
      rfl)
  else isFalse fun e => h (by subst e; simp)
section
variable {P : Program} {ops : Array Oper} {Q : Exit → Act → World → Prop} {rest : List Oper} {o : Oper} {a a' : Act} {w : World}
theorem wl_eqBool {t t' : TypeId} {x y : Operand} {p q r : Bool} (hr : decide (p = q) = r) (ho : o.op = .binOp .eql t x y t') (hw : Region.wanted o (yielded ops a.tmps) = true)
    (hx : a.eval x = .bool p) (hy : a.eval y = .bool q) (ht : P.underlying t = some .bool := by assumption) (ha : a.put o.dst (.bool r) = a' := by (conv => lhs; simp only [Go.Jal.put_lit, Go.Jal.put_none, Go.Jal.setL]) <;> rfl) (hk : wpList P ops Q rest a' w) : wpList P ops Q (o :: rest) a w := by
  refine BigFrame.wpList_want hw fun K hK => ?_
  have hq : (do eqGuard .eql t x y (.bool p) (.bool q); binOp .eql t (.bool p) (.bool q) : Sem Value).run P w = .ok (.bool r) w := by
    have := run_equalIn_bool' (P := P) w 9999 t p q ht
    subst hr
    simp [eqGuard, binOp, Op.equal, Op.maxDepth, this]
    cases p <;> cases q <;> rfl
  unfold Oper.wp execOp
  simp only [Sem.run_bind] at hq
  simp only [ho, hx, hy, Sem.run_bind, hq, Result.andThen_ok, Sem.run_pure]
  exact hK _ _ (ha ▸ hk)
end
end Go.Jal
namespace Go.Proofs.YthbobmpeaemdnaaDoor
open Go.RowKit Go.Jal
theorem toks_at {ts : List (List Nat)} (h : ∀ t ∈ ts, isB 16 t) {k : Nat} (hk : k < ts.length) : isB 16 (ts.getD k []) := by
  rw [List.getD_eq_getElem?_getD, List.getElem?_eq_getElem hk]; exact h _ (List.getElem_mem _)
theorem list_eq_at {ts us : List (List Nat)} (hl : ts.length = us.length) (h : ∀ j, j < ts.length → ts.getD j [] = us.getD j []) : ts = us := by
  refine List.ext_getElem hl fun i h1 h2 => ?_
  have := h i h1
  simpa [List.getD_eq_getElem?_getD, h1, h2] using this
set_option maxRecDepth 100000 in
theorem sequal_any (v v' : Value) (ts us : List (List Nat)) (w : World) (h : Toks w v ts) (h' : Toks w v' us) : Ret Tryd.prog 84 #[v, v'] w fun u w' => u = .bool (decide (ts = us)) ∧ St w [] [] w' := by
  obtain ⟨ad, c, rfl, hcap, hcm, h16, hnil, hc⟩ := h
  obtain ⟨bd, d, rfl, hcap', hcm', h16', hnil', hc'⟩ := h'
  unfold maxLen at hcm hcm'
  by_cases hl : ts.length = us.length
  · have H16 := Lib.hid h16
    have H16' := Lib.hid h16'
    go_enter Tryd.func84, Tryd.ntmps84
    have HLL := Lib.hid hl
    have hl1 : ts.length ≤ us.length := by omega
    have hl2 : us.length ≤ ts.length := by omega
    have hst := St.refl w
    clear hl
    go_wp2_with (first
      | ((with_reducible refine at_d 10 ?_); go_loud (refine wl_cmp (p := (ts.length : Int)) (q := (us.length : Int)) (r := false) (by simp [cmpI] <;> omega) rfl rfl rfl rfl rfl (hk := ?_))))
    go_loopw [13] (fun i wr => ∃ k : Nat, k ≤ ts.length ∧ i = .int .i64 (k : Int) ∧ (∀ j, j < k → ts.getD j [] = us.getD j []) ∧ St w [] [] wr) (fun i _ => ts.length - (intOf i).toNat)
    case atStart => exact ⟨0, by omega, rfl, fun j hj => by omega, hst⟩
    case round =>
      clear hst
      obtain ⟨k, hk, rfl, he, hst⟩ := hrel
      by_cases hkl : k < ts.length
      · have hkl' : k < us.length := by omega
        obtain ⟨b, off, N, f, rfl, hH, hN, hf⟩ := hc (by intro e; subst e; simp at hkl)
        obtain ⟨b', off', N', f', rfl, hH', hN', hf'⟩ := hc' (by intro e; subst e; simp at hkl')
        have HA := Lib.hid (tok_cells h16 hkl hf)
        have HB := Lib.hid (tok_cells h16' hkl' hf')
        have IA := Lib.hid (toks_at h16 hkl)
        have IB := Lib.hid (toks_at h16' hkl')
        obtain ⟨x, hx⟩ : ∃ x, x = ts.getD k [] := ⟨_, rfl⟩
        obtain ⟨y, hy⟩ : ∃ y, y = us.getD k [] := ⟨_, rfl⟩
        by_cases hxy : x = y
        · have HE : Hid (∀ j, j < k + 1 → ts.getD j [] = us.getD j []) := by
            show ∀ j, _
            intro j hj
            by_cases c : j < k
            · exact he j c
            · obtain rfl : j = k := by omega
              rw [← hx, ← hy, hxy]
          have HXY := Lib.hid hxy
          rw [← hx] at HA IA
          rw [← hy] at HB IB
          clear hxy he hx hy hf hf' hc hc' h16 h16' hnil hnil'
          go_wp2_with (fail)
          refine rg_start (St w [] []) mixed (hst.drew) ?_
          refine rg_take [0, 1, 2, 3, 4, 5, 6, 7, 8] 0 _ rfl (by kernel_rfl) (by kernel_rfl) rfl (cls_st _ _ _) (fun _ _ _ _ _ h => h) ?_
          refine tk_wp (hk := ?_)
          refine tk_wp (hk := ?_)
          refine tk_idx (i := k) Tryd.underlying31 siz30 (by omega) rfl rfl rfl rfl rfl (hk := ?_)
          refine tk_loadP rfl rfl (by rfl) rfl (fun w hst => (by first | exact St.hasb hst (by repeat (first | exact Pick.head | apply Pick.tail)) | exact St.hasOld hst (by assumption) (by simp) | assumption)) agg30 (by omega) HA.out (hk := ?_)
          refine tk_wp (hk := ?_)
          refine tk_wp (hk := ?_)
          refine tk_idx (i := k) Tryd.underlying31 siz30 (by omega) rfl rfl rfl rfl rfl (hk := ?_)
          refine tk_loadP rfl rfl (by rfl) rfl (fun w hst => (by first | exact St.hasb hst (by repeat (first | exact Pick.head | apply Pick.tail)) | exact St.hasOld hst (by assumption) (by simp) | assumption)) agg30 (by omega) HB.out (hk := ?_)
          refine tk_neB rfl rfl rfl eqb30 rfl rfl IA.out.1 IB.out.1 IA.out.2 IB.out.2 (r := false) (by rw [HXY.out]; simp) (hk := ?_)
          refine tk_nil ?_
          refine rg_done (by kernel_rfl) (fun w1 hst1 => ?_) _
          clear hst; have hst := hst1; clear hst1
          go_wp2_with (fail)
          go_roundw
          case rel => exact ⟨k + 1, by omega, by go_num, HE.out, hst⟩
          case measure => simp [intOf]; omega
        · have hno : decide (ts = us) = false := decide_eq_false fun e => hxy (by rw [hx, hy, e])
          have HNO := Lib.hid hno
          have HXY := Lib.hid hxy
          rw [← hx] at HA IA
          rw [← hy] at HB IB
          clear hxy he hx hy hf hf' hc hc' h16 h16' hnil hnil' hno
          go_wp2_with (fail)
          refine rg_start (St w [] []) mixed (hst.drew) ?_
          refine rg_take [0, 1, 2, 3, 4, 5, 6, 7, 8] 0 _ rfl (by kernel_rfl) (by kernel_rfl) rfl (cls_st _ _ _) (fun _ _ _ _ _ h => h) ?_
          refine tk_wp (hk := ?_)
          refine tk_wp (hk := ?_)
          refine tk_idx (i := k) Tryd.underlying31 siz30 (by omega) rfl rfl rfl rfl rfl (hk := ?_)
          refine tk_loadP rfl rfl (by rfl) rfl (fun w hst => (by first | exact St.hasb hst (by repeat (first | exact Pick.head | apply Pick.tail)) | exact St.hasOld hst (by assumption) (by simp) | assumption)) agg30 (by omega) HA.out (hk := ?_)
          refine tk_wp (hk := ?_)
          refine tk_wp (hk := ?_)
          refine tk_idx (i := k) Tryd.underlying31 siz30 (by omega) rfl rfl rfl rfl rfl (hk := ?_)
          refine tk_loadP rfl rfl (by rfl) rfl (fun w hst => (by first | exact St.hasb hst (by repeat (first | exact Pick.head | apply Pick.tail)) | exact St.hasOld hst (by assumption) (by simp) | assumption)) agg30 (by omega) HB.out (hk := ?_)
          refine tk_neB rfl rfl rfl eqb30 rfl rfl IA.out.1 IB.out.1 IA.out.2 IB.out.2 (r := true) (decide_eq_true HXY.out) (hk := ?_)
          refine tk_nil ?_
          refine rg_done (by kernel_rfl) (fun w1 hst1 => ?_) _
          clear hst; have hst := hst1; clear hst1
          go_wp2_with (fail)
          go_ret
          exact ⟨_, rfl, by rw [HNO.out]; rfl, hst⟩
      · obtain rfl : k = ts.length := by omega
        have hyes : decide (ts = us) = true := decide_eq_true (list_eq_at HLL.out he)
        have HY := Lib.hid hyes
        clear hyes he
        go_wp2_with (fail)
        go_ret
        exact ⟨_, rfl, by rw [HY.out]; rfl, hst⟩
  · have hno : decide (ts = us) = false := decide_eq_false fun e => hl (by rw [e])
    have HNO := Lib.hid hno
    clear hno
    go_enter Tryd.func84, Tryd.ntmps84
    have hst := St.refl w
    go_wp2_with (first
      | ((with_reducible refine at_d 10 ?_); go_loud (refine wl_cmp (p := (ts.length : Int)) (q := (us.length : Int)) (r := true) (by simp [cmpI] <;> omega) rfl rfl rfl rfl rfl (hk := ?_))))
    go_ret
    exact ⟨_, rfl, by rw [HNO.out]; rfl, hst⟩
set_option maxRecDepth 100000 in
set_option maxHeartbeats 8000000 in
theorem same_any (H G : Hdr) (tH tG : Value) (w : World) (hH : H.Ok) (hG : G.Ok) (htH : Toks w tH H.toks) (htG : Toks w tG G.toks) : Ret Tryd.prog 71 #[.agg (row 125 (hF H tH)), .agg (row 125 (hF G tG))] w fun v' w' => v' = .bool (decide (H = G)) ∧ St w [] [] w' := by
  obtain ⟨ad, cap, rfl, _⟩ := id htH
  obtain ⟨bd, bap, rfl, _⟩ := id htG
  have HTH : Hid (∀ w', St w [] [] w' → Toks w' (.slice ad H.toks.length cap) H.toks) := by show ∀ _, _; exact fun w' h' => htH.keep h'
  have HTG : Hid (∀ w', St w [] [] w' → Toks w' (.slice bd G.toks.length bap) G.toks) := by show ∀ _, _; exact fun w' h' => htG.keep h'
  clear htH htG
  go_enter Tryd.func71, Tryd.ntmps71
  simp only [List.append_eq, List.cons_append, List.nil_append]
  have hst := St.refl w
  by_cases ct : ¬ (H.toks = G.toks)
  · have HEQ : Hid (decide (H.toks = G.toks) = false) := decide_eq_false ct
    have HFF : Hid (decide (H = G) = false) := decide_eq_false fun e => ct (by rw [e])
    clear ct
    go_wp2_with (first
      | ((with_reducible refine at_d 2 ?_); go_loud (refine wl_box rfl rfl rfl (by first | rfl | exact row_one _) hst ?_; clear hst; intro b2 w2 hb2 hst))
      | ((with_reducible refine at_d 3 ?_); go_loud (refine wl_box rfl rfl rfl (by first | rfl | exact row_one _) hst ?_; clear hst; intro b3 w3 hb3 hst))
      | ((with_reducible refine at_d 5 ?_); go_loud (refine wl_fld (r := 53) fld34_7 rfl rfl rfl rfl (hk := ?_)))
      | ((with_reducible refine at_d 6 ?_); go_loud (refine wl_load1v rfl rfl rfl (hs := sc31) (hk := ?_)))
      | ((with_reducible refine at_d 7 ?_); go_loud (refine wl_fld (r := 53) fld34_7 rfl rfl rfl rfl (hk := ?_)))
      | ((with_reducible refine at_d 8 ?_); go_loud (refine wl_load1v rfl rfl rfl (hs := sc31) (hk := ?_)))
      | ((with_reducible refine at_d 9 ?_); go_loud (refine wl_call pl84 rfl rfl rfl (sequal_any _ _ H.toks G.toks _ (HTH.out _ hst.none) (HTG.out _ hst.none)) ?_; rintro v9 w9 ⟨rfl, hst9⟩; replace hst := hst.call hst9; clear hst9; rw [HEQ.out])))
    go_ret
    exact ⟨_, rfl, by rw [HFF.out]; rfl, hst.none⟩
  replace ct := Decidable.not_not.1 ct
  have HEQ : Hid (decide (H.toks = G.toks) = true) := decide_eq_true ct
  have CT := Lib.hid ct
  clear ct
  by_cases c0 : ¬ (H.writer = G.writer)
  · have E0 := Lib.hid c0
    have HFF : Hid (decide (H = G) = false) := by
      show _ = _
      exact decide_eq_false fun e => c0 (by rw [e])
    clear c0
    go_wp2_with (first
      | go_skip
      | ((with_reducible refine at_d 2 ?_); go_loud (refine wl_box rfl rfl rfl (by first | rfl | exact row_one _) hst ?_; clear hst; intro b2 w2 hb2 hst))
      | ((with_reducible refine at_d 3 ?_); go_loud (refine wl_box rfl rfl rfl (by first | rfl | exact row_one _) hst ?_; clear hst; intro b3 w3 hb3 hst))
      | ((with_reducible refine at_d 5 ?_); go_loud (refine wl_fld (r := 53) fld34_7 rfl rfl rfl rfl (hk := ?_)))
      | ((with_reducible refine at_d 6 ?_); go_loud (refine wl_load1v rfl rfl rfl (hs := sc31) (hk := ?_)))
      | ((with_reducible refine at_d 7 ?_); go_loud (refine wl_fld (r := 53) fld34_7 rfl rfl rfl rfl (hk := ?_)))
      | ((with_reducible refine at_d 8 ?_); go_loud (refine wl_load1v rfl rfl rfl (hs := sc31) (hk := ?_)))
      | ((with_reducible refine at_d 9 ?_); go_loud (refine wl_call pl84 rfl rfl rfl (sequal_any _ _ H.toks G.toks _ (HTH.out _ hst.none) (HTG.out _ hst.none)) ?_; rintro v9 w9 ⟨rfl, hst9⟩; replace hst := hst.call hst9; clear hst9; rw [HEQ.out]))
      | ((with_reducible refine at_d 11 ?_); go_loud (refine wl_fld (r := 0) fld34_0 rfl rfl rfl rfl (hk := ?_)))
      | ((with_reducible refine at_d 12 ?_); go_loud (refine wl_load1v rfl rfl rfl (hs := sc3) (hk := ?_)))
      | ((with_reducible refine at_d 13 ?_); go_loud (refine wl_fld (r := 0) fld34_0 rfl rfl rfl rfl (hk := ?_)))
      | ((with_reducible refine at_d 14 ?_); go_loud (refine wl_load1v rfl rfl rfl (hs := sc3) (hk := ?_)))
      | ((with_reducible refine at_d 15 ?_); go_loud (refine wl_cmp (b := .eql) (p := H.writer) (q := G.writer) (r := false) (by show decide (H.writer = G.writer) = false; exact (decide_eq_false E0.out)) rfl rfl rfl rfl rfl (hk := ?_))))
    go_ret
    exact ⟨_, rfl, by rw [HFF.out]; rfl, hst.none⟩
  replace c0 := Decidable.not_not.1 c0
  have E0 := Lib.hid c0
  by_cases c1 : ¬ ((H.seq : Int) = (G.seq : Int))
  · have E1 := Lib.hid c1
    have HFF : Hid (decide (H = G) = false) := by
      show _ = _
      exact decide_eq_false fun e => c1 (by rw [e])
    clear c1
    go_wp2_with (first
      | go_skip
      | ((with_reducible refine at_d 2 ?_); go_loud (refine wl_box rfl rfl rfl (by first | rfl | exact row_one _) hst ?_; clear hst; intro b2 w2 hb2 hst))
      | ((with_reducible refine at_d 3 ?_); go_loud (refine wl_box rfl rfl rfl (by first | rfl | exact row_one _) hst ?_; clear hst; intro b3 w3 hb3 hst))
      | ((with_reducible refine at_d 5 ?_); go_loud (refine wl_fld (r := 53) fld34_7 rfl rfl rfl rfl (hk := ?_)))
      | ((with_reducible refine at_d 6 ?_); go_loud (refine wl_load1v rfl rfl rfl (hs := sc31) (hk := ?_)))
      | ((with_reducible refine at_d 7 ?_); go_loud (refine wl_fld (r := 53) fld34_7 rfl rfl rfl rfl (hk := ?_)))
      | ((with_reducible refine at_d 8 ?_); go_loud (refine wl_load1v rfl rfl rfl (hs := sc31) (hk := ?_)))
      | ((with_reducible refine at_d 9 ?_); go_loud (refine wl_call pl84 rfl rfl rfl (sequal_any _ _ H.toks G.toks _ (HTH.out _ hst.none) (HTG.out _ hst.none)) ?_; rintro v9 w9 ⟨rfl, hst9⟩; replace hst := hst.call hst9; clear hst9; rw [HEQ.out]))
      | ((with_reducible refine at_d 11 ?_); go_loud (refine wl_fld (r := 0) fld34_0 rfl rfl rfl rfl (hk := ?_)))
      | ((with_reducible refine at_d 12 ?_); go_loud (refine wl_load1v rfl rfl rfl (hs := sc3) (hk := ?_)))
      | ((with_reducible refine at_d 13 ?_); go_loud (refine wl_fld (r := 0) fld34_0 rfl rfl rfl rfl (hk := ?_)))
      | ((with_reducible refine at_d 14 ?_); go_loud (refine wl_load1v rfl rfl rfl (hs := sc3) (hk := ?_)))
      | ((with_reducible refine at_d 15 ?_); go_loud (refine wl_cmp (b := .eql) (p := H.writer) (q := G.writer) (r := true) (by show decide (H.writer = G.writer) = true; exact (decide_eq_true E0.out)) rfl rfl rfl rfl rfl (hk := ?_)))
      | ((with_reducible refine at_d 17 ?_); (refine wl_fld (r := 1) fld34_1 rfl rfl rfl rfl (hk := ?_)))
      | ((with_reducible refine at_d 18 ?_); (refine wl_load1v rfl rfl rfl (hs := sc26) (hk := ?_)))
      | ((with_reducible refine at_d 19 ?_); (refine wl_fld (r := 1) fld34_1 rfl rfl rfl rfl (hk := ?_)))
      | ((with_reducible refine at_d 20 ?_); (refine wl_load1v rfl rfl rfl (hs := sc26) (hk := ?_)))
      | ((with_reducible refine at_d 21 ?_); (refine wl_cmp (b := .eql) (p := (H.seq : Int)) (q := (G.seq : Int)) (r := false) (by show decide ((H.seq : Int) = (G.seq : Int)) = false; exact (decide_eq_false E1.out)) rfl rfl rfl rfl rfl (hk := ?_))))
    go_ret
    exact ⟨_, rfl, by rw [HFF.out]; rfl, hst.none⟩
  replace c1 := Decidable.not_not.1 c1
  have E1 := Lib.hid c1
  by_cases c2 : ¬ (H.prev = G.prev)
  · have E2 := Lib.hid c2
    have HFF : Hid (decide (H = G) = false) := by
      show _ = _
      exact decide_eq_false fun e => c2 (by rw [e])
    clear c2
    go_wp2_with (first
      | go_skip
      | ((with_reducible refine at_d 2 ?_); go_loud (refine wl_box rfl rfl rfl (by first | rfl | exact row_one _) hst ?_; clear hst; intro b2 w2 hb2 hst))
      | ((with_reducible refine at_d 3 ?_); go_loud (refine wl_box rfl rfl rfl (by first | rfl | exact row_one _) hst ?_; clear hst; intro b3 w3 hb3 hst))
      | ((with_reducible refine at_d 5 ?_); go_loud (refine wl_fld (r := 53) fld34_7 rfl rfl rfl rfl (hk := ?_)))
      | ((with_reducible refine at_d 6 ?_); go_loud (refine wl_load1v rfl rfl rfl (hs := sc31) (hk := ?_)))
      | ((with_reducible refine at_d 7 ?_); go_loud (refine wl_fld (r := 53) fld34_7 rfl rfl rfl rfl (hk := ?_)))
      | ((with_reducible refine at_d 8 ?_); go_loud (refine wl_load1v rfl rfl rfl (hs := sc31) (hk := ?_)))
      | ((with_reducible refine at_d 9 ?_); go_loud (refine wl_call pl84 rfl rfl rfl (sequal_any _ _ H.toks G.toks _ (HTH.out _ hst.none) (HTG.out _ hst.none)) ?_; rintro v9 w9 ⟨rfl, hst9⟩; replace hst := hst.call hst9; clear hst9; rw [HEQ.out]))
      | ((with_reducible refine at_d 11 ?_); go_loud (refine wl_fld (r := 0) fld34_0 rfl rfl rfl rfl (hk := ?_)))
      | ((with_reducible refine at_d 12 ?_); go_loud (refine wl_load1v rfl rfl rfl (hs := sc3) (hk := ?_)))
      | ((with_reducible refine at_d 13 ?_); go_loud (refine wl_fld (r := 0) fld34_0 rfl rfl rfl rfl (hk := ?_)))
      | ((with_reducible refine at_d 14 ?_); go_loud (refine wl_load1v rfl rfl rfl (hs := sc3) (hk := ?_)))
      | ((with_reducible refine at_d 15 ?_); go_loud (refine wl_cmp (b := .eql) (p := H.writer) (q := G.writer) (r := true) (by show decide (H.writer = G.writer) = true; exact (decide_eq_true E0.out)) rfl rfl rfl rfl rfl (hk := ?_)))
      | ((with_reducible refine at_d 17 ?_); (refine wl_fld (r := 1) fld34_1 rfl rfl rfl rfl (hk := ?_)))
      | ((with_reducible refine at_d 18 ?_); (refine wl_load1v rfl rfl rfl (hs := sc26) (hk := ?_)))
      | ((with_reducible refine at_d 19 ?_); (refine wl_fld (r := 1) fld34_1 rfl rfl rfl rfl (hk := ?_)))
      | ((with_reducible refine at_d 20 ?_); (refine wl_load1v rfl rfl rfl (hs := sc26) (hk := ?_)))
      | ((with_reducible refine at_d 21 ?_); (refine wl_cmp (b := .eql) (p := (H.seq : Int)) (q := (G.seq : Int)) (r := true) (by show decide ((H.seq : Int) = (G.seq : Int)) = true; exact (decide_eq_true E1.out)) rfl rfl rfl rfl rfl (hk := ?_)))
      | ((with_reducible refine at_d 24 ?_); (refine wl_fld (r := 2) fld34_2 rfl rfl rfl rfl (hk := ?_)))
      | ((with_reducible refine at_d 25 ?_); (refine wl_loadP rfl rfl rfl (hs := agg28) (hv := (by first | exact hF_prev _ _ | exact hF_item _ _ | exact hF_knows _ _ | exact hF_sum _ _ | exact hF_code _ _)) (hk := ?_)))
      | ((with_reducible refine at_d 26 ?_); (refine wl_fld (r := 2) fld34_2 rfl rfl rfl rfl (hk := ?_)))
      | ((with_reducible refine at_d 27 ?_); (refine wl_loadP rfl rfl rfl (hs := agg28) (hv := (by first | exact hF_prev _ _ | exact hF_item _ _ | exact hF_knows _ _ | exact hF_sum _ _ | exact hF_code _ _)) (hk := ?_)))
      | ((with_reducible refine at_d 28 ?_); (refine wl_eqB rfl rfl eqb28 rfl rfl hH.prev.1 hG.prev.1 hH.prev.2 hG.prev.2 (decide_eq_false E2.out) (hk := ?_))))
    go_ret
    exact ⟨_, rfl, by rw [HFF.out]; rfl, hst.none⟩
  replace c2 := Decidable.not_not.1 c2
  have E2 := Lib.hid c2
  by_cases c3 : ¬ (H.epoch = G.epoch)
  · have E3 := Lib.hid c3
    have HFF : Hid (decide (H = G) = false) := by
      show _ = _
      exact decide_eq_false fun e => c3 (by rw [e])
    clear c3
    go_wp2_with (first
      | go_skip
      | ((with_reducible refine at_d 2 ?_); go_loud (refine wl_box rfl rfl rfl (by first | rfl | exact row_one _) hst ?_; clear hst; intro b2 w2 hb2 hst))
      | ((with_reducible refine at_d 3 ?_); go_loud (refine wl_box rfl rfl rfl (by first | rfl | exact row_one _) hst ?_; clear hst; intro b3 w3 hb3 hst))
      | ((with_reducible refine at_d 5 ?_); go_loud (refine wl_fld (r := 53) fld34_7 rfl rfl rfl rfl (hk := ?_)))
      | ((with_reducible refine at_d 6 ?_); go_loud (refine wl_load1v rfl rfl rfl (hs := sc31) (hk := ?_)))
      | ((with_reducible refine at_d 7 ?_); go_loud (refine wl_fld (r := 53) fld34_7 rfl rfl rfl rfl (hk := ?_)))
      | ((with_reducible refine at_d 8 ?_); go_loud (refine wl_load1v rfl rfl rfl (hs := sc31) (hk := ?_)))
      | ((with_reducible refine at_d 9 ?_); go_loud (refine wl_call pl84 rfl rfl rfl (sequal_any _ _ H.toks G.toks _ (HTH.out _ hst.none) (HTG.out _ hst.none)) ?_; rintro v9 w9 ⟨rfl, hst9⟩; replace hst := hst.call hst9; clear hst9; rw [HEQ.out]))
      | ((with_reducible refine at_d 11 ?_); go_loud (refine wl_fld (r := 0) fld34_0 rfl rfl rfl rfl (hk := ?_)))
      | ((with_reducible refine at_d 12 ?_); go_loud (refine wl_load1v rfl rfl rfl (hs := sc3) (hk := ?_)))
      | ((with_reducible refine at_d 13 ?_); go_loud (refine wl_fld (r := 0) fld34_0 rfl rfl rfl rfl (hk := ?_)))
      | ((with_reducible refine at_d 14 ?_); go_loud (refine wl_load1v rfl rfl rfl (hs := sc3) (hk := ?_)))
      | ((with_reducible refine at_d 15 ?_); go_loud (refine wl_cmp (b := .eql) (p := H.writer) (q := G.writer) (r := true) (by show decide (H.writer = G.writer) = true; exact (decide_eq_true E0.out)) rfl rfl rfl rfl rfl (hk := ?_)))
      | ((with_reducible refine at_d 17 ?_); (refine wl_fld (r := 1) fld34_1 rfl rfl rfl rfl (hk := ?_)))
      | ((with_reducible refine at_d 18 ?_); (refine wl_load1v rfl rfl rfl (hs := sc26) (hk := ?_)))
      | ((with_reducible refine at_d 19 ?_); (refine wl_fld (r := 1) fld34_1 rfl rfl rfl rfl (hk := ?_)))
      | ((with_reducible refine at_d 20 ?_); (refine wl_load1v rfl rfl rfl (hs := sc26) (hk := ?_)))
      | ((with_reducible refine at_d 21 ?_); (refine wl_cmp (b := .eql) (p := (H.seq : Int)) (q := (G.seq : Int)) (r := true) (by show decide ((H.seq : Int) = (G.seq : Int)) = true; exact (decide_eq_true E1.out)) rfl rfl rfl rfl rfl (hk := ?_)))
      | ((with_reducible refine at_d 24 ?_); (refine wl_fld (r := 2) fld34_2 rfl rfl rfl rfl (hk := ?_)))
      | ((with_reducible refine at_d 25 ?_); (refine wl_loadP rfl rfl rfl (hs := agg28) (hv := (by first | exact hF_prev _ _ | exact hF_item _ _ | exact hF_knows _ _ | exact hF_sum _ _ | exact hF_code _ _)) (hk := ?_)))
      | ((with_reducible refine at_d 26 ?_); (refine wl_fld (r := 2) fld34_2 rfl rfl rfl rfl (hk := ?_)))
      | ((with_reducible refine at_d 27 ?_); (refine wl_loadP rfl rfl rfl (hs := agg28) (hv := (by first | exact hF_prev _ _ | exact hF_item _ _ | exact hF_knows _ _ | exact hF_sum _ _ | exact hF_code _ _)) (hk := ?_)))
      | ((with_reducible refine at_d 28 ?_); (refine wl_eqB rfl rfl eqb28 rfl rfl hH.prev.1 hG.prev.1 hH.prev.2 hG.prev.2 (decide_eq_true E2.out) (hk := ?_)))
      | ((with_reducible refine at_d 31 ?_); (refine wl_fld (r := 34) fld34_3 rfl rfl rfl rfl (hk := ?_)))
      | ((with_reducible refine at_d 32 ?_); (refine wl_load1v rfl rfl rfl (hs := sc3) (hk := ?_)))
      | ((with_reducible refine at_d 33 ?_); (refine wl_fld (r := 34) fld34_3 rfl rfl rfl rfl (hk := ?_)))
      | ((with_reducible refine at_d 34 ?_); (refine wl_load1v rfl rfl rfl (hs := sc3) (hk := ?_)))
      | ((with_reducible refine at_d 35 ?_); (refine wl_cmp (b := .eql) (p := H.epoch) (q := G.epoch) (r := false) (by show decide (H.epoch = G.epoch) = false; exact (decide_eq_false E3.out)) rfl rfl rfl rfl rfl (hk := ?_))))
    go_ret
    exact ⟨_, rfl, by rw [HFF.out]; rfl, hst.none⟩
  replace c3 := Decidable.not_not.1 c3
  have E3 := Lib.hid c3
  by_cases c4 : ¬ (H.control = G.control)
  · have E4 := Lib.hid c4
    have HFF : Hid (decide (H = G) = false) := by
      show _ = _
      exact decide_eq_false fun e => c4 (by rw [e])
    clear c4
    go_wp2_with (first
      | go_skip
      | ((with_reducible refine at_d 2 ?_); go_loud (refine wl_box rfl rfl rfl (by first | rfl | exact row_one _) hst ?_; clear hst; intro b2 w2 hb2 hst))
      | ((with_reducible refine at_d 3 ?_); go_loud (refine wl_box rfl rfl rfl (by first | rfl | exact row_one _) hst ?_; clear hst; intro b3 w3 hb3 hst))
      | ((with_reducible refine at_d 5 ?_); go_loud (refine wl_fld (r := 53) fld34_7 rfl rfl rfl rfl (hk := ?_)))
      | ((with_reducible refine at_d 6 ?_); go_loud (refine wl_load1v rfl rfl rfl (hs := sc31) (hk := ?_)))
      | ((with_reducible refine at_d 7 ?_); go_loud (refine wl_fld (r := 53) fld34_7 rfl rfl rfl rfl (hk := ?_)))
      | ((with_reducible refine at_d 8 ?_); go_loud (refine wl_load1v rfl rfl rfl (hs := sc31) (hk := ?_)))
      | ((with_reducible refine at_d 9 ?_); go_loud (refine wl_call pl84 rfl rfl rfl (sequal_any _ _ H.toks G.toks _ (HTH.out _ hst.none) (HTG.out _ hst.none)) ?_; rintro v9 w9 ⟨rfl, hst9⟩; replace hst := hst.call hst9; clear hst9; rw [HEQ.out]))
      | ((with_reducible refine at_d 11 ?_); go_loud (refine wl_fld (r := 0) fld34_0 rfl rfl rfl rfl (hk := ?_)))
      | ((with_reducible refine at_d 12 ?_); go_loud (refine wl_load1v rfl rfl rfl (hs := sc3) (hk := ?_)))
      | ((with_reducible refine at_d 13 ?_); go_loud (refine wl_fld (r := 0) fld34_0 rfl rfl rfl rfl (hk := ?_)))
      | ((with_reducible refine at_d 14 ?_); go_loud (refine wl_load1v rfl rfl rfl (hs := sc3) (hk := ?_)))
      | ((with_reducible refine at_d 15 ?_); go_loud (refine wl_cmp (b := .eql) (p := H.writer) (q := G.writer) (r := true) (by show decide (H.writer = G.writer) = true; exact (decide_eq_true E0.out)) rfl rfl rfl rfl rfl (hk := ?_)))
      | ((with_reducible refine at_d 17 ?_); (refine wl_fld (r := 1) fld34_1 rfl rfl rfl rfl (hk := ?_)))
      | ((with_reducible refine at_d 18 ?_); (refine wl_load1v rfl rfl rfl (hs := sc26) (hk := ?_)))
      | ((with_reducible refine at_d 19 ?_); (refine wl_fld (r := 1) fld34_1 rfl rfl rfl rfl (hk := ?_)))
      | ((with_reducible refine at_d 20 ?_); (refine wl_load1v rfl rfl rfl (hs := sc26) (hk := ?_)))
      | ((with_reducible refine at_d 21 ?_); (refine wl_cmp (b := .eql) (p := (H.seq : Int)) (q := (G.seq : Int)) (r := true) (by show decide ((H.seq : Int) = (G.seq : Int)) = true; exact (decide_eq_true E1.out)) rfl rfl rfl rfl rfl (hk := ?_)))
      | ((with_reducible refine at_d 24 ?_); (refine wl_fld (r := 2) fld34_2 rfl rfl rfl rfl (hk := ?_)))
      | ((with_reducible refine at_d 25 ?_); (refine wl_loadP rfl rfl rfl (hs := agg28) (hv := (by first | exact hF_prev _ _ | exact hF_item _ _ | exact hF_knows _ _ | exact hF_sum _ _ | exact hF_code _ _)) (hk := ?_)))
      | ((with_reducible refine at_d 26 ?_); (refine wl_fld (r := 2) fld34_2 rfl rfl rfl rfl (hk := ?_)))
      | ((with_reducible refine at_d 27 ?_); (refine wl_loadP rfl rfl rfl (hs := agg28) (hv := (by first | exact hF_prev _ _ | exact hF_item _ _ | exact hF_knows _ _ | exact hF_sum _ _ | exact hF_code _ _)) (hk := ?_)))
      | ((with_reducible refine at_d 28 ?_); (refine wl_eqB rfl rfl eqb28 rfl rfl hH.prev.1 hG.prev.1 hH.prev.2 hG.prev.2 (decide_eq_true E2.out) (hk := ?_)))
      | ((with_reducible refine at_d 31 ?_); (refine wl_fld (r := 34) fld34_3 rfl rfl rfl rfl (hk := ?_)))
      | ((with_reducible refine at_d 32 ?_); (refine wl_load1v rfl rfl rfl (hs := sc3) (hk := ?_)))
      | ((with_reducible refine at_d 33 ?_); (refine wl_fld (r := 34) fld34_3 rfl rfl rfl rfl (hk := ?_)))
      | ((with_reducible refine at_d 34 ?_); (refine wl_load1v rfl rfl rfl (hs := sc3) (hk := ?_)))
      | ((with_reducible refine at_d 35 ?_); (refine wl_cmp (b := .eql) (p := H.epoch) (q := G.epoch) (r := true) (by show decide (H.epoch = G.epoch) = true; exact (decide_eq_true E3.out)) rfl rfl rfl rfl rfl (hk := ?_)))
      | ((with_reducible refine at_d 38 ?_); (refine wl_fld (r := 35) fld34_4 rfl rfl rfl rfl (hk := ?_)))
      | ((with_reducible refine at_d 39 ?_); (refine wl_load1v rfl rfl rfl (hs := sc4) (hk := ?_)))
      | ((with_reducible refine at_d 40 ?_); (refine wl_fld (r := 35) fld34_4 rfl rfl rfl rfl (hk := ?_)))
      | ((with_reducible refine at_d 41 ?_); (refine wl_load1v rfl rfl rfl (hs := sc4) (hk := ?_)))
      | ((with_reducible refine at_d 42 ?_); (refine wl_eqBool (p := H.control) (q := G.control) (r := false) (decide_eq_false E4.out) rfl rfl rfl rfl (hk := ?_))))
    go_ret
    exact ⟨_, rfl, by rw [HFF.out]; rfl, hst.none⟩
  replace c4 := Decidable.not_not.1 c4
  have E4 := Lib.hid c4
  by_cases c5 : ¬ ((H.time : Int) = (G.time : Int))
  · have E5 := Lib.hid c5
    have HFF : Hid (decide (H = G) = false) := by
      show _ = _
      exact decide_eq_false fun e => c5 (by rw [e])
    clear c5
    go_wp2_with (first
      | go_skip
      | ((with_reducible refine at_d 2 ?_); go_loud (refine wl_box rfl rfl rfl (by first | rfl | exact row_one _) hst ?_; clear hst; intro b2 w2 hb2 hst))
      | ((with_reducible refine at_d 3 ?_); go_loud (refine wl_box rfl rfl rfl (by first | rfl | exact row_one _) hst ?_; clear hst; intro b3 w3 hb3 hst))
      | ((with_reducible refine at_d 5 ?_); go_loud (refine wl_fld (r := 53) fld34_7 rfl rfl rfl rfl (hk := ?_)))
      | ((with_reducible refine at_d 6 ?_); go_loud (refine wl_load1v rfl rfl rfl (hs := sc31) (hk := ?_)))
      | ((with_reducible refine at_d 7 ?_); go_loud (refine wl_fld (r := 53) fld34_7 rfl rfl rfl rfl (hk := ?_)))
      | ((with_reducible refine at_d 8 ?_); go_loud (refine wl_load1v rfl rfl rfl (hs := sc31) (hk := ?_)))
      | ((with_reducible refine at_d 9 ?_); go_loud (refine wl_call pl84 rfl rfl rfl (sequal_any _ _ H.toks G.toks _ (HTH.out _ hst.none) (HTG.out _ hst.none)) ?_; rintro v9 w9 ⟨rfl, hst9⟩; replace hst := hst.call hst9; clear hst9; rw [HEQ.out]))
      | ((with_reducible refine at_d 11 ?_); go_loud (refine wl_fld (r := 0) fld34_0 rfl rfl rfl rfl (hk := ?_)))
      | ((with_reducible refine at_d 12 ?_); go_loud (refine wl_load1v rfl rfl rfl (hs := sc3) (hk := ?_)))
      | ((with_reducible refine at_d 13 ?_); go_loud (refine wl_fld (r := 0) fld34_0 rfl rfl rfl rfl (hk := ?_)))
      | ((with_reducible refine at_d 14 ?_); go_loud (refine wl_load1v rfl rfl rfl (hs := sc3) (hk := ?_)))
      | ((with_reducible refine at_d 15 ?_); go_loud (refine wl_cmp (b := .eql) (p := H.writer) (q := G.writer) (r := true) (by show decide (H.writer = G.writer) = true; exact (decide_eq_true E0.out)) rfl rfl rfl rfl rfl (hk := ?_)))
      | ((with_reducible refine at_d 17 ?_); (refine wl_fld (r := 1) fld34_1 rfl rfl rfl rfl (hk := ?_)))
      | ((with_reducible refine at_d 18 ?_); (refine wl_load1v rfl rfl rfl (hs := sc26) (hk := ?_)))
      | ((with_reducible refine at_d 19 ?_); (refine wl_fld (r := 1) fld34_1 rfl rfl rfl rfl (hk := ?_)))
      | ((with_reducible refine at_d 20 ?_); (refine wl_load1v rfl rfl rfl (hs := sc26) (hk := ?_)))
      | ((with_reducible refine at_d 21 ?_); (refine wl_cmp (b := .eql) (p := (H.seq : Int)) (q := (G.seq : Int)) (r := true) (by show decide ((H.seq : Int) = (G.seq : Int)) = true; exact (decide_eq_true E1.out)) rfl rfl rfl rfl rfl (hk := ?_)))
      | ((with_reducible refine at_d 24 ?_); (refine wl_fld (r := 2) fld34_2 rfl rfl rfl rfl (hk := ?_)))
      | ((with_reducible refine at_d 25 ?_); (refine wl_loadP rfl rfl rfl (hs := agg28) (hv := (by first | exact hF_prev _ _ | exact hF_item _ _ | exact hF_knows _ _ | exact hF_sum _ _ | exact hF_code _ _)) (hk := ?_)))
      | ((with_reducible refine at_d 26 ?_); (refine wl_fld (r := 2) fld34_2 rfl rfl rfl rfl (hk := ?_)))
      | ((with_reducible refine at_d 27 ?_); (refine wl_loadP rfl rfl rfl (hs := agg28) (hv := (by first | exact hF_prev _ _ | exact hF_item _ _ | exact hF_knows _ _ | exact hF_sum _ _ | exact hF_code _ _)) (hk := ?_)))
      | ((with_reducible refine at_d 28 ?_); (refine wl_eqB rfl rfl eqb28 rfl rfl hH.prev.1 hG.prev.1 hH.prev.2 hG.prev.2 (decide_eq_true E2.out) (hk := ?_)))
      | ((with_reducible refine at_d 31 ?_); (refine wl_fld (r := 34) fld34_3 rfl rfl rfl rfl (hk := ?_)))
      | ((with_reducible refine at_d 32 ?_); (refine wl_load1v rfl rfl rfl (hs := sc3) (hk := ?_)))
      | ((with_reducible refine at_d 33 ?_); (refine wl_fld (r := 34) fld34_3 rfl rfl rfl rfl (hk := ?_)))
      | ((with_reducible refine at_d 34 ?_); (refine wl_load1v rfl rfl rfl (hs := sc3) (hk := ?_)))
      | ((with_reducible refine at_d 35 ?_); (refine wl_cmp (b := .eql) (p := H.epoch) (q := G.epoch) (r := true) (by show decide (H.epoch = G.epoch) = true; exact (decide_eq_true E3.out)) rfl rfl rfl rfl rfl (hk := ?_)))
      | ((with_reducible refine at_d 38 ?_); (refine wl_fld (r := 35) fld34_4 rfl rfl rfl rfl (hk := ?_)))
      | ((with_reducible refine at_d 39 ?_); (refine wl_load1v rfl rfl rfl (hs := sc4) (hk := ?_)))
      | ((with_reducible refine at_d 40 ?_); (refine wl_fld (r := 35) fld34_4 rfl rfl rfl rfl (hk := ?_)))
      | ((with_reducible refine at_d 41 ?_); (refine wl_load1v rfl rfl rfl (hs := sc4) (hk := ?_)))
      | ((with_reducible refine at_d 42 ?_); (refine wl_eqBool (p := H.control) (q := G.control) (r := true) (decide_eq_true E4.out) rfl rfl rfl rfl (hk := ?_)))
      | ((with_reducible refine at_d 45 ?_); (refine wl_fld (r := 36) fld34_5 rfl rfl rfl rfl (hk := ?_)))
      | ((with_reducible refine at_d 46 ?_); (refine wl_load1v rfl rfl rfl (hs := sc26) (hk := ?_)))
      | ((with_reducible refine at_d 47 ?_); (refine wl_fld (r := 36) fld34_5 rfl rfl rfl rfl (hk := ?_)))
      | ((with_reducible refine at_d 48 ?_); (refine wl_load1v rfl rfl rfl (hs := sc26) (hk := ?_)))
      | ((with_reducible refine at_d 49 ?_); (refine wl_cmp (b := .eql) (p := (H.time : Int)) (q := (G.time : Int)) (r := false) (by show decide ((H.time : Int) = (G.time : Int)) = false; exact (decide_eq_false E5.out)) rfl rfl rfl rfl rfl (hk := ?_))))
    go_ret
    exact ⟨_, rfl, by rw [HFF.out]; rfl, hst.none⟩
  replace c5 := Decidable.not_not.1 c5
  have E5 := Lib.hid c5
  by_cases c6 : ¬ (H.item = G.item)
  · have E6 := Lib.hid c6
    have HFF : Hid (decide (H = G) = false) := by
      show _ = _
      exact decide_eq_false fun e => c6 (by rw [e])
    clear c6
    go_wp2_with (first
      | go_skip
      | ((with_reducible refine at_d 2 ?_); go_loud (refine wl_box rfl rfl rfl (by first | rfl | exact row_one _) hst ?_; clear hst; intro b2 w2 hb2 hst))
      | ((with_reducible refine at_d 3 ?_); go_loud (refine wl_box rfl rfl rfl (by first | rfl | exact row_one _) hst ?_; clear hst; intro b3 w3 hb3 hst))
      | ((with_reducible refine at_d 5 ?_); go_loud (refine wl_fld (r := 53) fld34_7 rfl rfl rfl rfl (hk := ?_)))
      | ((with_reducible refine at_d 6 ?_); go_loud (refine wl_load1v rfl rfl rfl (hs := sc31) (hk := ?_)))
      | ((with_reducible refine at_d 7 ?_); go_loud (refine wl_fld (r := 53) fld34_7 rfl rfl rfl rfl (hk := ?_)))
      | ((with_reducible refine at_d 8 ?_); go_loud (refine wl_load1v rfl rfl rfl (hs := sc31) (hk := ?_)))
      | ((with_reducible refine at_d 9 ?_); go_loud (refine wl_call pl84 rfl rfl rfl (sequal_any _ _ H.toks G.toks _ (HTH.out _ hst.none) (HTG.out _ hst.none)) ?_; rintro v9 w9 ⟨rfl, hst9⟩; replace hst := hst.call hst9; clear hst9; rw [HEQ.out]))
      | ((with_reducible refine at_d 11 ?_); go_loud (refine wl_fld (r := 0) fld34_0 rfl rfl rfl rfl (hk := ?_)))
      | ((with_reducible refine at_d 12 ?_); go_loud (refine wl_load1v rfl rfl rfl (hs := sc3) (hk := ?_)))
      | ((with_reducible refine at_d 13 ?_); go_loud (refine wl_fld (r := 0) fld34_0 rfl rfl rfl rfl (hk := ?_)))
      | ((with_reducible refine at_d 14 ?_); go_loud (refine wl_load1v rfl rfl rfl (hs := sc3) (hk := ?_)))
      | ((with_reducible refine at_d 15 ?_); go_loud (refine wl_cmp (b := .eql) (p := H.writer) (q := G.writer) (r := true) (by show decide (H.writer = G.writer) = true; exact (decide_eq_true E0.out)) rfl rfl rfl rfl rfl (hk := ?_)))
      | ((with_reducible refine at_d 17 ?_); (refine wl_fld (r := 1) fld34_1 rfl rfl rfl rfl (hk := ?_)))
      | ((with_reducible refine at_d 18 ?_); (refine wl_load1v rfl rfl rfl (hs := sc26) (hk := ?_)))
      | ((with_reducible refine at_d 19 ?_); (refine wl_fld (r := 1) fld34_1 rfl rfl rfl rfl (hk := ?_)))
      | ((with_reducible refine at_d 20 ?_); (refine wl_load1v rfl rfl rfl (hs := sc26) (hk := ?_)))
      | ((with_reducible refine at_d 21 ?_); (refine wl_cmp (b := .eql) (p := (H.seq : Int)) (q := (G.seq : Int)) (r := true) (by show decide ((H.seq : Int) = (G.seq : Int)) = true; exact (decide_eq_true E1.out)) rfl rfl rfl rfl rfl (hk := ?_)))
      | ((with_reducible refine at_d 24 ?_); (refine wl_fld (r := 2) fld34_2 rfl rfl rfl rfl (hk := ?_)))
      | ((with_reducible refine at_d 25 ?_); (refine wl_loadP rfl rfl rfl (hs := agg28) (hv := (by first | exact hF_prev _ _ | exact hF_item _ _ | exact hF_knows _ _ | exact hF_sum _ _ | exact hF_code _ _)) (hk := ?_)))
      | ((with_reducible refine at_d 26 ?_); (refine wl_fld (r := 2) fld34_2 rfl rfl rfl rfl (hk := ?_)))
      | ((with_reducible refine at_d 27 ?_); (refine wl_loadP rfl rfl rfl (hs := agg28) (hv := (by first | exact hF_prev _ _ | exact hF_item _ _ | exact hF_knows _ _ | exact hF_sum _ _ | exact hF_code _ _)) (hk := ?_)))
      | ((with_reducible refine at_d 28 ?_); (refine wl_eqB rfl rfl eqb28 rfl rfl hH.prev.1 hG.prev.1 hH.prev.2 hG.prev.2 (decide_eq_true E2.out) (hk := ?_)))
      | ((with_reducible refine at_d 31 ?_); (refine wl_fld (r := 34) fld34_3 rfl rfl rfl rfl (hk := ?_)))
      | ((with_reducible refine at_d 32 ?_); (refine wl_load1v rfl rfl rfl (hs := sc3) (hk := ?_)))
      | ((with_reducible refine at_d 33 ?_); (refine wl_fld (r := 34) fld34_3 rfl rfl rfl rfl (hk := ?_)))
      | ((with_reducible refine at_d 34 ?_); (refine wl_load1v rfl rfl rfl (hs := sc3) (hk := ?_)))
      | ((with_reducible refine at_d 35 ?_); (refine wl_cmp (b := .eql) (p := H.epoch) (q := G.epoch) (r := true) (by show decide (H.epoch = G.epoch) = true; exact (decide_eq_true E3.out)) rfl rfl rfl rfl rfl (hk := ?_)))
      | ((with_reducible refine at_d 38 ?_); (refine wl_fld (r := 35) fld34_4 rfl rfl rfl rfl (hk := ?_)))
      | ((with_reducible refine at_d 39 ?_); (refine wl_load1v rfl rfl rfl (hs := sc4) (hk := ?_)))
      | ((with_reducible refine at_d 40 ?_); (refine wl_fld (r := 35) fld34_4 rfl rfl rfl rfl (hk := ?_)))
      | ((with_reducible refine at_d 41 ?_); (refine wl_load1v rfl rfl rfl (hs := sc4) (hk := ?_)))
      | ((with_reducible refine at_d 42 ?_); (refine wl_eqBool (p := H.control) (q := G.control) (r := true) (decide_eq_true E4.out) rfl rfl rfl rfl (hk := ?_)))
      | ((with_reducible refine at_d 45 ?_); (refine wl_fld (r := 36) fld34_5 rfl rfl rfl rfl (hk := ?_)))
      | ((with_reducible refine at_d 46 ?_); (refine wl_load1v rfl rfl rfl (hs := sc26) (hk := ?_)))
      | ((with_reducible refine at_d 47 ?_); (refine wl_fld (r := 36) fld34_5 rfl rfl rfl rfl (hk := ?_)))
      | ((with_reducible refine at_d 48 ?_); (refine wl_load1v rfl rfl rfl (hs := sc26) (hk := ?_)))
      | ((with_reducible refine at_d 49 ?_); (refine wl_cmp (b := .eql) (p := (H.time : Int)) (q := (G.time : Int)) (r := true) (by show decide ((H.time : Int) = (G.time : Int)) = true; exact (decide_eq_true E5.out)) rfl rfl rfl rfl rfl (hk := ?_)))
      | ((with_reducible refine at_d 52 ?_); (refine wl_fld (r := 37) fld34_6 rfl rfl rfl rfl (hk := ?_)))
      | ((with_reducible refine at_d 53 ?_); (refine wl_loadP rfl rfl rfl (hs := agg30) (hv := (by first | exact hF_prev _ _ | exact hF_item _ _ | exact hF_knows _ _ | exact hF_sum _ _ | exact hF_code _ _)) (hk := ?_)))
      | ((with_reducible refine at_d 54 ?_); (refine wl_fld (r := 37) fld34_6 rfl rfl rfl rfl (hk := ?_)))
      | ((with_reducible refine at_d 55 ?_); (refine wl_loadP rfl rfl rfl (hs := agg30) (hv := (by first | exact hF_prev _ _ | exact hF_item _ _ | exact hF_knows _ _ | exact hF_sum _ _ | exact hF_code _ _)) (hk := ?_)))
      | ((with_reducible refine at_d 56 ?_); (refine wl_eqB rfl rfl eqb30 rfl rfl hH.item.1 hG.item.1 hH.item.2 hG.item.2 (decide_eq_false E6.out) (hk := ?_))))
    go_ret
    exact ⟨_, rfl, by rw [HFF.out]; rfl, hst.none⟩
  replace c6 := Decidable.not_not.1 c6
  have E6 := Lib.hid c6
  by_cases c7 : ¬ (H.knows = G.knows)
  · have E7 := Lib.hid c7
    have HFF : Hid (decide (H = G) = false) := by
      show _ = _
      exact decide_eq_false fun e => c7 (by rw [e])
    clear c7
    go_wp2_with (first
      | go_skip
      | ((with_reducible refine at_d 2 ?_); go_loud (refine wl_box rfl rfl rfl (by first | rfl | exact row_one _) hst ?_; clear hst; intro b2 w2 hb2 hst))
      | ((with_reducible refine at_d 3 ?_); go_loud (refine wl_box rfl rfl rfl (by first | rfl | exact row_one _) hst ?_; clear hst; intro b3 w3 hb3 hst))
      | ((with_reducible refine at_d 5 ?_); go_loud (refine wl_fld (r := 53) fld34_7 rfl rfl rfl rfl (hk := ?_)))
      | ((with_reducible refine at_d 6 ?_); go_loud (refine wl_load1v rfl rfl rfl (hs := sc31) (hk := ?_)))
      | ((with_reducible refine at_d 7 ?_); go_loud (refine wl_fld (r := 53) fld34_7 rfl rfl rfl rfl (hk := ?_)))
      | ((with_reducible refine at_d 8 ?_); go_loud (refine wl_load1v rfl rfl rfl (hs := sc31) (hk := ?_)))
      | ((with_reducible refine at_d 9 ?_); go_loud (refine wl_call pl84 rfl rfl rfl (sequal_any _ _ H.toks G.toks _ (HTH.out _ hst.none) (HTG.out _ hst.none)) ?_; rintro v9 w9 ⟨rfl, hst9⟩; replace hst := hst.call hst9; clear hst9; rw [HEQ.out]))
      | ((with_reducible refine at_d 11 ?_); go_loud (refine wl_fld (r := 0) fld34_0 rfl rfl rfl rfl (hk := ?_)))
      | ((with_reducible refine at_d 12 ?_); go_loud (refine wl_load1v rfl rfl rfl (hs := sc3) (hk := ?_)))
      | ((with_reducible refine at_d 13 ?_); go_loud (refine wl_fld (r := 0) fld34_0 rfl rfl rfl rfl (hk := ?_)))
      | ((with_reducible refine at_d 14 ?_); go_loud (refine wl_load1v rfl rfl rfl (hs := sc3) (hk := ?_)))
      | ((with_reducible refine at_d 15 ?_); go_loud (refine wl_cmp (b := .eql) (p := H.writer) (q := G.writer) (r := true) (by show decide (H.writer = G.writer) = true; exact (decide_eq_true E0.out)) rfl rfl rfl rfl rfl (hk := ?_)))
      | ((with_reducible refine at_d 17 ?_); (refine wl_fld (r := 1) fld34_1 rfl rfl rfl rfl (hk := ?_)))
      | ((with_reducible refine at_d 18 ?_); (refine wl_load1v rfl rfl rfl (hs := sc26) (hk := ?_)))
      | ((with_reducible refine at_d 19 ?_); (refine wl_fld (r := 1) fld34_1 rfl rfl rfl rfl (hk := ?_)))
      | ((with_reducible refine at_d 20 ?_); (refine wl_load1v rfl rfl rfl (hs := sc26) (hk := ?_)))
      | ((with_reducible refine at_d 21 ?_); (refine wl_cmp (b := .eql) (p := (H.seq : Int)) (q := (G.seq : Int)) (r := true) (by show decide ((H.seq : Int) = (G.seq : Int)) = true; exact (decide_eq_true E1.out)) rfl rfl rfl rfl rfl (hk := ?_)))
      | ((with_reducible refine at_d 24 ?_); (refine wl_fld (r := 2) fld34_2 rfl rfl rfl rfl (hk := ?_)))
      | ((with_reducible refine at_d 25 ?_); (refine wl_loadP rfl rfl rfl (hs := agg28) (hv := (by first | exact hF_prev _ _ | exact hF_item _ _ | exact hF_knows _ _ | exact hF_sum _ _ | exact hF_code _ _)) (hk := ?_)))
      | ((with_reducible refine at_d 26 ?_); (refine wl_fld (r := 2) fld34_2 rfl rfl rfl rfl (hk := ?_)))
      | ((with_reducible refine at_d 27 ?_); (refine wl_loadP rfl rfl rfl (hs := agg28) (hv := (by first | exact hF_prev _ _ | exact hF_item _ _ | exact hF_knows _ _ | exact hF_sum _ _ | exact hF_code _ _)) (hk := ?_)))
      | ((with_reducible refine at_d 28 ?_); (refine wl_eqB rfl rfl eqb28 rfl rfl hH.prev.1 hG.prev.1 hH.prev.2 hG.prev.2 (decide_eq_true E2.out) (hk := ?_)))
      | ((with_reducible refine at_d 31 ?_); (refine wl_fld (r := 34) fld34_3 rfl rfl rfl rfl (hk := ?_)))
      | ((with_reducible refine at_d 32 ?_); (refine wl_load1v rfl rfl rfl (hs := sc3) (hk := ?_)))
      | ((with_reducible refine at_d 33 ?_); (refine wl_fld (r := 34) fld34_3 rfl rfl rfl rfl (hk := ?_)))
      | ((with_reducible refine at_d 34 ?_); (refine wl_load1v rfl rfl rfl (hs := sc3) (hk := ?_)))
      | ((with_reducible refine at_d 35 ?_); (refine wl_cmp (b := .eql) (p := H.epoch) (q := G.epoch) (r := true) (by show decide (H.epoch = G.epoch) = true; exact (decide_eq_true E3.out)) rfl rfl rfl rfl rfl (hk := ?_)))
      | ((with_reducible refine at_d 38 ?_); (refine wl_fld (r := 35) fld34_4 rfl rfl rfl rfl (hk := ?_)))
      | ((with_reducible refine at_d 39 ?_); (refine wl_load1v rfl rfl rfl (hs := sc4) (hk := ?_)))
      | ((with_reducible refine at_d 40 ?_); (refine wl_fld (r := 35) fld34_4 rfl rfl rfl rfl (hk := ?_)))
      | ((with_reducible refine at_d 41 ?_); (refine wl_load1v rfl rfl rfl (hs := sc4) (hk := ?_)))
      | ((with_reducible refine at_d 42 ?_); (refine wl_eqBool (p := H.control) (q := G.control) (r := true) (decide_eq_true E4.out) rfl rfl rfl rfl (hk := ?_)))
      | ((with_reducible refine at_d 45 ?_); (refine wl_fld (r := 36) fld34_5 rfl rfl rfl rfl (hk := ?_)))
      | ((with_reducible refine at_d 46 ?_); (refine wl_load1v rfl rfl rfl (hs := sc26) (hk := ?_)))
      | ((with_reducible refine at_d 47 ?_); (refine wl_fld (r := 36) fld34_5 rfl rfl rfl rfl (hk := ?_)))
      | ((with_reducible refine at_d 48 ?_); (refine wl_load1v rfl rfl rfl (hs := sc26) (hk := ?_)))
      | ((with_reducible refine at_d 49 ?_); (refine wl_cmp (b := .eql) (p := (H.time : Int)) (q := (G.time : Int)) (r := true) (by show decide ((H.time : Int) = (G.time : Int)) = true; exact (decide_eq_true E5.out)) rfl rfl rfl rfl rfl (hk := ?_)))
      | ((with_reducible refine at_d 52 ?_); (refine wl_fld (r := 37) fld34_6 rfl rfl rfl rfl (hk := ?_)))
      | ((with_reducible refine at_d 53 ?_); (refine wl_loadP rfl rfl rfl (hs := agg30) (hv := (by first | exact hF_prev _ _ | exact hF_item _ _ | exact hF_knows _ _ | exact hF_sum _ _ | exact hF_code _ _)) (hk := ?_)))
      | ((with_reducible refine at_d 54 ?_); (refine wl_fld (r := 37) fld34_6 rfl rfl rfl rfl (hk := ?_)))
      | ((with_reducible refine at_d 55 ?_); (refine wl_loadP rfl rfl rfl (hs := agg30) (hv := (by first | exact hF_prev _ _ | exact hF_item _ _ | exact hF_knows _ _ | exact hF_sum _ _ | exact hF_code _ _)) (hk := ?_)))
      | ((with_reducible refine at_d 56 ?_); (refine wl_eqB rfl rfl eqb30 rfl rfl hH.item.1 hG.item.1 hH.item.2 hG.item.2 (decide_eq_true E6.out) (hk := ?_)))
      | ((with_reducible refine at_d 59 ?_); (refine wl_fld (r := 54) fld34_8 rfl rfl rfl rfl (hk := ?_)))
      | ((with_reducible refine at_d 60 ?_); (refine wl_loadP rfl rfl rfl (hs := agg32) (hv := (by first | exact hF_prev _ _ | exact hF_item _ _ | exact hF_knows _ _ | exact hF_sum _ _ | exact hF_code _ _)) (hk := ?_)))
      | ((with_reducible refine at_d 61 ?_); (refine wl_fld (r := 54) fld34_8 rfl rfl rfl rfl (hk := ?_)))
      | ((with_reducible refine at_d 62 ?_); (refine wl_loadP rfl rfl rfl (hs := agg32) (hv := (by first | exact hF_prev _ _ | exact hF_item _ _ | exact hF_knows _ _ | exact hF_sum _ _ | exact hF_code _ _)) (hk := ?_)))
      | ((with_reducible refine at_d 63 ?_); (refine wl_eqN rfl rfl eqn32 rfl rfl hH.knows.1 hG.knows.1 (decide_eq_false E7.out) (hk := ?_))))
    go_ret
    exact ⟨_, rfl, by rw [HFF.out]; rfl, hst.none⟩
  replace c7 := Decidable.not_not.1 c7
  have E7 := Lib.hid c7
  by_cases c8 : ¬ (H.sum = G.sum)
  · have E8 := Lib.hid c8
    have HFF : Hid (decide (H = G) = false) := by
      show _ = _
      exact decide_eq_false fun e => c8 (by rw [e])
    clear c8
    go_wp2_with (first
      | go_skip
      | ((with_reducible refine at_d 2 ?_); go_loud (refine wl_box rfl rfl rfl (by first | rfl | exact row_one _) hst ?_; clear hst; intro b2 w2 hb2 hst))
      | ((with_reducible refine at_d 3 ?_); go_loud (refine wl_box rfl rfl rfl (by first | rfl | exact row_one _) hst ?_; clear hst; intro b3 w3 hb3 hst))
      | ((with_reducible refine at_d 5 ?_); go_loud (refine wl_fld (r := 53) fld34_7 rfl rfl rfl rfl (hk := ?_)))
      | ((with_reducible refine at_d 6 ?_); go_loud (refine wl_load1v rfl rfl rfl (hs := sc31) (hk := ?_)))
      | ((with_reducible refine at_d 7 ?_); go_loud (refine wl_fld (r := 53) fld34_7 rfl rfl rfl rfl (hk := ?_)))
      | ((with_reducible refine at_d 8 ?_); go_loud (refine wl_load1v rfl rfl rfl (hs := sc31) (hk := ?_)))
      | ((with_reducible refine at_d 9 ?_); go_loud (refine wl_call pl84 rfl rfl rfl (sequal_any _ _ H.toks G.toks _ (HTH.out _ hst.none) (HTG.out _ hst.none)) ?_; rintro v9 w9 ⟨rfl, hst9⟩; replace hst := hst.call hst9; clear hst9; rw [HEQ.out]))
      | ((with_reducible refine at_d 11 ?_); go_loud (refine wl_fld (r := 0) fld34_0 rfl rfl rfl rfl (hk := ?_)))
      | ((with_reducible refine at_d 12 ?_); go_loud (refine wl_load1v rfl rfl rfl (hs := sc3) (hk := ?_)))
      | ((with_reducible refine at_d 13 ?_); go_loud (refine wl_fld (r := 0) fld34_0 rfl rfl rfl rfl (hk := ?_)))
      | ((with_reducible refine at_d 14 ?_); go_loud (refine wl_load1v rfl rfl rfl (hs := sc3) (hk := ?_)))
      | ((with_reducible refine at_d 15 ?_); go_loud (refine wl_cmp (b := .eql) (p := H.writer) (q := G.writer) (r := true) (by show decide (H.writer = G.writer) = true; exact (decide_eq_true E0.out)) rfl rfl rfl rfl rfl (hk := ?_)))
      | ((with_reducible refine at_d 17 ?_); (refine wl_fld (r := 1) fld34_1 rfl rfl rfl rfl (hk := ?_)))
      | ((with_reducible refine at_d 18 ?_); (refine wl_load1v rfl rfl rfl (hs := sc26) (hk := ?_)))
      | ((with_reducible refine at_d 19 ?_); (refine wl_fld (r := 1) fld34_1 rfl rfl rfl rfl (hk := ?_)))
      | ((with_reducible refine at_d 20 ?_); (refine wl_load1v rfl rfl rfl (hs := sc26) (hk := ?_)))
      | ((with_reducible refine at_d 21 ?_); (refine wl_cmp (b := .eql) (p := (H.seq : Int)) (q := (G.seq : Int)) (r := true) (by show decide ((H.seq : Int) = (G.seq : Int)) = true; exact (decide_eq_true E1.out)) rfl rfl rfl rfl rfl (hk := ?_)))
      | ((with_reducible refine at_d 24 ?_); (refine wl_fld (r := 2) fld34_2 rfl rfl rfl rfl (hk := ?_)))
      | ((with_reducible refine at_d 25 ?_); (refine wl_loadP rfl rfl rfl (hs := agg28) (hv := (by first | exact hF_prev _ _ | exact hF_item _ _ | exact hF_knows _ _ | exact hF_sum _ _ | exact hF_code _ _)) (hk := ?_)))
      | ((with_reducible refine at_d 26 ?_); (refine wl_fld (r := 2) fld34_2 rfl rfl rfl rfl (hk := ?_)))
      | ((with_reducible refine at_d 27 ?_); (refine wl_loadP rfl rfl rfl (hs := agg28) (hv := (by first | exact hF_prev _ _ | exact hF_item _ _ | exact hF_knows _ _ | exact hF_sum _ _ | exact hF_code _ _)) (hk := ?_)))
      | ((with_reducible refine at_d 28 ?_); (refine wl_eqB rfl rfl eqb28 rfl rfl hH.prev.1 hG.prev.1 hH.prev.2 hG.prev.2 (decide_eq_true E2.out) (hk := ?_)))
      | ((with_reducible refine at_d 31 ?_); (refine wl_fld (r := 34) fld34_3 rfl rfl rfl rfl (hk := ?_)))
      | ((with_reducible refine at_d 32 ?_); (refine wl_load1v rfl rfl rfl (hs := sc3) (hk := ?_)))
      | ((with_reducible refine at_d 33 ?_); (refine wl_fld (r := 34) fld34_3 rfl rfl rfl rfl (hk := ?_)))
      | ((with_reducible refine at_d 34 ?_); (refine wl_load1v rfl rfl rfl (hs := sc3) (hk := ?_)))
      | ((with_reducible refine at_d 35 ?_); (refine wl_cmp (b := .eql) (p := H.epoch) (q := G.epoch) (r := true) (by show decide (H.epoch = G.epoch) = true; exact (decide_eq_true E3.out)) rfl rfl rfl rfl rfl (hk := ?_)))
      | ((with_reducible refine at_d 38 ?_); (refine wl_fld (r := 35) fld34_4 rfl rfl rfl rfl (hk := ?_)))
      | ((with_reducible refine at_d 39 ?_); (refine wl_load1v rfl rfl rfl (hs := sc4) (hk := ?_)))
      | ((with_reducible refine at_d 40 ?_); (refine wl_fld (r := 35) fld34_4 rfl rfl rfl rfl (hk := ?_)))
      | ((with_reducible refine at_d 41 ?_); (refine wl_load1v rfl rfl rfl (hs := sc4) (hk := ?_)))
      | ((with_reducible refine at_d 42 ?_); (refine wl_eqBool (p := H.control) (q := G.control) (r := true) (decide_eq_true E4.out) rfl rfl rfl rfl (hk := ?_)))
      | ((with_reducible refine at_d 45 ?_); (refine wl_fld (r := 36) fld34_5 rfl rfl rfl rfl (hk := ?_)))
      | ((with_reducible refine at_d 46 ?_); (refine wl_load1v rfl rfl rfl (hs := sc26) (hk := ?_)))
      | ((with_reducible refine at_d 47 ?_); (refine wl_fld (r := 36) fld34_5 rfl rfl rfl rfl (hk := ?_)))
      | ((with_reducible refine at_d 48 ?_); (refine wl_load1v rfl rfl rfl (hs := sc26) (hk := ?_)))
      | ((with_reducible refine at_d 49 ?_); (refine wl_cmp (b := .eql) (p := (H.time : Int)) (q := (G.time : Int)) (r := true) (by show decide ((H.time : Int) = (G.time : Int)) = true; exact (decide_eq_true E5.out)) rfl rfl rfl rfl rfl (hk := ?_)))
      | ((with_reducible refine at_d 52 ?_); (refine wl_fld (r := 37) fld34_6 rfl rfl rfl rfl (hk := ?_)))
      | ((with_reducible refine at_d 53 ?_); (refine wl_loadP rfl rfl rfl (hs := agg30) (hv := (by first | exact hF_prev _ _ | exact hF_item _ _ | exact hF_knows _ _ | exact hF_sum _ _ | exact hF_code _ _)) (hk := ?_)))
      | ((with_reducible refine at_d 54 ?_); (refine wl_fld (r := 37) fld34_6 rfl rfl rfl rfl (hk := ?_)))
      | ((with_reducible refine at_d 55 ?_); (refine wl_loadP rfl rfl rfl (hs := agg30) (hv := (by first | exact hF_prev _ _ | exact hF_item _ _ | exact hF_knows _ _ | exact hF_sum _ _ | exact hF_code _ _)) (hk := ?_)))
      | ((with_reducible refine at_d 56 ?_); (refine wl_eqB rfl rfl eqb30 rfl rfl hH.item.1 hG.item.1 hH.item.2 hG.item.2 (decide_eq_true E6.out) (hk := ?_)))
      | ((with_reducible refine at_d 59 ?_); (refine wl_fld (r := 54) fld34_8 rfl rfl rfl rfl (hk := ?_)))
      | ((with_reducible refine at_d 60 ?_); (refine wl_loadP rfl rfl rfl (hs := agg32) (hv := (by first | exact hF_prev _ _ | exact hF_item _ _ | exact hF_knows _ _ | exact hF_sum _ _ | exact hF_code _ _)) (hk := ?_)))
      | ((with_reducible refine at_d 61 ?_); (refine wl_fld (r := 54) fld34_8 rfl rfl rfl rfl (hk := ?_)))
      | ((with_reducible refine at_d 62 ?_); (refine wl_loadP rfl rfl rfl (hs := agg32) (hv := (by first | exact hF_prev _ _ | exact hF_item _ _ | exact hF_knows _ _ | exact hF_sum _ _ | exact hF_code _ _)) (hk := ?_)))
      | ((with_reducible refine at_d 63 ?_); (refine wl_eqN rfl rfl eqn32 rfl rfl hH.knows.1 hG.knows.1 (decide_eq_true E7.out) (hk := ?_)))
      | ((with_reducible refine at_d 66 ?_); (refine wl_fld (r := 60) fld34_9 rfl rfl rfl rfl (hk := ?_)))
      | ((with_reducible refine at_d 67 ?_); (refine wl_loadP rfl rfl rfl (hs := agg28) (hv := (by first | exact hF_prev _ _ | exact hF_item _ _ | exact hF_knows _ _ | exact hF_sum _ _ | exact hF_code _ _)) (hk := ?_)))
      | ((with_reducible refine at_d 68 ?_); (refine wl_fld (r := 60) fld34_9 rfl rfl rfl rfl (hk := ?_)))
      | ((with_reducible refine at_d 69 ?_); (refine wl_loadP rfl rfl rfl (hs := agg28) (hv := (by first | exact hF_prev _ _ | exact hF_item _ _ | exact hF_knows _ _ | exact hF_sum _ _ | exact hF_code _ _)) (hk := ?_)))
      | ((with_reducible refine at_d 70 ?_); (refine wl_eqB rfl rfl eqb28 rfl rfl hH.sum.1 hG.sum.1 hH.sum.2 hG.sum.2 (decide_eq_false E8.out) (hk := ?_))))
    go_ret
    exact ⟨_, rfl, by rw [HFF.out]; rfl, hst.none⟩
  replace c8 := Decidable.not_not.1 c8
  have E8 := Lib.hid c8
  by_cases c9 : ¬ (H.size = G.size)
  · have E9 := Lib.hid c9
    have HFF : Hid (decide (H = G) = false) := by
      show _ = _
      exact decide_eq_false fun e => c9 (by rw [e])
    clear c9
    go_wp2_with (first
      | go_skip
      | ((with_reducible refine at_d 2 ?_); go_loud (refine wl_box rfl rfl rfl (by first | rfl | exact row_one _) hst ?_; clear hst; intro b2 w2 hb2 hst))
      | ((with_reducible refine at_d 3 ?_); go_loud (refine wl_box rfl rfl rfl (by first | rfl | exact row_one _) hst ?_; clear hst; intro b3 w3 hb3 hst))
      | ((with_reducible refine at_d 5 ?_); go_loud (refine wl_fld (r := 53) fld34_7 rfl rfl rfl rfl (hk := ?_)))
      | ((with_reducible refine at_d 6 ?_); go_loud (refine wl_load1v rfl rfl rfl (hs := sc31) (hk := ?_)))
      | ((with_reducible refine at_d 7 ?_); go_loud (refine wl_fld (r := 53) fld34_7 rfl rfl rfl rfl (hk := ?_)))
      | ((with_reducible refine at_d 8 ?_); go_loud (refine wl_load1v rfl rfl rfl (hs := sc31) (hk := ?_)))
      | ((with_reducible refine at_d 9 ?_); go_loud (refine wl_call pl84 rfl rfl rfl (sequal_any _ _ H.toks G.toks _ (HTH.out _ hst.none) (HTG.out _ hst.none)) ?_; rintro v9 w9 ⟨rfl, hst9⟩; replace hst := hst.call hst9; clear hst9; rw [HEQ.out]))
      | ((with_reducible refine at_d 11 ?_); go_loud (refine wl_fld (r := 0) fld34_0 rfl rfl rfl rfl (hk := ?_)))
      | ((with_reducible refine at_d 12 ?_); go_loud (refine wl_load1v rfl rfl rfl (hs := sc3) (hk := ?_)))
      | ((with_reducible refine at_d 13 ?_); go_loud (refine wl_fld (r := 0) fld34_0 rfl rfl rfl rfl (hk := ?_)))
      | ((with_reducible refine at_d 14 ?_); go_loud (refine wl_load1v rfl rfl rfl (hs := sc3) (hk := ?_)))
      | ((with_reducible refine at_d 15 ?_); go_loud (refine wl_cmp (b := .eql) (p := H.writer) (q := G.writer) (r := true) (by show decide (H.writer = G.writer) = true; exact (decide_eq_true E0.out)) rfl rfl rfl rfl rfl (hk := ?_)))
      | ((with_reducible refine at_d 17 ?_); (refine wl_fld (r := 1) fld34_1 rfl rfl rfl rfl (hk := ?_)))
      | ((with_reducible refine at_d 18 ?_); (refine wl_load1v rfl rfl rfl (hs := sc26) (hk := ?_)))
      | ((with_reducible refine at_d 19 ?_); (refine wl_fld (r := 1) fld34_1 rfl rfl rfl rfl (hk := ?_)))
      | ((with_reducible refine at_d 20 ?_); (refine wl_load1v rfl rfl rfl (hs := sc26) (hk := ?_)))
      | ((with_reducible refine at_d 21 ?_); (refine wl_cmp (b := .eql) (p := (H.seq : Int)) (q := (G.seq : Int)) (r := true) (by show decide ((H.seq : Int) = (G.seq : Int)) = true; exact (decide_eq_true E1.out)) rfl rfl rfl rfl rfl (hk := ?_)))
      | ((with_reducible refine at_d 24 ?_); (refine wl_fld (r := 2) fld34_2 rfl rfl rfl rfl (hk := ?_)))
      | ((with_reducible refine at_d 25 ?_); (refine wl_loadP rfl rfl rfl (hs := agg28) (hv := (by first | exact hF_prev _ _ | exact hF_item _ _ | exact hF_knows _ _ | exact hF_sum _ _ | exact hF_code _ _)) (hk := ?_)))
      | ((with_reducible refine at_d 26 ?_); (refine wl_fld (r := 2) fld34_2 rfl rfl rfl rfl (hk := ?_)))
      | ((with_reducible refine at_d 27 ?_); (refine wl_loadP rfl rfl rfl (hs := agg28) (hv := (by first | exact hF_prev _ _ | exact hF_item _ _ | exact hF_knows _ _ | exact hF_sum _ _ | exact hF_code _ _)) (hk := ?_)))
      | ((with_reducible refine at_d 28 ?_); (refine wl_eqB rfl rfl eqb28 rfl rfl hH.prev.1 hG.prev.1 hH.prev.2 hG.prev.2 (decide_eq_true E2.out) (hk := ?_)))
      | ((with_reducible refine at_d 31 ?_); (refine wl_fld (r := 34) fld34_3 rfl rfl rfl rfl (hk := ?_)))
      | ((with_reducible refine at_d 32 ?_); (refine wl_load1v rfl rfl rfl (hs := sc3) (hk := ?_)))
      | ((with_reducible refine at_d 33 ?_); (refine wl_fld (r := 34) fld34_3 rfl rfl rfl rfl (hk := ?_)))
      | ((with_reducible refine at_d 34 ?_); (refine wl_load1v rfl rfl rfl (hs := sc3) (hk := ?_)))
      | ((with_reducible refine at_d 35 ?_); (refine wl_cmp (b := .eql) (p := H.epoch) (q := G.epoch) (r := true) (by show decide (H.epoch = G.epoch) = true; exact (decide_eq_true E3.out)) rfl rfl rfl rfl rfl (hk := ?_)))
      | ((with_reducible refine at_d 38 ?_); (refine wl_fld (r := 35) fld34_4 rfl rfl rfl rfl (hk := ?_)))
      | ((with_reducible refine at_d 39 ?_); (refine wl_load1v rfl rfl rfl (hs := sc4) (hk := ?_)))
      | ((with_reducible refine at_d 40 ?_); (refine wl_fld (r := 35) fld34_4 rfl rfl rfl rfl (hk := ?_)))
      | ((with_reducible refine at_d 41 ?_); (refine wl_load1v rfl rfl rfl (hs := sc4) (hk := ?_)))
      | ((with_reducible refine at_d 42 ?_); (refine wl_eqBool (p := H.control) (q := G.control) (r := true) (decide_eq_true E4.out) rfl rfl rfl rfl (hk := ?_)))
      | ((with_reducible refine at_d 45 ?_); (refine wl_fld (r := 36) fld34_5 rfl rfl rfl rfl (hk := ?_)))
      | ((with_reducible refine at_d 46 ?_); (refine wl_load1v rfl rfl rfl (hs := sc26) (hk := ?_)))
      | ((with_reducible refine at_d 47 ?_); (refine wl_fld (r := 36) fld34_5 rfl rfl rfl rfl (hk := ?_)))
      | ((with_reducible refine at_d 48 ?_); (refine wl_load1v rfl rfl rfl (hs := sc26) (hk := ?_)))
      | ((with_reducible refine at_d 49 ?_); (refine wl_cmp (b := .eql) (p := (H.time : Int)) (q := (G.time : Int)) (r := true) (by show decide ((H.time : Int) = (G.time : Int)) = true; exact (decide_eq_true E5.out)) rfl rfl rfl rfl rfl (hk := ?_)))
      | ((with_reducible refine at_d 52 ?_); (refine wl_fld (r := 37) fld34_6 rfl rfl rfl rfl (hk := ?_)))
      | ((with_reducible refine at_d 53 ?_); (refine wl_loadP rfl rfl rfl (hs := agg30) (hv := (by first | exact hF_prev _ _ | exact hF_item _ _ | exact hF_knows _ _ | exact hF_sum _ _ | exact hF_code _ _)) (hk := ?_)))
      | ((with_reducible refine at_d 54 ?_); (refine wl_fld (r := 37) fld34_6 rfl rfl rfl rfl (hk := ?_)))
      | ((with_reducible refine at_d 55 ?_); (refine wl_loadP rfl rfl rfl (hs := agg30) (hv := (by first | exact hF_prev _ _ | exact hF_item _ _ | exact hF_knows _ _ | exact hF_sum _ _ | exact hF_code _ _)) (hk := ?_)))
      | ((with_reducible refine at_d 56 ?_); (refine wl_eqB rfl rfl eqb30 rfl rfl hH.item.1 hG.item.1 hH.item.2 hG.item.2 (decide_eq_true E6.out) (hk := ?_)))
      | ((with_reducible refine at_d 59 ?_); (refine wl_fld (r := 54) fld34_8 rfl rfl rfl rfl (hk := ?_)))
      | ((with_reducible refine at_d 60 ?_); (refine wl_loadP rfl rfl rfl (hs := agg32) (hv := (by first | exact hF_prev _ _ | exact hF_item _ _ | exact hF_knows _ _ | exact hF_sum _ _ | exact hF_code _ _)) (hk := ?_)))
      | ((with_reducible refine at_d 61 ?_); (refine wl_fld (r := 54) fld34_8 rfl rfl rfl rfl (hk := ?_)))
      | ((with_reducible refine at_d 62 ?_); (refine wl_loadP rfl rfl rfl (hs := agg32) (hv := (by first | exact hF_prev _ _ | exact hF_item _ _ | exact hF_knows _ _ | exact hF_sum _ _ | exact hF_code _ _)) (hk := ?_)))
      | ((with_reducible refine at_d 63 ?_); (refine wl_eqN rfl rfl eqn32 rfl rfl hH.knows.1 hG.knows.1 (decide_eq_true E7.out) (hk := ?_)))
      | ((with_reducible refine at_d 66 ?_); (refine wl_fld (r := 60) fld34_9 rfl rfl rfl rfl (hk := ?_)))
      | ((with_reducible refine at_d 67 ?_); (refine wl_loadP rfl rfl rfl (hs := agg28) (hv := (by first | exact hF_prev _ _ | exact hF_item _ _ | exact hF_knows _ _ | exact hF_sum _ _ | exact hF_code _ _)) (hk := ?_)))
      | ((with_reducible refine at_d 68 ?_); (refine wl_fld (r := 60) fld34_9 rfl rfl rfl rfl (hk := ?_)))
      | ((with_reducible refine at_d 69 ?_); (refine wl_loadP rfl rfl rfl (hs := agg28) (hv := (by first | exact hF_prev _ _ | exact hF_item _ _ | exact hF_knows _ _ | exact hF_sum _ _ | exact hF_code _ _)) (hk := ?_)))
      | ((with_reducible refine at_d 70 ?_); (refine wl_eqB rfl rfl eqb28 rfl rfl hH.sum.1 hG.sum.1 hH.sum.2 hG.sum.2 (decide_eq_true E8.out) (hk := ?_)))
      | ((with_reducible refine at_d 73 ?_); (refine wl_fld (r := 92) fld34_10 rfl rfl rfl rfl (hk := ?_)))
      | ((with_reducible refine at_d 74 ?_); (refine wl_load1v rfl rfl rfl (hs := sc3) (hk := ?_)))
      | ((with_reducible refine at_d 75 ?_); (refine wl_fld (r := 92) fld34_10 rfl rfl rfl rfl (hk := ?_)))
      | ((with_reducible refine at_d 76 ?_); (refine wl_load1v rfl rfl rfl (hs := sc3) (hk := ?_)))
      | ((with_reducible refine at_d 77 ?_); (refine wl_cmp (b := .eql) (p := H.size) (q := G.size) (r := false) (by show decide (H.size = G.size) = false; exact (decide_eq_false E9.out)) rfl rfl rfl rfl rfl (hk := ?_))))
    go_ret
    exact ⟨_, rfl, by rw [HFF.out]; rfl, hst.none⟩
  replace c9 := Decidable.not_not.1 c9
  have E9 := Lib.hid c9
  by_cases c10 : ¬ (H.code = G.code)
  · have E10 := Lib.hid c10
    have HFF : Hid (decide (H = G) = false) := by
      show _ = _
      exact decide_eq_false fun e => c10 (by rw [e])
    clear c10
    go_wp2_with (first
      | go_skip
      | ((with_reducible refine at_d 2 ?_); go_loud (refine wl_box rfl rfl rfl (by first | rfl | exact row_one _) hst ?_; clear hst; intro b2 w2 hb2 hst))
      | ((with_reducible refine at_d 3 ?_); go_loud (refine wl_box rfl rfl rfl (by first | rfl | exact row_one _) hst ?_; clear hst; intro b3 w3 hb3 hst))
      | ((with_reducible refine at_d 5 ?_); go_loud (refine wl_fld (r := 53) fld34_7 rfl rfl rfl rfl (hk := ?_)))
      | ((with_reducible refine at_d 6 ?_); go_loud (refine wl_load1v rfl rfl rfl (hs := sc31) (hk := ?_)))
      | ((with_reducible refine at_d 7 ?_); go_loud (refine wl_fld (r := 53) fld34_7 rfl rfl rfl rfl (hk := ?_)))
      | ((with_reducible refine at_d 8 ?_); go_loud (refine wl_load1v rfl rfl rfl (hs := sc31) (hk := ?_)))
      | ((with_reducible refine at_d 9 ?_); go_loud (refine wl_call pl84 rfl rfl rfl (sequal_any _ _ H.toks G.toks _ (HTH.out _ hst.none) (HTG.out _ hst.none)) ?_; rintro v9 w9 ⟨rfl, hst9⟩; replace hst := hst.call hst9; clear hst9; rw [HEQ.out]))
      | ((with_reducible refine at_d 11 ?_); go_loud (refine wl_fld (r := 0) fld34_0 rfl rfl rfl rfl (hk := ?_)))
      | ((with_reducible refine at_d 12 ?_); go_loud (refine wl_load1v rfl rfl rfl (hs := sc3) (hk := ?_)))
      | ((with_reducible refine at_d 13 ?_); go_loud (refine wl_fld (r := 0) fld34_0 rfl rfl rfl rfl (hk := ?_)))
      | ((with_reducible refine at_d 14 ?_); go_loud (refine wl_load1v rfl rfl rfl (hs := sc3) (hk := ?_)))
      | ((with_reducible refine at_d 15 ?_); go_loud (refine wl_cmp (b := .eql) (p := H.writer) (q := G.writer) (r := true) (by show decide (H.writer = G.writer) = true; exact (decide_eq_true E0.out)) rfl rfl rfl rfl rfl (hk := ?_)))
      | ((with_reducible refine at_d 17 ?_); (refine wl_fld (r := 1) fld34_1 rfl rfl rfl rfl (hk := ?_)))
      | ((with_reducible refine at_d 18 ?_); (refine wl_load1v rfl rfl rfl (hs := sc26) (hk := ?_)))
      | ((with_reducible refine at_d 19 ?_); (refine wl_fld (r := 1) fld34_1 rfl rfl rfl rfl (hk := ?_)))
      | ((with_reducible refine at_d 20 ?_); (refine wl_load1v rfl rfl rfl (hs := sc26) (hk := ?_)))
      | ((with_reducible refine at_d 21 ?_); (refine wl_cmp (b := .eql) (p := (H.seq : Int)) (q := (G.seq : Int)) (r := true) (by show decide ((H.seq : Int) = (G.seq : Int)) = true; exact (decide_eq_true E1.out)) rfl rfl rfl rfl rfl (hk := ?_)))
      | ((with_reducible refine at_d 24 ?_); (refine wl_fld (r := 2) fld34_2 rfl rfl rfl rfl (hk := ?_)))
      | ((with_reducible refine at_d 25 ?_); (refine wl_loadP rfl rfl rfl (hs := agg28) (hv := (by first | exact hF_prev _ _ | exact hF_item _ _ | exact hF_knows _ _ | exact hF_sum _ _ | exact hF_code _ _)) (hk := ?_)))
      | ((with_reducible refine at_d 26 ?_); (refine wl_fld (r := 2) fld34_2 rfl rfl rfl rfl (hk := ?_)))
      | ((with_reducible refine at_d 27 ?_); (refine wl_loadP rfl rfl rfl (hs := agg28) (hv := (by first | exact hF_prev _ _ | exact hF_item _ _ | exact hF_knows _ _ | exact hF_sum _ _ | exact hF_code _ _)) (hk := ?_)))
      | ((with_reducible refine at_d 28 ?_); (refine wl_eqB rfl rfl eqb28 rfl rfl hH.prev.1 hG.prev.1 hH.prev.2 hG.prev.2 (decide_eq_true E2.out) (hk := ?_)))
      | ((with_reducible refine at_d 31 ?_); (refine wl_fld (r := 34) fld34_3 rfl rfl rfl rfl (hk := ?_)))
      | ((with_reducible refine at_d 32 ?_); (refine wl_load1v rfl rfl rfl (hs := sc3) (hk := ?_)))
      | ((with_reducible refine at_d 33 ?_); (refine wl_fld (r := 34) fld34_3 rfl rfl rfl rfl (hk := ?_)))
      | ((with_reducible refine at_d 34 ?_); (refine wl_load1v rfl rfl rfl (hs := sc3) (hk := ?_)))
      | ((with_reducible refine at_d 35 ?_); (refine wl_cmp (b := .eql) (p := H.epoch) (q := G.epoch) (r := true) (by show decide (H.epoch = G.epoch) = true; exact (decide_eq_true E3.out)) rfl rfl rfl rfl rfl (hk := ?_)))
      | ((with_reducible refine at_d 38 ?_); (refine wl_fld (r := 35) fld34_4 rfl rfl rfl rfl (hk := ?_)))
      | ((with_reducible refine at_d 39 ?_); (refine wl_load1v rfl rfl rfl (hs := sc4) (hk := ?_)))
      | ((with_reducible refine at_d 40 ?_); (refine wl_fld (r := 35) fld34_4 rfl rfl rfl rfl (hk := ?_)))
      | ((with_reducible refine at_d 41 ?_); (refine wl_load1v rfl rfl rfl (hs := sc4) (hk := ?_)))
      | ((with_reducible refine at_d 42 ?_); (refine wl_eqBool (p := H.control) (q := G.control) (r := true) (decide_eq_true E4.out) rfl rfl rfl rfl (hk := ?_)))
      | ((with_reducible refine at_d 45 ?_); (refine wl_fld (r := 36) fld34_5 rfl rfl rfl rfl (hk := ?_)))
      | ((with_reducible refine at_d 46 ?_); (refine wl_load1v rfl rfl rfl (hs := sc26) (hk := ?_)))
      | ((with_reducible refine at_d 47 ?_); (refine wl_fld (r := 36) fld34_5 rfl rfl rfl rfl (hk := ?_)))
      | ((with_reducible refine at_d 48 ?_); (refine wl_load1v rfl rfl rfl (hs := sc26) (hk := ?_)))
      | ((with_reducible refine at_d 49 ?_); (refine wl_cmp (b := .eql) (p := (H.time : Int)) (q := (G.time : Int)) (r := true) (by show decide ((H.time : Int) = (G.time : Int)) = true; exact (decide_eq_true E5.out)) rfl rfl rfl rfl rfl (hk := ?_)))
      | ((with_reducible refine at_d 52 ?_); (refine wl_fld (r := 37) fld34_6 rfl rfl rfl rfl (hk := ?_)))
      | ((with_reducible refine at_d 53 ?_); (refine wl_loadP rfl rfl rfl (hs := agg30) (hv := (by first | exact hF_prev _ _ | exact hF_item _ _ | exact hF_knows _ _ | exact hF_sum _ _ | exact hF_code _ _)) (hk := ?_)))
      | ((with_reducible refine at_d 54 ?_); (refine wl_fld (r := 37) fld34_6 rfl rfl rfl rfl (hk := ?_)))
      | ((with_reducible refine at_d 55 ?_); (refine wl_loadP rfl rfl rfl (hs := agg30) (hv := (by first | exact hF_prev _ _ | exact hF_item _ _ | exact hF_knows _ _ | exact hF_sum _ _ | exact hF_code _ _)) (hk := ?_)))
      | ((with_reducible refine at_d 56 ?_); (refine wl_eqB rfl rfl eqb30 rfl rfl hH.item.1 hG.item.1 hH.item.2 hG.item.2 (decide_eq_true E6.out) (hk := ?_)))
      | ((with_reducible refine at_d 59 ?_); (refine wl_fld (r := 54) fld34_8 rfl rfl rfl rfl (hk := ?_)))
      | ((with_reducible refine at_d 60 ?_); (refine wl_loadP rfl rfl rfl (hs := agg32) (hv := (by first | exact hF_prev _ _ | exact hF_item _ _ | exact hF_knows _ _ | exact hF_sum _ _ | exact hF_code _ _)) (hk := ?_)))
      | ((with_reducible refine at_d 61 ?_); (refine wl_fld (r := 54) fld34_8 rfl rfl rfl rfl (hk := ?_)))
      | ((with_reducible refine at_d 62 ?_); (refine wl_loadP rfl rfl rfl (hs := agg32) (hv := (by first | exact hF_prev _ _ | exact hF_item _ _ | exact hF_knows _ _ | exact hF_sum _ _ | exact hF_code _ _)) (hk := ?_)))
      | ((with_reducible refine at_d 63 ?_); (refine wl_eqN rfl rfl eqn32 rfl rfl hH.knows.1 hG.knows.1 (decide_eq_true E7.out) (hk := ?_)))
      | ((with_reducible refine at_d 66 ?_); (refine wl_fld (r := 60) fld34_9 rfl rfl rfl rfl (hk := ?_)))
      | ((with_reducible refine at_d 67 ?_); (refine wl_loadP rfl rfl rfl (hs := agg28) (hv := (by first | exact hF_prev _ _ | exact hF_item _ _ | exact hF_knows _ _ | exact hF_sum _ _ | exact hF_code _ _)) (hk := ?_)))
      | ((with_reducible refine at_d 68 ?_); (refine wl_fld (r := 60) fld34_9 rfl rfl rfl rfl (hk := ?_)))
      | ((with_reducible refine at_d 69 ?_); (refine wl_loadP rfl rfl rfl (hs := agg28) (hv := (by first | exact hF_prev _ _ | exact hF_item _ _ | exact hF_knows _ _ | exact hF_sum _ _ | exact hF_code _ _)) (hk := ?_)))
      | ((with_reducible refine at_d 70 ?_); (refine wl_eqB rfl rfl eqb28 rfl rfl hH.sum.1 hG.sum.1 hH.sum.2 hG.sum.2 (decide_eq_true E8.out) (hk := ?_)))
      | ((with_reducible refine at_d 73 ?_); (refine wl_fld (r := 92) fld34_10 rfl rfl rfl rfl (hk := ?_)))
      | ((with_reducible refine at_d 74 ?_); (refine wl_load1v rfl rfl rfl (hs := sc3) (hk := ?_)))
      | ((with_reducible refine at_d 75 ?_); (refine wl_fld (r := 92) fld34_10 rfl rfl rfl rfl (hk := ?_)))
      | ((with_reducible refine at_d 76 ?_); (refine wl_load1v rfl rfl rfl (hs := sc3) (hk := ?_)))
      | ((with_reducible refine at_d 77 ?_); (refine wl_cmp (b := .eql) (p := H.size) (q := G.size) (r := true) (by show decide (H.size = G.size) = true; exact (decide_eq_true E9.out)) rfl rfl rfl rfl rfl (hk := ?_)))
      | ((with_reducible refine at_d 80 ?_); (refine wl_fld (r := 93) fld34_11 rfl rfl rfl rfl (hk := ?_)))
      | ((with_reducible refine at_d 81 ?_); (refine wl_loadP rfl rfl rfl (hs := agg28) (hv := (by first | exact hF_prev _ _ | exact hF_item _ _ | exact hF_knows _ _ | exact hF_sum _ _ | exact hF_code _ _)) (hk := ?_)))
      | ((with_reducible refine at_d 82 ?_); (refine wl_fld (r := 93) fld34_11 rfl rfl rfl rfl (hk := ?_)))
      | ((with_reducible refine at_d 83 ?_); (refine wl_loadP rfl rfl rfl (hs := agg28) (hv := (by first | exact hF_prev _ _ | exact hF_item _ _ | exact hF_knows _ _ | exact hF_sum _ _ | exact hF_code _ _)) (hk := ?_)))
      | ((with_reducible refine at_d 84 ?_); (refine wl_eqB rfl rfl eqb28 rfl rfl hH.code.1 hG.code.1 hH.code.2 hG.code.2 (decide_eq_false E10.out) (hk := ?_))))
    go_ret
    exact ⟨_, rfl, by rw [HFF.out]; rfl, hst.none⟩
  replace c10 := Decidable.not_not.1 c10
  have E10 := Lib.hid c10
  have HFF : Hid (decide (H = G) = true) := by
    show _ = _
    refine decide_eq_true ?_
    obtain ⟨a1, a2, a3, a4, a5, a6, a7, a8, a9, a10, a11, a12⟩ := H
    obtain ⟨b1, b2, b3, b4, b5, b6, b7, b8, b9, b10, b11, b12⟩ := G
    simp only at *
    have e2 := c1
    simp only [Hdr.mk.injEq]
    exact ⟨c0, by omega, c2, c3, c4, by omega, c6, CT.out, c7, c8, c9, c10⟩
  clear c0 c1 c2 c3 c4 c5 c6 c7 c8 c9 c10
  go_wp2_with (first
      | go_skip
      | ((with_reducible refine at_d 2 ?_); go_loud (refine wl_box rfl rfl rfl (by first | rfl | exact row_one _) hst ?_; clear hst; intro b2 w2 hb2 hst))
      | ((with_reducible refine at_d 3 ?_); go_loud (refine wl_box rfl rfl rfl (by first | rfl | exact row_one _) hst ?_; clear hst; intro b3 w3 hb3 hst))
      | ((with_reducible refine at_d 5 ?_); go_loud (refine wl_fld (r := 53) fld34_7 rfl rfl rfl rfl (hk := ?_)))
      | ((with_reducible refine at_d 6 ?_); go_loud (refine wl_load1v rfl rfl rfl (hs := sc31) (hk := ?_)))
      | ((with_reducible refine at_d 7 ?_); go_loud (refine wl_fld (r := 53) fld34_7 rfl rfl rfl rfl (hk := ?_)))
      | ((with_reducible refine at_d 8 ?_); go_loud (refine wl_load1v rfl rfl rfl (hs := sc31) (hk := ?_)))
      | ((with_reducible refine at_d 9 ?_); go_loud (refine wl_call pl84 rfl rfl rfl (sequal_any _ _ H.toks G.toks _ (HTH.out _ hst.none) (HTG.out _ hst.none)) ?_; rintro v9 w9 ⟨rfl, hst9⟩; replace hst := hst.call hst9; clear hst9; rw [HEQ.out]))
      | ((with_reducible refine at_d 11 ?_); go_loud (refine wl_fld (r := 0) fld34_0 rfl rfl rfl rfl (hk := ?_)))
      | ((with_reducible refine at_d 12 ?_); go_loud (refine wl_load1v rfl rfl rfl (hs := sc3) (hk := ?_)))
      | ((with_reducible refine at_d 13 ?_); go_loud (refine wl_fld (r := 0) fld34_0 rfl rfl rfl rfl (hk := ?_)))
      | ((with_reducible refine at_d 14 ?_); go_loud (refine wl_load1v rfl rfl rfl (hs := sc3) (hk := ?_)))
      | ((with_reducible refine at_d 15 ?_); go_loud (refine wl_cmp (b := .eql) (p := H.writer) (q := G.writer) (r := true) (by show decide (H.writer = G.writer) = true; exact (decide_eq_true E0.out)) rfl rfl rfl rfl rfl (hk := ?_)))
      | ((with_reducible refine at_d 17 ?_); (refine wl_fld (r := 1) fld34_1 rfl rfl rfl rfl (hk := ?_)))
      | ((with_reducible refine at_d 18 ?_); (refine wl_load1v rfl rfl rfl (hs := sc26) (hk := ?_)))
      | ((with_reducible refine at_d 19 ?_); (refine wl_fld (r := 1) fld34_1 rfl rfl rfl rfl (hk := ?_)))
      | ((with_reducible refine at_d 20 ?_); (refine wl_load1v rfl rfl rfl (hs := sc26) (hk := ?_)))
      | ((with_reducible refine at_d 21 ?_); (refine wl_cmp (b := .eql) (p := (H.seq : Int)) (q := (G.seq : Int)) (r := true) (by show decide ((H.seq : Int) = (G.seq : Int)) = true; exact (decide_eq_true E1.out)) rfl rfl rfl rfl rfl (hk := ?_)))
      | ((with_reducible refine at_d 24 ?_); (refine wl_fld (r := 2) fld34_2 rfl rfl rfl rfl (hk := ?_)))
      | ((with_reducible refine at_d 25 ?_); (refine wl_loadP rfl rfl rfl (hs := agg28) (hv := (by first | exact hF_prev _ _ | exact hF_item _ _ | exact hF_knows _ _ | exact hF_sum _ _ | exact hF_code _ _)) (hk := ?_)))
      | ((with_reducible refine at_d 26 ?_); (refine wl_fld (r := 2) fld34_2 rfl rfl rfl rfl (hk := ?_)))
      | ((with_reducible refine at_d 27 ?_); (refine wl_loadP rfl rfl rfl (hs := agg28) (hv := (by first | exact hF_prev _ _ | exact hF_item _ _ | exact hF_knows _ _ | exact hF_sum _ _ | exact hF_code _ _)) (hk := ?_)))
      | ((with_reducible refine at_d 28 ?_); (refine wl_eqB rfl rfl eqb28 rfl rfl hH.prev.1 hG.prev.1 hH.prev.2 hG.prev.2 (decide_eq_true E2.out) (hk := ?_)))
      | ((with_reducible refine at_d 31 ?_); (refine wl_fld (r := 34) fld34_3 rfl rfl rfl rfl (hk := ?_)))
      | ((with_reducible refine at_d 32 ?_); (refine wl_load1v rfl rfl rfl (hs := sc3) (hk := ?_)))
      | ((with_reducible refine at_d 33 ?_); (refine wl_fld (r := 34) fld34_3 rfl rfl rfl rfl (hk := ?_)))
      | ((with_reducible refine at_d 34 ?_); (refine wl_load1v rfl rfl rfl (hs := sc3) (hk := ?_)))
      | ((with_reducible refine at_d 35 ?_); (refine wl_cmp (b := .eql) (p := H.epoch) (q := G.epoch) (r := true) (by show decide (H.epoch = G.epoch) = true; exact (decide_eq_true E3.out)) rfl rfl rfl rfl rfl (hk := ?_)))
      | ((with_reducible refine at_d 38 ?_); (refine wl_fld (r := 35) fld34_4 rfl rfl rfl rfl (hk := ?_)))
      | ((with_reducible refine at_d 39 ?_); (refine wl_load1v rfl rfl rfl (hs := sc4) (hk := ?_)))
      | ((with_reducible refine at_d 40 ?_); (refine wl_fld (r := 35) fld34_4 rfl rfl rfl rfl (hk := ?_)))
      | ((with_reducible refine at_d 41 ?_); (refine wl_load1v rfl rfl rfl (hs := sc4) (hk := ?_)))
      | ((with_reducible refine at_d 42 ?_); (refine wl_eqBool (p := H.control) (q := G.control) (r := true) (decide_eq_true E4.out) rfl rfl rfl rfl (hk := ?_)))
      | ((with_reducible refine at_d 45 ?_); (refine wl_fld (r := 36) fld34_5 rfl rfl rfl rfl (hk := ?_)))
      | ((with_reducible refine at_d 46 ?_); (refine wl_load1v rfl rfl rfl (hs := sc26) (hk := ?_)))
      | ((with_reducible refine at_d 47 ?_); (refine wl_fld (r := 36) fld34_5 rfl rfl rfl rfl (hk := ?_)))
      | ((with_reducible refine at_d 48 ?_); (refine wl_load1v rfl rfl rfl (hs := sc26) (hk := ?_)))
      | ((with_reducible refine at_d 49 ?_); (refine wl_cmp (b := .eql) (p := (H.time : Int)) (q := (G.time : Int)) (r := true) (by show decide ((H.time : Int) = (G.time : Int)) = true; exact (decide_eq_true E5.out)) rfl rfl rfl rfl rfl (hk := ?_)))
      | ((with_reducible refine at_d 52 ?_); (refine wl_fld (r := 37) fld34_6 rfl rfl rfl rfl (hk := ?_)))
      | ((with_reducible refine at_d 53 ?_); (refine wl_loadP rfl rfl rfl (hs := agg30) (hv := (by first | exact hF_prev _ _ | exact hF_item _ _ | exact hF_knows _ _ | exact hF_sum _ _ | exact hF_code _ _)) (hk := ?_)))
      | ((with_reducible refine at_d 54 ?_); (refine wl_fld (r := 37) fld34_6 rfl rfl rfl rfl (hk := ?_)))
      | ((with_reducible refine at_d 55 ?_); (refine wl_loadP rfl rfl rfl (hs := agg30) (hv := (by first | exact hF_prev _ _ | exact hF_item _ _ | exact hF_knows _ _ | exact hF_sum _ _ | exact hF_code _ _)) (hk := ?_)))
      | ((with_reducible refine at_d 56 ?_); (refine wl_eqB rfl rfl eqb30 rfl rfl hH.item.1 hG.item.1 hH.item.2 hG.item.2 (decide_eq_true E6.out) (hk := ?_)))
      | ((with_reducible refine at_d 59 ?_); (refine wl_fld (r := 54) fld34_8 rfl rfl rfl rfl (hk := ?_)))
      | ((with_reducible refine at_d 60 ?_); (refine wl_loadP rfl rfl rfl (hs := agg32) (hv := (by first | exact hF_prev _ _ | exact hF_item _ _ | exact hF_knows _ _ | exact hF_sum _ _ | exact hF_code _ _)) (hk := ?_)))
      | ((with_reducible refine at_d 61 ?_); (refine wl_fld (r := 54) fld34_8 rfl rfl rfl rfl (hk := ?_)))
      | ((with_reducible refine at_d 62 ?_); (refine wl_loadP rfl rfl rfl (hs := agg32) (hv := (by first | exact hF_prev _ _ | exact hF_item _ _ | exact hF_knows _ _ | exact hF_sum _ _ | exact hF_code _ _)) (hk := ?_)))
      | ((with_reducible refine at_d 63 ?_); (refine wl_eqN rfl rfl eqn32 rfl rfl hH.knows.1 hG.knows.1 (decide_eq_true E7.out) (hk := ?_)))
      | ((with_reducible refine at_d 66 ?_); (refine wl_fld (r := 60) fld34_9 rfl rfl rfl rfl (hk := ?_)))
      | ((with_reducible refine at_d 67 ?_); (refine wl_loadP rfl rfl rfl (hs := agg28) (hv := (by first | exact hF_prev _ _ | exact hF_item _ _ | exact hF_knows _ _ | exact hF_sum _ _ | exact hF_code _ _)) (hk := ?_)))
      | ((with_reducible refine at_d 68 ?_); (refine wl_fld (r := 60) fld34_9 rfl rfl rfl rfl (hk := ?_)))
      | ((with_reducible refine at_d 69 ?_); (refine wl_loadP rfl rfl rfl (hs := agg28) (hv := (by first | exact hF_prev _ _ | exact hF_item _ _ | exact hF_knows _ _ | exact hF_sum _ _ | exact hF_code _ _)) (hk := ?_)))
      | ((with_reducible refine at_d 70 ?_); (refine wl_eqB rfl rfl eqb28 rfl rfl hH.sum.1 hG.sum.1 hH.sum.2 hG.sum.2 (decide_eq_true E8.out) (hk := ?_)))
      | ((with_reducible refine at_d 73 ?_); (refine wl_fld (r := 92) fld34_10 rfl rfl rfl rfl (hk := ?_)))
      | ((with_reducible refine at_d 74 ?_); (refine wl_load1v rfl rfl rfl (hs := sc3) (hk := ?_)))
      | ((with_reducible refine at_d 75 ?_); (refine wl_fld (r := 92) fld34_10 rfl rfl rfl rfl (hk := ?_)))
      | ((with_reducible refine at_d 76 ?_); (refine wl_load1v rfl rfl rfl (hs := sc3) (hk := ?_)))
      | ((with_reducible refine at_d 77 ?_); (refine wl_cmp (b := .eql) (p := H.size) (q := G.size) (r := true) (by show decide (H.size = G.size) = true; exact (decide_eq_true E9.out)) rfl rfl rfl rfl rfl (hk := ?_)))
      | ((with_reducible refine at_d 80 ?_); (refine wl_fld (r := 93) fld34_11 rfl rfl rfl rfl (hk := ?_)))
      | ((with_reducible refine at_d 81 ?_); (refine wl_loadP rfl rfl rfl (hs := agg28) (hv := (by first | exact hF_prev _ _ | exact hF_item _ _ | exact hF_knows _ _ | exact hF_sum _ _ | exact hF_code _ _)) (hk := ?_)))
      | ((with_reducible refine at_d 82 ?_); (refine wl_fld (r := 93) fld34_11 rfl rfl rfl rfl (hk := ?_)))
      | ((with_reducible refine at_d 83 ?_); (refine wl_loadP rfl rfl rfl (hs := agg28) (hv := (by first | exact hF_prev _ _ | exact hF_item _ _ | exact hF_knows _ _ | exact hF_sum _ _ | exact hF_code _ _)) (hk := ?_)))
      | ((with_reducible refine at_d 84 ?_); (refine wl_eqB rfl rfl eqb28 rfl rfl hH.code.1 hG.code.1 hH.code.2 hG.code.2 (decide_eq_true E10.out) (hk := ?_))))
  go_ret
  exact ⟨_, rfl, by rw [HFF.out]; rfl, hst.none⟩
end Go.Proofs.YthbobmpeaemdnaaDoor
