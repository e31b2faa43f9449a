/- The walks of jalousieref05.Num, jalousieref11.Less and Sorted. -/
import Derived.Test.YthbobmpeaemdnaaDoorOut1
import Derived.Test.YthbobmpeaemdnaaDoorHd1
namespace Go.Proofs.YthbobmpeaemdnaaDoor
open Go.RowKit Go.Jal

set_option maxRecDepth 100000 in
theorem refnum_any (x : Nat) (w : World) (hx : x < 18446744073709551616) : Ret Tryd.prog 75 #[.int .u64 (x : Int)] w fun v' w' => ∃ E', Own 1 5 v' (num x).length (bF (num x)) E' ∧ St w [] E' w' := by
  have hnl := num_len_le 9 x (by have : (18446744073709551616 : Nat) ≤ 128 ^ (9 + 1) := by decide
                                 omega)
  go_enter Tryd.func75, Tryd.ntmps75
  have hst := St.refl w
  go_wp2_with fail
  go_loopw [0, 3] (fun iv v3 wr => ∃ (y : Nat) (l' : List Nat) (E' : List (Nat × Obj)), iv = .int .u64 (y : Int) ∧ y ≤ x ∧ l' ++ num y = num x ∧ Own 1 5 v3 l'.length (bF l') E' ∧ St w [] E' wr) (fun iv _ _ => (intOf iv).toNat)
  case atStart => exact ⟨x, [], [], rfl, Nat.le_refl _, rfl, Own.nil, hst⟩
  case round =>
    clear hst
    obtain ⟨y, l', E', rfl, hyx, hl, hown, hst⟩ := hrel
    have hlen := congrArg List.length hl
    simp only [List.length_append] at hlen
    have hl6 : l'.length ≤ 10 := by omega
    have HL := Lib.hid hl
    clear hl hlen hnl
    by_cases hy : y < 128
    · have HB : Hid (num y = [y]) := num_small hy
      have ey : ¬ (0 : Int) < (y : Int) / 128 := by omega
      go_wp2_with (first
      | ((with_reducible refine at_d 6 ?_); go_loud (refine wl_cmp (p := (y : Int) / 128) (q := 0) (r := false) (by simp [cmpI] <;> omega) rfl rfl rfl rfl rfl (hk := ?_)))
      | ((with_reducible refine at_d 19 ?_); go_loud (refine wl_buildSlice1 rfl rfl elt35 (by decide) (by (conv => lhs; whnf) <;> rfl) (by first | exact row_one _ | rfl) hst ?_; clear hst; intro b19 w19 hb19 hst))
      | ((with_reducible refine at_d 20 ?_); go_loud (refine wl_append rfl rfl elt35 rfl rfl hown (L := [(b19, blk 1 (fun _ => nB y) 5)]) (hst.perm (List.perm_append_comm (l₁ := [_]))) (.inr ⟨_, 0, _, _, rfl, hst.hasb Pick.head, Nat.le_refl _, fun _ _ => rfl⟩) (by intro h; cases h) (by intro j _; rfl) (by omega) (by unfold maxLen; omega) ?_; intro v20 w20 E20 hown20 hst20 _; clear hst)))
      go_ret
      refine ⟨_, rfl, E20, ?_, hst20.sub (List.sublist_append_left _ _)⟩
      rw [← HL.out, HB.out, List.length_append]
      exact hown20.congr fun j hj => glue_one rfl (by simpa using hj)
    · obtain ⟨z, hz⟩ : ∃ z, z = y % 128 + 128 := ⟨_, rfl⟩
      obtain ⟨q, hq⟩ : ∃ q, q = y / 128 := ⟨_, rfl⟩
      have HB : Hid (num y = z :: num q) := by show _ = _; rw [num_big hy, hz, hq]
      have EQ : Hid ((y : Int) / 128 = (q : Int)) := by show _ = _; omega
      have hz2 : z < 256 := by omega
      have hq1 : q < y := by omega
      have hq0 : 0 < q := by omega
      have ez : (y : Int) % 128 + 128 = (z : Int) := by omega
      have EZ := Lib.hid ez
      have ei : ariI .add ((y : Int) % 128) 128 = (z : Int) := ez
      have EI := Lib.hid ei
      clear hz hq ez ei
      go_wp2_with (first
      | ((with_reducible refine at_d 6 ?_); (rw [EQ.out]; refine wl_cmp (p := (q : Int)) (q := 0) (r := true) (by simp [cmpI] <;> omega) rfl rfl rfl rfl rfl (hk := ?_)))
      | ((with_reducible refine at_d 10 ?_); (refine wl_ari (p := (y : Int) % 128) (q := 128) (r := (z : Int)) (k := .u64) (b := .add) EI.out (by show _ ∧ _; omega) rfl rfl rfl rfl rfl (hk := ?_)))
      | ((with_reducible refine at_d 12 ?_); (refine wl_buildSlice1 rfl rfl elt35 (by decide) (by (conv => lhs; whnf) <;> rfl) (by first | exact row_one _ | rfl) hst ?_; clear hst; intro b12 w12 hb12 hst))
      | ((with_reducible refine at_d 13 ?_); (refine wl_append rfl rfl elt35 rfl rfl hown (L := [(b12, blk 1 (fun _ => nB z) 5)]) (hst.perm (List.perm_append_comm (l₁ := [_]))) (.inr ⟨_, 0, _, _, rfl, hst.hasb Pick.head, Nat.le_refl _, fun _ _ => rfl⟩) (by intro h; cases h) (by intro j _; rfl) (by omega) (by unfold maxLen; omega) ?_; intro v13 w13 E13 hown13 hst13 _; clear hst)))
      go_roundw
      case rel =>
        refine ⟨q, l' ++ [z], E13, by rw [EQ.out], by omega, by rw [List.append_assoc, ← HL.out, HB.out]; rfl, ?_, hst13.sub (List.sublist_append_left _ _)⟩
        rw [List.length_append]
        exact hown13.congr fun j hj => glue_one rfl (by simpa using hj)
      case measure => simp [intOf]; omega
theorem lex_at : ∀ (a b : List Nat) (k : Nat), a.length = b.length → k < a.length → (∀ j, j < k → a.getD j 0 = b.getD j 0) → a.getD k 0 ≠ b.getD k 0 → lexLt a b = decide (a.getD k 0 < b.getD k 0)
  | [], _, k, _, hk, _, _ => by simp at hk
  | x :: a, [], _, hl, _, _, _ => by simp at hl
  | x :: a, y :: b, 0, _, _, _, hne => by simp at hne; simp [lexLt, hne]
  | x :: a, y :: b, k + 1, hl, hk, he, hne => by
    have h0 := he 0 (by omega)
    simp at h0
    have := lex_at a b k (by simpa using hl) (by simpa using hk) (fun j hj => by simpa using he (j + 1) (by omega)) (by simpa using hne)
    simp only [lexLt, h0, if_true, this]
    simp
theorem lex_eq : ∀ (a b : List Nat), a.length = b.length → (∀ j, j < a.length → a.getD j 0 = b.getD j 0) → lexLt a b = false
  | [], [], _, _ => rfl
  | x :: a, y :: b, hl, he => by
    have h0 := he 0 (by simp)
    simp at h0
    have := lex_eq a b (by simpa using hl) (fun j hj => by simpa using he (j + 1) (by simpa using hj))
    simp only [lexLt, h0, if_true, this]
set_option maxRecDepth 100000 in
set_option maxHeartbeats 1000000 in
theorem less_any (a b : List Nat) (w : World) (ha : isB 16 a) (hb : isB 16 b) : Ret Tryd.prog 85 #[.agg (row 16 (bF a)), .agg (row 16 (bF b))] w fun v' w' => v' = .bool (lexLt a b) ∧ St w [] [] w' := by
  have hab : a.length = b.length := ha.1.trans hb.1.symm
  go_enter Tryd.func85, Tryd.ntmps85
  have hst := St.refl w
  go_wp2_with (first
      | ((with_reducible refine at_d 2 ?_); go_loud (refine wl_box rfl rfl rfl (by first | rfl | exact row_one _) hst ?_; clear hst; intro b2 w2 hb2 hst))
      | ((with_reducible refine at_d 3 ?_); go_loud (refine wl_box rfl rfl rfl (by first | rfl | exact row_one _) hst ?_; clear hst; intro b3 w3 hb3 hst)))
  go_loopw [5] (fun i wr => ∃ k : Nat, k ≤ 16 ∧ i = .int .i64 (k : Int) ∧ (∀ j, j < k → a.getD j 0 = b.getD j 0) ∧ St w [] [(b3, blk 16 (bF b) 30), (b2, blk 16 (bF a) 30)] wr) (fun i _ => 16 - (intOf i).toNat)
  case atStart => exact ⟨0, by omega, rfl, fun j hj => by omega, hst⟩
  case round =>
    clear hst
    obtain ⟨k, hk, rfl, he, hst⟩ := hrel
    by_cases hk16 : k < 16
    · obtain ⟨x, hx⟩ : ∃ x, x = a.getD k 0 := ⟨_, rfl⟩
      obtain ⟨y, hy⟩ : ∃ y, y = b.getD k 0 := ⟨_, rfl⟩
      have HX : Hid (bF a (0 + 1 * k) = nB x) := by show _ = _; rw [Nat.zero_add, Nat.one_mul, hx]; rfl
      have HY : Hid (bF b (0 + 1 * k) = nB y) := by show _ = _; rw [Nat.zero_add, Nat.one_mul, hy]; rfl
      by_cases hxy : x = y
      · have HE : Hid (∀ j, j < k + 1 → a.getD j 0 = b.getD j 0) := by
          show ∀ j, _
          intro j hj
          by_cases c : j < k
          · exact he j c
          · obtain rfl : j = k := by omega
            rw [← hx, ← hy, hxy]
        clear he hx hy
        subst hxy
        go_wp2_with (fail)
        refine rg_start (St w [] [(b3, blk 16 (bF b) 30), (b2, blk 16 (bF a) 30)]) mixed (hst.drew) ?_
        refine rg_take [0, 1, 2, 3, 4, 5, 6] 0 _ rfl (by kernel_rfl) (by kernel_rfl) rfl (cls_st _ _ _) (fun _ _ _ _ _ h => h) ?_
        refine tk_wp (hk := ?_)
        refine tk_idxA (i := k) Tryd.underlying30 sc5.size hk16 rfl rfl rfl rfl rfl (hk := ?_)
        refine tk_load1 rfl rfl (by rfl) rfl (fun w hst => (by first | exact St.hasb hst (by repeat (first | exact Pick.head | apply Pick.tail)) | exact St.hasOld hst (by assumption) (by simp) | assumption)) HX.out (by omega) sc5 (hk := ?_)
        refine tk_wp (hk := ?_)
        refine tk_idxA (i := k) Tryd.underlying30 sc5.size hk16 rfl rfl rfl rfl rfl (hk := ?_)
        refine tk_load1 rfl rfl (by rfl) rfl (fun w hst => (by first | exact St.hasb hst (by repeat (first | exact Pick.head | apply Pick.tail)) | exact St.hasOld hst (by assumption) (by simp) | assumption)) HY.out (by omega) sc5 (hk := ?_)
        refine tk_cmp (p := (x : Int)) (q := (x : Int)) (r := false) (by simp [cmpI] <;> omega) rfl rfl rfl rfl rfl rfl (hk := ?_)
        refine tk_nil ?_
        refine rg_done (by kernel_rfl) (fun w1 hst1 => ?_) _
        clear hst; have hst := hst1; clear hst1
        go_wp2_with (fail)
        go_roundw
        case rel => exact ⟨k + 1, by omega, by go_num, HE.out, hst⟩
        case measure => simp [intOf]; omega
      · have hr : lexLt a b = decide (x < y) := by rw [lex_at a b k hab (by rw [ha.1]; exact hk16) he (by rw [← hx, ← hy]; exact hxy), ← hx, ← hy]
        have HR := Lib.hid hr
        have hxy2 : ¬ (x : Int) = (y : Int) := by omega
        clear he hx hy hr
        go_wp2_with (fail)
        refine rg_start (St w [] [(b3, blk 16 (bF b) 30), (b2, blk 16 (bF a) 30)]) mixed (hst.drew) ?_
        refine rg_take [0, 1, 2, 3, 4, 5, 6] 0 _ rfl (by kernel_rfl) (by kernel_rfl) rfl (cls_st _ _ _) (fun _ _ _ _ _ h => h) ?_
        refine tk_wp (hk := ?_)
        refine tk_idxA (i := k) Tryd.underlying30 sc5.size hk16 rfl rfl rfl rfl rfl (hk := ?_)
        refine tk_load1 rfl rfl (by rfl) rfl (fun w hst => (by first | exact St.hasb hst (by repeat (first | exact Pick.head | apply Pick.tail)) | exact St.hasOld hst (by assumption) (by simp) | assumption)) HX.out (by omega) sc5 (hk := ?_)
        refine tk_wp (hk := ?_)
        refine tk_idxA (i := k) Tryd.underlying30 sc5.size hk16 rfl rfl rfl rfl rfl (hk := ?_)
        refine tk_load1 rfl rfl (by rfl) rfl (fun w hst => (by first | exact St.hasb hst (by repeat (first | exact Pick.head | apply Pick.tail)) | exact St.hasOld hst (by assumption) (by simp) | assumption)) HY.out (by omega) sc5 (hk := ?_)
        refine tk_cmp (p := (x : Int)) (q := (y : Int)) (r := true) (by simp only [cmpI, decide_eq_true_eq]; omega) rfl rfl rfl rfl rfl rfl (hk := ?_)
        refine tk_nil ?_
        refine rg_done (by kernel_rfl) (fun w1 hst1 => ?_) _
        clear hst; have hst := hst1; clear hst1
        go_wp2_with fail
        refine rg_start (St w [] [(b3, blk 16 (bF b) 30), (b2, blk 16 (bF a) 30)]) mixed (hst.drew) ?_
        refine rg_take [0, 1, 2, 3, 4, 5, 6, 7] 0 _ rfl (by kernel_rfl) (by kernel_rfl) rfl (cls_st _ _ _) (fun _ _ _ _ _ h => h) ?_
        refine tk_wp (hk := ?_)
        refine tk_idxA (i := k) Tryd.underlying30 sc5.size hk16 rfl rfl rfl rfl rfl (hk := ?_)
        refine tk_load1 rfl rfl (by rfl) rfl (fun w hst => (by first | exact St.hasb hst (by repeat (first | exact Pick.head | apply Pick.tail)) | exact St.hasOld hst (by assumption) (by simp) | assumption)) HX.out (by omega) sc5 (hk := ?_)
        refine tk_wp (hk := ?_)
        refine tk_idxA (i := k) Tryd.underlying30 sc5.size hk16 rfl rfl rfl rfl rfl (hk := ?_)
        refine tk_load1 rfl rfl (by rfl) rfl (fun w hst => (by first | exact St.hasb hst (by repeat (first | exact Pick.head | apply Pick.tail)) | exact St.hasOld hst (by assumption) (by simp) | assumption)) HY.out (by omega) sc5 (hk := ?_)
        refine tk_cmp (p := (x : Int)) (q := (y : Int)) (r := decide (x < y)) (by simp only [cmpI]; exact decide_eq_decide.2 (by omega)) rfl rfl rfl rfl rfl rfl (hk := ?_)
        refine tk_wp (hk := ?_)
        refine tk_nil ?_
        refine rg_done (by kernel_rfl) (fun w1 hst1 => ?_) _
        clear hst; have hst := hst1; clear hst1
        go_wp2_with fail
        go_ret
        exact ⟨_, rfl, by rw [HR.out]; rfl, hst.none⟩
    · obtain rfl : k = 16 := by omega
      have hr := lex_eq a b hab (fun j hj => he j (by rw [ha.1] at hj; exact hj))
      have HR := Lib.hid hr
      clear he hr
      go_wp2_with (fail)
      go_ret
      exact ⟨_, rfl, by rw [HR.out]; rfl, hst.none⟩
set_option maxRecDepth 100000 in
theorem refsorted_any (v : Value) (ts : List (List Nat)) (w : World) (h : Toks w v ts) : Ret Tryd.prog 73 #[v] w fun v' w' => v' = .bool (rising ts) ∧ St w [] [] w' := by
  obtain ⟨ad, c, rfl, hcap, hcm, h16, hnil, hc⟩ := h
  unfold maxLen at hcm
  go_enter Tryd.func73, Tryd.ntmps73
  have hst := St.refl w
  go_wp2_with fail
  go_loopw [3] (fun i wr => ∃ k : Nat, (k = 0 ∨ k + 1 ≤ ts.length) ∧ i = .int .i64 (k : Int) ∧ upTo ts (k + 1) ∧ St w [] [] wr) (fun i _ => ts.length - (intOf i).toNat)
  case atStart => exact ⟨0, .inl rfl, rfl, fun j hj => by omega, hst⟩
  case round =>
    clear hst
    obtain ⟨m, hk2, rfl, hup, hst⟩ := hrel
    by_cases hkl : m + 1 < ts.length
    · obtain ⟨b, off, N, f, rfl, hH, hN, hf⟩ := hc (by intro e; subst e; simp at hkl)
      have HA := Lib.hid (tok_cells h16 (show m < ts.length by omega) hf)
      have HB := Lib.hid (tok_cells h16 hkl hf)
      have ia : isB 16 (ts.getD m []) := by rw [List.getD_eq_getElem?_getD, List.getElem?_eq_getElem (by omega)]; exact h16 _ (List.getElem_mem _)
      have ib : isB 16 (ts.getD (m + 1) []) := by rw [List.getD_eq_getElem?_getD, List.getElem?_eq_getElem hkl]; exact h16 _ (List.getElem_mem _)
      obtain ⟨x, hx⟩ : ∃ x, x = ts.getD m [] := ⟨_, rfl⟩
      obtain ⟨y, hy⟩ : ∃ y, y = ts.getD (m + 1) [] := ⟨_, rfl⟩
      have HU : Hid (∀ j, j + 1 < m + 1 → lexLt (ts.getD j []) (ts.getD (j + 1) []) = true) := hup
      have HL : Hid (lexLt (ts.getD m []) (ts.getD (m + 1) []) = lexLt x y) := by show _ = _; rw [hx, hy]
      rw [← hx] at HA ia
      rw [← hy] at HB ib
      have IA := Lib.hid ia
      have IB := Lib.hid ib
      clear hx hy ia ib hup hf hc h16 hnil
      go_wp2_with (fail)
      refine rg_start (St w [] []) mixed (hst.drew) ?_
      refine rg_take [0, 1, 2, 3, 4, 5, 6, 7, 8] 2 _ rfl (by kernel_rfl) (by kernel_rfl) rfl (cls_st _ _ _) (fun _ _ _ _ _ h => h) ?_
      refine tk_wp (hk := ?_)
      refine tk_wp (hk := ?_)
      refine tk_idx (i := m) Tryd.underlying31 siz30 (by omega) rfl rfl rfl rfl rfl (hk := ?_)
      refine tk_loadP rfl rfl (by rfl) rfl (fun w hst => (by first | exact St.hasb hst (by repeat (first | exact Pick.head | apply Pick.tail)) | exact St.hasOld hst (by assumption) (by simp) | assumption)) agg30 (by omega) HA.out (hk := ?_)
      refine tk_wp (hk := ?_)
      refine tk_wp (hk := ?_)
      refine tk_ari (p := (m : Int)) (q := 1) (r := ((m + 1 : Nat) : Int)) (k := .i64) (by simp only [ariI] <;> omega) (by show _ ∧ _; omega) rfl rfl rfl rfl rfl rfl (hk := ?_)
      refine tk_idx (i := m + 1) Tryd.underlying31 siz30 (by omega) rfl rfl rfl rfl rfl (hk := ?_)
      refine tk_loadP rfl rfl (by rfl) rfl (fun w hst => (by first | exact St.hasb hst (by repeat (first | exact Pick.head | apply Pick.tail)) | exact St.hasOld hst (by assumption) (by simp) | assumption)) agg30 (by omega) HB.out (hk := ?_)
      refine tk_nil ?_
      refine rg_st (i := 9) (n := 1) (by kernel_rfl) rfl rfl rfl (fun w' hst => wo_call pl85 rfl rfl (less_any x y _ IA.out IB.out) (fun v20 w20 hR20 => ?_))
      obtain ⟨rfl, hst20⟩ := hR20
      refine ⟨[], hst.call hst20, ?_⟩
      simp only [put_lit, setL]
      refine rg_take [10] 0 _ rfl (by kernel_rfl) (by kernel_rfl) rfl (cls_st _ _ _) (fun _ _ _ _ _ h => h) ?_
      refine tk_wp (hk := ?_)
      refine tk_nil ?_
      refine rg_done (by kernel_rfl) (fun w1 hst1 => ?_) _
      clear hst; have hst := hst1; clear hst1
      have hst2 := hst.none
      clear hst
      have hst := hst2
      clear hst2
      cases hxy : lexLt x y with
      | false =>
        have hno : rising ts = false := rising_no hkl (HL.out.trans hxy)
        have HNO := Lib.hid hno
        simp only [Bool.not_false]
        clear hno hxy
        go_wp2_with (fail)
        go_ret
        exact ⟨_, rfl, by rw [HNO.out]; rfl, hst.none⟩
      | true =>
        have HUP : Hid (upTo ts (m + 1 + 1)) := by
          show ∀ j, _
          intro j hj
          by_cases c : j + 1 < m + 1
          · exact HU.out j c
          · obtain rfl : j = m := by omega
            exact HL.out.trans hxy
        simp only [Bool.not_true]
        clear hxy
        go_wp2_with (fail)
        go_roundw
        case rel => exact ⟨m + 1, .inr (by omega), by go_num, HUP.out, hst.none⟩
        case measure => simp [intOf]; omega
    · have hr : rising ts = true := (rising_iff ts).2 fun j hj => hup j (by omega)
      have HR := Lib.hid hr
      clear hr hup
      go_wp2_with (fail)
      go_ret
      exact ⟨_, rfl, by rw [HR.out]; rfl, hst⟩
end Go.Proofs.YthbobmpeaemdnaaDoor
