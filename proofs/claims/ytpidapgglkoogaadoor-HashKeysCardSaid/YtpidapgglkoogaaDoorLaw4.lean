/- The walk of HashKeys. -/
import Derived.Test.YtpidapgglkoogaaDoorLaw2
namespace Go.Proofs.YtpidapgglkoogaaDoor
open Go.RowKit Go.Jal

theorem hmac_sha (key t : List Nat) (h : 64 < key.length) : Sha.hmac key t = Sha.hmac (Sha.sha key) t := by
  have h1 : Sha.hkey key = Sha.sha key := by rw [Sha.hkey, if_pos h]
  have h2 : Sha.hkey (Sha.sha key) = Sha.sha key := by rw [Sha.hkey, if_neg (by rw [sha_len]; decide)]
  rw [Sha.hmac, Sha.hmac, h1, h2]
set_option maxRecDepth 100000 in
theorem hashKeys_any (v t : Value) (key text : List Nat) (w : World) (h : Bs w v key) (ht : Bs w t text) (hK : Has w 1 64 (wF Sha.K)) (hK0 : Has w 0 64 (wF Sha.K)) :
    Ret Tryd.prog 4 #[v, t] w fun v' w' => v' = .bool true ∧ St w [] [] w' := by
  go_enter Tryd.func4, Tryd.ntmps4
  have hst := St.refl w
  obtain ⟨ad, c, rfl, _⟩ := id h
  obtain ⟨bd, bc, rfl, _⟩ := id ht
  by_cases hk : key.length ≤ 64
  · go_wp2_with (first
      | ((with_reducible refine at_op (o := ⟨some 6, _, _, _, _, _⟩) ?_); go_loud (refine wl_call pl10 rfl rfl rfl (awake_any _ (hK.keep hst)) ?_; rintro v6 w6 ⟨rfl, hst6⟩; replace hst := hst.call hst6; clear hst6))
      | ((with_reducible refine at_op (o := ⟨some 23, _, _, _, _, _⟩) ?_); go_loud (refine wl_call pl10 rfl rfl rfl (awake_any _ (hK.keep hst)) ?_; rintro v23 w23 ⟨rfl, hst23⟩; replace hst := hst.call hst23; clear hst23))
      | ((with_reducible refine at_op (o := ⟨some 25, _, _, _, _, _⟩) ?_); go_loud (go_outline; fail "call 13"))
      | ((with_reducible refine at_op (o := ⟨some 5, _, _, _, _, _⟩) ?_); go_loud (refine wl_alloc rfl rfl hst zer25 ?_; intro b5 w5 hb5 hst1; clear hst; have hst := hst1; clear hst1))
      | ((with_reducible refine at_op (o := ⟨none, .store 25 (.tmp 5) (.tmp 25), _, _, _, _⟩) ?_); go_loud ((first | (refine wl_storeAll rfl rfl rfl rfl hst (by repeat (first | exact Pick.head | apply Pick.tail)) agg25 (by intro j hj; first | rfl | exact lstF_one rfl j hj | simp [oneC, hj]) (by (conv => lhs; simp only [put_lit, put_none, setL]) <;> rfl) ?_) | (refine wl_storeN rfl rfl rfl rfl hst (by repeat (first | exact Pick.head | apply Pick.tail)) (by omega) agg25 (by intro j hj; first | rfl | exact lstF_one rfl j hj | simp [oneC, hj]) (by (conv => lhs; simp only [put_lit, put_none, setL]) <;> rfl) ?_)); intro w1 hst1; clear hst; have hst := hst1; clear hst1)))
    go_ret
    exact ⟨_, rfl, rfl, hst⟩
  by_cases hk2 : 500 < key.length
  · go_wp2_with (first
      | ((with_reducible refine at_op (o := ⟨some 6, _, _, _, _, _⟩) ?_); go_loud (refine wl_call pl10 rfl rfl rfl (awake_any _ (hK.keep hst)) ?_; rintro v6 w6 ⟨rfl, hst6⟩; replace hst := hst.call hst6; clear hst6))
      | ((with_reducible refine at_op (o := ⟨some 23, _, _, _, _, _⟩) ?_); go_loud (refine wl_call pl10 rfl rfl rfl (awake_any _ (hK.keep hst)) ?_; rintro v23 w23 ⟨rfl, hst23⟩; replace hst := hst.call hst23; clear hst23))
      | ((with_reducible refine at_op (o := ⟨some 25, _, _, _, _, _⟩) ?_); go_loud (go_outline; fail "call 13"))
      | ((with_reducible refine at_op (o := ⟨some 5, _, _, _, _, _⟩) ?_); go_loud (refine wl_alloc rfl rfl hst zer25 ?_; intro b5 w5 hb5 hst1; clear hst; have hst := hst1; clear hst1))
      | ((with_reducible refine at_op (o := ⟨none, .store 25 (.tmp 5) (.tmp 25), _, _, _, _⟩) ?_); go_loud ((first | (refine wl_storeAll rfl rfl rfl rfl hst (by repeat (first | exact Pick.head | apply Pick.tail)) agg25 (by intro j hj; first | rfl | exact lstF_one rfl j hj | simp [oneC, hj]) (by (conv => lhs; simp only [put_lit, put_none, setL]) <;> rfl) ?_) | (refine wl_storeN rfl rfl rfl rfl hst (by repeat (first | exact Pick.head | apply Pick.tail)) (by omega) agg25 (by intro j hj; first | rfl | exact lstF_one rfl j hj | simp [oneC, hj]) (by (conv => lhs; simp only [put_lit, put_none, setL]) <;> rfl) ?_)); intro w1 hst1; clear hst; have hst := hst1; clear hst1)))
    go_ret
    exact ⟨_, rfl, rfl, hst⟩
  by_cases hn : 500 < text.length
  · go_wp2_with (first
      | ((with_reducible refine at_op (o := ⟨some 6, _, _, _, _, _⟩) ?_); go_loud (refine wl_call pl10 rfl rfl rfl (awake_any _ (hK.keep hst)) ?_; rintro v6 w6 ⟨rfl, hst6⟩; replace hst := hst.call hst6; clear hst6))
      | ((with_reducible refine at_op (o := ⟨some 23, _, _, _, _, _⟩) ?_); go_loud (refine wl_call pl10 rfl rfl rfl (awake_any _ (hK.keep hst)) ?_; rintro v23 w23 ⟨rfl, hst23⟩; replace hst := hst.call hst23; clear hst23))
      | ((with_reducible refine at_op (o := ⟨some 25, _, _, _, _, _⟩) ?_); go_loud (go_outline; fail "call 13"))
      | ((with_reducible refine at_op (o := ⟨some 5, _, _, _, _, _⟩) ?_); go_loud (refine wl_alloc rfl rfl hst zer25 ?_; intro b5 w5 hb5 hst1; clear hst; have hst := hst1; clear hst1))
      | ((with_reducible refine at_op (o := ⟨none, .store 25 (.tmp 5) (.tmp 25), _, _, _, _⟩) ?_); go_loud ((first | (refine wl_storeAll rfl rfl rfl rfl hst (by repeat (first | exact Pick.head | apply Pick.tail)) agg25 (by intro j hj; first | rfl | exact lstF_one rfl j hj | simp [oneC, hj]) (by (conv => lhs; simp only [put_lit, put_none, setL]) <;> rfl) ?_) | (refine wl_storeN rfl rfl rfl rfl hst (by repeat (first | exact Pick.head | apply Pick.tail)) (by omega) agg25 (by intro j hj; first | rfl | exact lstF_one rfl j hj | simp [oneC, hj]) (by (conv => lhs; simp only [put_lit, put_none, setL]) <;> rfl) ?_)); intro w1 hst1; clear hst; have hst := hst1; clear hst1)))
    go_ret
    exact ⟨_, rfl, rfl, hst⟩
  have HLT : Hid (∀ x ∈ [text].flatten, x < 256) := by show ∀ _, _; simpa using ht.lt
  have N1 : Hid (text.length ≤ 100000000000) := by show _ ≤ _; omega
  have HE : Hid (Sha.hmac key [text].flatten = Sha.hmac (Sha.sha key) [text].flatten) := hmac_sha key _ (by omega)
  have HB : Hid (∀ (b : Nat) (L : List (Nat × Obj)) (w' : World), St w [] L w' → (b, blk 1 (fun _ => .slice bd text.length bc) 29) ∈ L → Bss w' (.slice (some ⟨b, 0, none⟩) 1 1) [text]) := by
    show ∀ _, _
    intro b L w' hst hb
    exact Bss.one ⟨_, _, hst.own _ hb⟩ (ht.keep hst.none)
  go_wp2_with (first
      | ((with_reducible refine at_op (o := ⟨some 6, _, _, _, _, _⟩) ?_); go_loud (refine wl_call pl10 rfl rfl rfl (awake_any _ (hK.keep hst)) ?_; rintro v6 w6 ⟨rfl, hst6⟩; replace hst := hst.call hst6; clear hst6))
      | ((with_reducible refine at_op (o := ⟨some 23, _, _, _, _, _⟩) ?_); go_loud (go_outline; fail "call 10"))
      | ((with_reducible refine at_op (o := ⟨some 25, _, _, _, _, _⟩) ?_); go_loud (refine wl_call pl13 rfl rfl rfl (refsum_any _ key _ (h.keep hst) (by omega) (hK0.keep hst)) ?_; rintro v25 w25 ⟨rfl, hst25⟩; replace hst := hst.call hst25; clear hst25))
      | ((with_reducible refine at_op (o := ⟨some 5, _, _, _, _, _⟩) ?_); go_loud (refine wl_alloc rfl rfl hst zer25 ?_; intro b5 w5 hb5 hst1; clear hst; have hst := hst1; clear hst1))
      | ((with_reducible refine at_op (o := ⟨none, .store 25 (.tmp 5) (.tmp 25), _, _, _, _⟩) ?_); go_loud ((first | (refine wl_storeAll rfl rfl rfl rfl hst (by repeat (first | exact Pick.head | apply Pick.tail)) agg25 (by intro j hj; first | rfl | exact lstF_one rfl j hj | simp [oneC, hj]) (by (conv => lhs; simp only [put_lit, put_none, setL]) <;> rfl) ?_) | (refine wl_storeN rfl rfl rfl rfl hst (by repeat (first | exact Pick.head | apply Pick.tail)) (by omega) agg25 (by intro j hj; first | rfl | exact lstF_one rfl j hj | simp [oneC, hj]) (by (conv => lhs; simp only [put_lit, put_none, setL]) <;> rfl) ?_)); intro w1 hst1; clear hst; have hst := hst1; clear hst1)))
  have HS : Hid (∀ (L : List (Nat × Obj)) (w' : World), St w [] L w' → (b5, blk 32 (bF (Sha.sha key)) 25) ∈ L → Bs w' (.slice (some ⟨b5, 0, none⟩) 32 32) (Sha.sha key)) := by
    show ∀ _, _
    intro L w' hst hm
    exact Bs.of_blk (cap := 32) (off := 0) (l := Sha.sha key) ⟨_, _, hst.own _ hm⟩ (by rw [sha_len]; omega) (fun j _ => by rw [Nat.zero_add]) (sha_lt _) (by rw [sha_len]; omega) (by simp [maxLen])
  refine rg_start (St w [] [(b5, blk 32 (bF (Sha.sha key)) 25)]) mixed (hst.drew) ?_
  refine rg_take [0, 1, 4, 5] 6 _ rfl (by kernel_rfl) (by kernel_rfl) rfl (cls_st _ _ _) (fun _ _ _ _ _ h => h) ?_
  refine tk_wp rfl rfl rfl (by rfl) (fun w hst K hK => (by go_step; exact hK _ (Below.refl _ _))) (by rfl) (by rfl) ?_
  refine tk_wp rfl rfl rfl (by rfl) (fun w hst K hK => (by go_step; exact hK _ (Below.refl _ _))) (by rfl) (by rfl) ?_
  refine tk_wp rfl rfl rfl (by rfl) (fun w hst K hK => (by go_step; exact hK _ (Below.refl _ _))) (by rfl) (by rfl) ?_
  refine tk_wp rfl rfl rfl (by rfl) (fun w hst K hK => (by go_step; exact hK _ (Below.refl _ _))) (by rfl) (by rfl) ?_
  refine tk_nil ?_
  refine rg_two (i := 2) (j := 6) (n := 5) (by kernel_rfl) rfl rfl rfl rfl (fun w' hst => wo_buildSlice1 (v := .slice bd text.length bc) rfl elt22 (by decide) rfl (row_one _) hst (fun b28 w28 hb28 hst28 => ⟨[(b28, _)], hst28, ?_⟩)) (fun w' hst => wo_buildSlice1 (v := .slice bd text.length bc) rfl elt22 (by decide) rfl (row_one _) hst (fun b32 w32 hb32 hst32 => ⟨[(b32, _)], hst32, ?_⟩))
  · simp only [put_lit, setL]
    refine rg_two (i := 3) (j := 6) (n := 4) (by kernel_rfl) rfl rfl rfl rfl (fun w' hst => wo_call pl15 rfl rfl (mac_any _ _ key [text] _ (h.keep hst.none) (HB.out b28 _ _ hst (by simp)) (by omega) (by simp) (by simpa using N1.out) HLT.out (hK.keep hst.none)) (fun v29 w29 hR29 => ?_)) (fun w' hst => wo_buildSlice1 (v := .slice bd text.length bc) rfl elt22 (by decide) rfl (row_one _) hst (fun b32 w32 hb32 hst32 => ⟨[(b32, _)], hst32, ?_⟩))
    · obtain ⟨rfl, hst29⟩ := hR29
      refine ⟨[], hst.call hst29, ?_⟩
      simp only [put_lit, setL]
      refine rg_st (i := 6) (n := 3) (by kernel_rfl) rfl rfl rfl (fun w' hst => wo_buildSlice1 (v := .slice bd text.length bc) rfl elt22 (by decide) rfl (row_one _) hst (fun b32 w32 hb32 hst32 => ⟨[(b32, _)], hst32, ?_⟩))
      simp only [put_lit, setL]
      refine rg_st (i := 7) (n := 2) (by kernel_rfl) rfl rfl rfl (fun w' hst => wo_call pl15 rfl rfl (mac_any _ _ (Sha.sha key) [text] _ (HS.out _ _ hst (by simp)) (HB.out b32 _ _ hst (by simp)) (by rw [sha_len]; decide) (by simp) (by simpa using N1.out) HLT.out (hK.keep hst.none)) (fun v33 w33 hR33 => ?_))
      obtain ⟨rfl, hst33⟩ := hR33
      refine ⟨[], hst.call hst33, ?_⟩
      simp only [put_lit, setL]
      refine rg_take [8, 9] 0 _ rfl (by kernel_rfl) (by kernel_rfl) rfl (cls_st _ _ _) (fun _ _ _ _ _ h => h) ?_
      refine tk_eqB rfl rfl rfl eqb26 rfl rfl (hmac_len _ _) (hmac_len _ _) (hmac_lt _ _) (hmac_lt _ _) (decide_eq_true HE.out) (by (conv => lhs; simp only [put_lit, put_none, setL]) <;> rfl) ?_
      refine tk_wp rfl rfl rfl (by rfl) (fun w hst K hK => (by go_step; exact hK _ (Below.refl _ _))) (by rfl) (by rfl) ?_
      refine tk_nil ?_
      refine rg_done (by kernel_rfl) (fun w1 hst1 => ?_) _
      clear hst
      have hst := hst1
      clear hst1
      go_wp2_with fail
      go_ret
      exact ⟨_, rfl, rfl, hst.none⟩
    · simp only [put_lit, setL]
      refine rg_st (i := 3) (n := 3) (by kernel_rfl) rfl rfl rfl (fun w' hst => wo_call pl15 rfl rfl (mac_any _ _ key [text] _ (h.keep hst.none) (HB.out b28 _ _ hst (by simp)) (by omega) (by simp) (by simpa using N1.out) HLT.out (hK.keep hst.none)) (fun v29 w29 hR29 => ?_))
      obtain ⟨rfl, hst29⟩ := hR29
      refine ⟨[], hst.call hst29, ?_⟩
      simp only [put_lit, setL]
      refine rg_st (i := 7) (n := 2) (by kernel_rfl) rfl rfl rfl (fun w' hst => wo_call pl15 rfl rfl (mac_any _ _ (Sha.sha key) [text] _ (HS.out _ _ hst (by simp)) (HB.out b32 _ _ hst (by simp)) (by rw [sha_len]; decide) (by simp) (by simpa using N1.out) HLT.out (hK.keep hst.none)) (fun v33 w33 hR33 => ?_))
      obtain ⟨rfl, hst33⟩ := hR33
      refine ⟨[], hst.call hst33, ?_⟩
      simp only [put_lit, setL]
      refine rg_take [8, 9] 0 _ rfl (by kernel_rfl) (by kernel_rfl) rfl (cls_st _ _ _) (fun _ _ _ _ _ h => h) ?_
      refine tk_eqB rfl rfl rfl eqb26 rfl rfl (hmac_len _ _) (hmac_len _ _) (hmac_lt _ _) (hmac_lt _ _) (decide_eq_true HE.out) (by (conv => lhs; simp only [put_lit, put_none, setL]) <;> rfl) ?_
      refine tk_wp rfl rfl rfl (by rfl) (fun w hst K hK => (by go_step; exact hK _ (Below.refl _ _))) (by rfl) (by rfl) ?_
      refine tk_nil ?_
      refine rg_done (by kernel_rfl) (fun w1 hst1 => ?_) _
      clear hst
      have hst := hst1
      clear hst1
      go_wp2_with fail
      go_ret
      exact ⟨_, rfl, rfl, hst.none⟩
  · simp only [put_lit, setL]
    refine rg_st (i := 2) (n := 4) (by kernel_rfl) rfl rfl rfl (fun w' hst => wo_buildSlice1 (v := .slice bd text.length bc) rfl elt22 (by decide) rfl (row_one _) hst (fun b28 w28 hb28 hst28 => ⟨[(b28, _)], hst28, ?_⟩))
    simp only [put_lit, setL]
    refine rg_st (i := 3) (n := 3) (by kernel_rfl) rfl rfl rfl (fun w' hst => wo_call pl15 rfl rfl (mac_any _ _ key [text] _ (h.keep hst.none) (HB.out b28 _ _ hst (by simp)) (by omega) (by simp) (by simpa using N1.out) HLT.out (hK.keep hst.none)) (fun v29 w29 hR29 => ?_))
    obtain ⟨rfl, hst29⟩ := hR29
    refine ⟨[], hst.call hst29, ?_⟩
    simp only [put_lit, setL]
    refine rg_st (i := 7) (n := 2) (by kernel_rfl) rfl rfl rfl (fun w' hst => wo_call pl15 rfl rfl (mac_any _ _ (Sha.sha key) [text] _ (HS.out _ _ hst (by simp)) (HB.out b32 _ _ hst (by simp)) (by rw [sha_len]; decide) (by simp) (by simpa using N1.out) HLT.out (hK.keep hst.none)) (fun v33 w33 hR33 => ?_))
    obtain ⟨rfl, hst33⟩ := hR33
    refine ⟨[], hst.call hst33, ?_⟩
    simp only [put_lit, setL]
    refine rg_take [8, 9] 0 _ rfl (by kernel_rfl) (by kernel_rfl) rfl (cls_st _ _ _) (fun _ _ _ _ _ h => h) ?_
    refine tk_eqB rfl rfl rfl eqb26 rfl rfl (hmac_len _ _) (hmac_len _ _) (hmac_lt _ _) (hmac_lt _ _) (decide_eq_true HE.out) (by (conv => lhs; simp only [put_lit, put_none, setL]) <;> rfl) ?_
    refine tk_wp rfl rfl rfl (by rfl) (fun w hst K hK => (by go_step; exact hK _ (Below.refl _ _))) (by rfl) (by rfl) ?_
    refine tk_nil ?_
    refine rg_done (by kernel_rfl) (fun w1 hst1 => ?_) _
    clear hst
    have hst := hst1
    clear hst1
    go_wp2_with fail
    go_ret
    exact ⟨_, rfl, rfl, hst.none⟩
end Go.Proofs.YtpidapgglkoogaaDoor
