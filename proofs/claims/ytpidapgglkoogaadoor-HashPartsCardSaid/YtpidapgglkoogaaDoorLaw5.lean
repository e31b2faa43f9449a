/- The walk of HashParts. -/
import Derived.Test.YtpidapgglkoogaaDoorLaw2
import Derived.Test.YtpidapgglkoogaaDoorLibK
namespace Go.Proofs.YtpidapgglkoogaaDoor
open Go.RowKit Go.Jal

set_option maxRecDepth 100000 in
theorem hashParts_any (v t : Value) (key text : List Nat) (at' : Nat) (w : World) (h : Bs w v key) (ht : Bs w t text) (ha : at' < 65536) (hK : Has w 1 64 (wF Sha.K)) :
    Ret Tryd.prog 5 #[v, t, .int .u16 (at' : Int)] w fun v' w' => v' = .bool true ∧ St w [] [] w' := by
  go_enter Tryd.func5, Tryd.ntmps5
  have hst := St.refl w
  obtain ⟨ad, c, rfl, _⟩ := id h
  obtain ⟨bd, bc, rfl, _⟩ := id ht
  by_cases hk : 2000 < text.length
  · go_wp2_with (first
      | ((with_reducible refine at_op (o := ⟨some 8, _, _, _, _, _⟩) ?_); go_loud (refine wl_call pl10 rfl rfl rfl (awake_any _ (hK.keep hst)) ?_; rintro v8 w8 ⟨rfl, hst8⟩; replace hst := hst.call hst8; clear hst8))
      | ((with_reducible refine at_op (o := ⟨some 20, _, _, _, _, _⟩) ?_); go_loud (refine wl_call pl10 rfl rfl rfl (awake_any _ (hK.keep hst)) ?_; rintro v20 w20 ⟨rfl, hst20⟩; replace hst := hst.call hst20; clear hst20)))
    go_ret
    exact ⟨_, rfl, rfl, hst⟩
  by_cases hk2 : 200 < key.length
  · go_wp2_with (first
      | ((with_reducible refine at_op (o := ⟨some 8, _, _, _, _, _⟩) ?_); go_loud (refine wl_call pl10 rfl rfl rfl (awake_any _ (hK.keep hst)) ?_; rintro v8 w8 ⟨rfl, hst8⟩; replace hst := hst.call hst8; clear hst8))
      | ((with_reducible refine at_op (o := ⟨some 20, _, _, _, _, _⟩) ?_); go_loud (refine wl_call pl10 rfl rfl rfl (awake_any _ (hK.keep hst)) ?_; rintro v20 w20 ⟨rfl, hst20⟩; replace hst := hst.call hst20; clear hst20)))
    go_ret
    exact ⟨_, rfl, rfl, hst⟩
  obtain ⟨k, hk3⟩ : ∃ k, k = at' % (text.length + 1) := ⟨_, rfl⟩
  have hkl : k ≤ text.length := by rw [hk3]; have := Nat.mod_lt at' (show 0 < text.length + 1 by omega); omega
  have e3 : (at' : Int) % ((text.length : Int) + 1) = (k : Int) := by rw [hk3, Int.natCast_emod]; rfl
  obtain ⟨A, hA⟩ : ∃ A, A = (text.drop 0).take (k - 0) := ⟨_, rfl⟩
  obtain ⟨B, hB⟩ : ∃ B, B = (text.drop k).take (text.length - k) := ⟨_, rfl⟩
  have hAB : A ++ B = text := by
    rw [hA, hB, List.drop_zero, Nat.sub_zero, List.take_of_length_le (l := text.drop k) (by simp), List.take_append_drop]
  obtain ⟨x1, hx1⟩ := cut_any (k1 := .i64) (k2 := .i64) Tryd.underlying29 sc5.size ht (lo := none) (hi := some (.int .i64 (k : Int))) (i := 0) (j := k) (.inl ⟨rfl, rfl⟩) (.inr rfl) (by omega) hkl
  obtain ⟨x2, hx2⟩ := cut_any (k1 := .i64) (k2 := .i64) Tryd.underlying29 sc5.size ht (lo := some (.int .i64 (k : Int))) (hi := none) (i := k) (j := text.length) (.inr rfl) (.inl ⟨rfl, rfl⟩) hkl (by omega)
  obtain ⟨ad1, c1, rfl⟩ := hx1.shape
  obtain ⟨ad2, c2, rfl⟩ := hx2.shape
  have hbA : ∀ w', Bs w' (.slice bd text.length bc) text → Bs w' (.slice ad1 k c1) A := fun w' hb => by rw [hA]; exact hx1.bs w' text hb (by omega)
  have hbB : ∀ w', Bs w' (.slice bd text.length bc) text → Bs w' (.slice ad2 (text.length - k) c2) B := fun w' hb => by rw [hB]; exact hx2.bs w' text hb (by omega)
  have HX1 := Lib.hid hx1
  have HX2 := Lib.hid hx2
  have HL1 : Hid (∀ x ∈ [text].flatten, x < 256) := by show ∀ _, _; simpa using ht.lt
  have HL2 : Hid (∀ x ∈ [A, B].flatten, x < 256) := by show ∀ _, _; rw [show [A, B].flatten = text by simpa using hAB]; exact ht.lt
  have HL3 : Hid (∀ x ∈ [A, [], B].flatten, x < 256) := by show ∀ _, _; rw [show [A, [], B].flatten = text by simpa using hAB]; exact ht.lt
  have HN1 : Hid ([text].flatten.length ≤ 100000000000) := by show _ ≤ _; simp; omega
  have HN2 : Hid ([A, B].flatten.length ≤ 100000000000) := by show _ ≤ _; rw [show [A, B].flatten = text by simpa using hAB]; omega
  have HN3 : Hid ([A, [], B].flatten.length ≤ 100000000000) := by show _ ≤ _; rw [show [A, [], B].flatten = text by simpa using hAB]; omega
  have HE1 : Hid (Sha.sha [A, B].flatten = Sha.sha [text].flatten) := by show _ = _; rw [show [A, B].flatten = text by simpa using hAB]; simp
  have HE2 : Hid (Sha.hmac key [A, [], B].flatten = Sha.hmac key [text].flatten) := by show _ = _; rw [show [A, [], B].flatten = text by simpa using hAB]; simp
  have HB1 : Hid (∀ (b : Nat) (L : List (Nat × Obj)) (w' : World), St w [] L w' → (b, blk 1 (fun _ => .slice bd text.length bc) 29) ∈ L → Bss w' (.slice (some ⟨b, 0, none⟩) 1 1) [text]) := by
    show ∀ _, _
    intro b L w' hst hb
    exact Bss.one ⟨_, _, hst.own _ hb⟩ (ht.keep hst.none)
  have HB2 : Hid (∀ (b : Nat) (L : List (Nat × Obj)) (w' : World), St w [] L w' → (b, blk 2 (lstF [.slice ad1 k c1, .slice ad2 (text.length - k) c2]) 29) ∈ L → Bss w' (.slice (some ⟨b, 0, none⟩) 2 2) [A, B]) := by
    show ∀ _, _
    intro b L w' hst hb
    refine Bss.of_blk ⟨_, _, hst.own _ hb⟩ rfl (by decide) fun j hj => ?_
    obtain rfl | rfl : j = 0 ∨ j = 1 := by omega
    · exact hbA _ (ht.keep hst.none)
    · exact hbB _ (ht.keep hst.none)
  have HB3 : Hid (∀ (b : Nat) (L : List (Nat × Obj)) (w' : World), St w [] L w' → (b, blk 3 (lstF [.slice ad1 k c1, .slice none 0 0, .slice ad2 (text.length - k) c2]) 29) ∈ L → Bss w' (.slice (some ⟨b, 0, none⟩) 3 3) [A, [], B]) := by
    show ∀ _, _
    intro b L w' hst hb
    refine Bss.of_blk ⟨_, _, hst.own _ hb⟩ rfl (by decide) fun j hj => ?_
    obtain rfl | rfl | rfl : j = 0 ∨ j = 1 ∨ j = 2 := by omega
    · exact hbA _ (ht.keep hst.none)
    · exact Bs.nil (by simp [maxLen]) (fun _ => rfl)
    · exact hbB _ (ht.keep hst.none)
  clear hk3 hA hB hAB hbA hbB hx1 hx2
  go_wp2_with (first
      | ((with_reducible refine at_op (o := ⟨some 8, _, _, _, _, _⟩) ?_); go_loud (refine wl_call pl10 rfl rfl rfl (awake_any _ (hK.keep hst)) ?_; rintro v8 w8 ⟨rfl, hst8⟩; replace hst := hst.call hst8; clear hst8))
      | ((with_reducible refine at_op (o := ⟨some 20, _, _, _, _, _⟩) ?_); go_loud (go_outline; fail "call 10")))
  rw [e3]
  refine rg_start (St w [] []) mixed (hst.drew) ?_
  refine rg_take [0, 1, 2, 3, 4, 5, 8] 22 _ rfl (by kernel_rfl) (by kernel_rfl) rfl (cls_st _ _ _) (fun _ _ _ _ _ h => h) ?_
  refine tk_wp rfl rfl rfl (by rfl) (fun w hst K hK => (by go_step; exact hK _ (Below.refl _ _))) (by rfl) (by rfl) ?_
  refine tk_wp rfl rfl rfl (by rfl) (fun w hst K hK => (by go_step; exact hK _ (Below.refl _ _))) (by rfl) (by rfl) ?_
  refine tk_cut HX1.out rfl rfl rfl rfl rfl rfl (by (conv => lhs; simp only [put_lit, put_none, setL]) <;> rfl) ?_
  refine tk_wp rfl rfl rfl (by rfl) (fun w hst K hK => (by go_step; exact hK _ (Below.refl _ _))) (by rfl) (by rfl) ?_
  refine tk_wp rfl rfl rfl (by rfl) (fun w hst K hK => (by go_step; exact hK _ (Below.refl _ _))) (by rfl) (by rfl) ?_
  refine tk_cut HX2.out rfl rfl rfl rfl rfl rfl (by (conv => lhs; simp only [put_lit, put_none, setL]) <;> rfl) ?_
  refine tk_wp rfl rfl rfl (by rfl) (fun w hst K hK => (by go_step; exact hK _ (Below.refl _ _))) (by rfl) (by rfl) ?_
  refine tk_nil ?_
  refine rg_two (i := 6) (j := 9) (n := 21) (by kernel_rfl) rfl rfl rfl rfl (fun w' hst => wo_buildSliceN (l := [.slice ad1 k c1, .slice ad2 (text.length - k) c2]) rfl elt22 rfl rfl rfl (by decide) hst (fun b33 w33 hb33 hst33 => ⟨[(b33, _)], hst33, ?_⟩)) (fun w' hst => wo_buildSlice1 (v := .slice bd text.length bc) rfl elt22 (by decide) rfl (row_one _) hst (fun b36 w36 hb36 hst36 => ⟨[(b36, _)], hst36, ?_⟩))
  · simp only [put_lit, setL]
    refine rg_two (i := 7) (j := 9) (n := 20) (by kernel_rfl) rfl rfl rfl rfl (fun w' hst => wo_call pl12 rfl rfl (sum_any _ [A, B] _ (HB2.out b33 _ _ hst (by simp)) (by simp) (Nat.le_trans HN2.out (by decide)) HL2.out (hK.keep hst.none)) (fun v34 w34 hR34 => ?_)) (fun w' hst => wo_buildSlice1 (v := .slice bd text.length bc) rfl elt22 (by decide) rfl (row_one _) hst (fun b36 w36 hb36 hst36 => ⟨[(b36, _)], hst36, ?_⟩))
    · obtain ⟨rfl, hst34⟩ := hR34
      refine ⟨[], hst.call hst34, ?_⟩
      simp only [put_lit, setL]
      refine rg_st (i := 9) (n := 19) (by kernel_rfl) rfl rfl rfl (fun w' hst => wo_buildSlice1 (v := .slice bd text.length bc) rfl elt22 (by decide) rfl (row_one _) hst (fun b36 w36 hb36 hst36 => ⟨[(b36, _)], hst36, ?_⟩))
      simp only [put_lit, setL]
      refine rg_st (i := 10) (n := 18) (by kernel_rfl) rfl rfl rfl (fun w' hst => wo_call pl12 rfl rfl (sum_any _ [text] _ (HB1.out b36 _ _ hst (by simp)) (by simp) (Nat.le_trans HN1.out (by decide)) HL1.out (hK.keep hst.none)) (fun v37 w37 hR37 => ?_))
      obtain ⟨rfl, hst37⟩ := hR37
      refine ⟨[], hst.call hst37, ?_⟩
      simp only [put_lit, setL]
      refine rg_take [11, 12, 13, 14, 15, 16, 17, 18, 19, 22, 23] 7 _ rfl (by kernel_rfl) (by kernel_rfl) rfl (cls_st _ _ _) (fun _ _ _ _ _ h => h) ?_
      refine tk_eqB rfl rfl rfl eqb26 rfl rfl (sha_len _) (sha_len _) (sha_lt _) (sha_lt _) (decide_eq_true HE1.out) (by (conv => lhs; simp only [put_lit, put_none, setL]) <;> rfl) ?_
      refine tk_wp rfl rfl rfl (by rfl) (fun w hst K hK => (by go_step; exact hK _ (Below.refl _ _))) (by rfl) (by rfl) ?_
      first | (refine tk_skip rfl (by rfl) (by (conv => lhs; simp only [put_lit, put_none, setL]) <;> rfl) ?_) | (refine tk_wp rfl rfl rfl (by rfl) (fun w hst K hK => (by go_step; exact hK _ (Below.refl _ _))) (by rfl) (by rfl) ?_)
      first | (refine tk_skip rfl (by rfl) (by (conv => lhs; simp only [put_lit, put_none, setL]) <;> rfl) ?_) | (refine tk_wp rfl rfl rfl (by rfl) (fun w hst K hK => (by go_step; exact hK _ (Below.refl _ _))) (by rfl) (by rfl) ?_)
      first | (refine tk_skip rfl (by rfl) (by (conv => lhs; simp only [put_lit, put_none, setL]) <;> rfl) ?_) | (refine tk_wp rfl rfl rfl (by rfl) (fun w hst K hK => (by go_step; exact hK _ (Below.refl _ _))) (by rfl) (by rfl) ?_)
      first | (refine tk_skip rfl (by rfl) (by (conv => lhs; simp only [put_lit, put_none, setL]) <;> rfl) ?_) | (refine tk_cut HX1.out rfl rfl rfl rfl rfl rfl (by (conv => lhs; simp only [put_lit, put_none, setL]) <;> rfl) ?_)
      first | (refine tk_skip rfl (by rfl) (by (conv => lhs; simp only [put_lit, put_none, setL]) <;> rfl) ?_) | (refine tk_wp rfl rfl rfl (by rfl) (fun w hst K hK => (by go_step; exact hK _ (Below.refl _ _))) (by rfl) (by rfl) ?_)
      first | (refine tk_skip rfl (by rfl) (by (conv => lhs; simp only [put_lit, put_none, setL]) <;> rfl) ?_) | (refine tk_wp rfl rfl rfl (by rfl) (fun w hst K hK => (by go_step; exact hK _ (Below.refl _ _))) (by rfl) (by rfl) ?_)
      first | (refine tk_skip rfl (by rfl) (by (conv => lhs; simp only [put_lit, put_none, setL]) <;> rfl) ?_) | (refine tk_cut HX2.out rfl rfl rfl rfl rfl rfl (by (conv => lhs; simp only [put_lit, put_none, setL]) <;> rfl) ?_)
      first | (refine tk_skip rfl (by rfl) (by (conv => lhs; simp only [put_lit, put_none, setL]) <;> rfl) ?_) | (refine tk_wp rfl rfl rfl (by rfl) (fun w hst K hK => (by go_step; exact hK _ (Below.refl _ _))) (by rfl) (by rfl) ?_)
      first | (refine tk_skip rfl (by rfl) (by (conv => lhs; simp only [put_lit, put_none, setL]) <;> rfl) ?_) | (refine tk_wp rfl rfl rfl (by rfl) (fun w hst K hK => (by go_step; exact hK _ (Below.refl _ _))) (by rfl) (by rfl) ?_)
      refine tk_nil ?_
      refine rg_two (i := 20) (j := 24) (n := 6) (by kernel_rfl) rfl rfl rfl rfl (fun w' hst => wo_buildSliceN (l := [.slice ad1 k c1, .slice none 0 0, .slice ad2 (text.length - k) c2]) rfl elt22 rfl rfl rfl (by decide) hst (fun b47 w47 hb47 hst47 => ⟨[(b47, _)], hst47, ?_⟩)) (fun w' hst => wo_buildSlice1 (v := .slice bd text.length bc) rfl elt22 (by decide) rfl (row_one _) hst (fun b51 w51 hb51 hst51 => ⟨[(b51, _)], hst51, ?_⟩))
      · simp only [put_lit, setL]
        refine rg_two (i := 21) (j := 24) (n := 5) (by kernel_rfl) rfl rfl rfl rfl (fun w' hst => wo_call pl15 rfl rfl (mac_any _ _ key [A, [], B] _ (h.keep hst.none) (HB3.out b47 _ _ hst (by simp)) (by omega) (by simp) HN3.out HL3.out (hK.keep hst.none)) (fun v48 w48 hR48 => ?_)) (fun w' hst => wo_buildSlice1 (v := .slice bd text.length bc) rfl elt22 (by decide) rfl (row_one _) hst (fun b51 w51 hb51 hst51 => ⟨[(b51, _)], hst51, ?_⟩))
        · obtain ⟨rfl, hst48⟩ := hR48
          refine ⟨[], hst.call hst48, ?_⟩
          simp only [put_lit, setL]
          refine rg_st (i := 24) (n := 4) (by kernel_rfl) rfl rfl rfl (fun w' hst => wo_buildSlice1 (v := .slice bd text.length bc) rfl elt22 (by decide) rfl (row_one _) hst (fun b51 w51 hb51 hst51 => ⟨[(b51, _)], hst51, ?_⟩))
          simp only [put_lit, setL]
          refine rg_st (i := 25) (n := 3) (by kernel_rfl) rfl rfl rfl (fun w' hst => wo_call pl15 rfl rfl (mac_any _ _ key [text] _ (h.keep hst.none) (HB1.out b51 _ _ hst (by simp)) (by omega) (by simp) HN1.out HL1.out (hK.keep hst.none)) (fun v52 w52 hR52 => ?_))
          obtain ⟨rfl, hst52⟩ := hR52
          refine ⟨[], hst.call hst52, ?_⟩
          simp only [put_lit, setL]
          refine rg_take [26, 27, 28] 0 _ rfl (by kernel_rfl) (by kernel_rfl) rfl (cls_st _ _ _) (fun _ _ _ _ _ h => h) ?_
          first | (refine tk_skip rfl (by rfl) (by (conv => lhs; simp only [put_lit, put_none, setL]) <;> rfl) ?_) | (refine tk_eqB rfl rfl rfl eqb26 rfl rfl (hmac_len _ _) (hmac_len _ _) (hmac_lt _ _) (hmac_lt _ _) (decide_eq_true HE2.out) (by (conv => lhs; simp only [put_lit, put_none, setL]) <;> rfl) ?_)
          refine tk_wp rfl rfl rfl (by rfl) (fun w hst K hK => (by go_step; exact hK _ (Below.refl _ _))) (by rfl) (by rfl) ?_
          refine tk_wp rfl rfl rfl (by rfl) (fun w hst K hK => (by go_step; exact hK _ (Below.refl _ _))) (by rfl) (by rfl) ?_
          refine tk_nil ?_
          refine rg_done (by kernel_rfl) (fun w1 hst1 => ?_) _
          clear hst
          have hst := hst1
          clear hst1
          go_wp2_with fail
          go_ret
          exact ⟨_, rfl, rfl, hst.none⟩
        · simp only [put_lit, setL]
          refine rg_st (i := 21) (n := 4) (by kernel_rfl) rfl rfl rfl (fun w' hst => wo_call pl15 rfl rfl (mac_any _ _ key [A, [], B] _ (h.keep hst.none) (HB3.out b47 _ _ hst (by simp)) (by omega) (by simp) HN3.out HL3.out (hK.keep hst.none)) (fun v48 w48 hR48 => ?_))
          obtain ⟨rfl, hst48⟩ := hR48
          refine ⟨[], hst.call hst48, ?_⟩
          simp only [put_lit, setL]
          refine rg_st (i := 25) (n := 3) (by kernel_rfl) rfl rfl rfl (fun w' hst => wo_call pl15 rfl rfl (mac_any _ _ key [text] _ (h.keep hst.none) (HB1.out b51 _ _ hst (by simp)) (by omega) (by simp) HN1.out HL1.out (hK.keep hst.none)) (fun v52 w52 hR52 => ?_))
          obtain ⟨rfl, hst52⟩ := hR52
          refine ⟨[], hst.call hst52, ?_⟩
          simp only [put_lit, setL]
          refine rg_take [26, 27, 28] 0 _ rfl (by kernel_rfl) (by kernel_rfl) rfl (cls_st _ _ _) (fun _ _ _ _ _ h => h) ?_
          first | (refine tk_skip rfl (by rfl) (by (conv => lhs; simp only [put_lit, put_none, setL]) <;> rfl) ?_) | (refine tk_eqB rfl rfl rfl eqb26 rfl rfl (hmac_len _ _) (hmac_len _ _) (hmac_lt _ _) (hmac_lt _ _) (decide_eq_true HE2.out) (by (conv => lhs; simp only [put_lit, put_none, setL]) <;> rfl) ?_)
          refine tk_wp rfl rfl rfl (by rfl) (fun w hst K hK => (by go_step; exact hK _ (Below.refl _ _))) (by rfl) (by rfl) ?_
          refine tk_wp rfl rfl rfl (by rfl) (fun w hst K hK => (by go_step; exact hK _ (Below.refl _ _))) (by rfl) (by rfl) ?_
          refine tk_nil ?_
          refine rg_done (by kernel_rfl) (fun w1 hst1 => ?_) _
          clear hst
          have hst := hst1
          clear hst1
          go_wp2_with fail
          go_ret
          exact ⟨_, rfl, rfl, hst.none⟩
      · simp only [put_lit, setL]
        refine rg_st (i := 20) (n := 5) (by kernel_rfl) rfl rfl rfl (fun w' hst => wo_buildSliceN (l := [.slice ad1 k c1, .slice none 0 0, .slice ad2 (text.length - k) c2]) rfl elt22 rfl rfl rfl (by decide) hst (fun b47 w47 hb47 hst47 => ⟨[(b47, _)], hst47, ?_⟩))
        simp only [put_lit, setL]
        refine rg_st (i := 21) (n := 4) (by kernel_rfl) rfl rfl rfl (fun w' hst => wo_call pl15 rfl rfl (mac_any _ _ key [A, [], B] _ (h.keep hst.none) (HB3.out b47 _ _ hst (by simp)) (by omega) (by simp) HN3.out HL3.out (hK.keep hst.none)) (fun v48 w48 hR48 => ?_))
        obtain ⟨rfl, hst48⟩ := hR48
        refine ⟨[], hst.call hst48, ?_⟩
        simp only [put_lit, setL]
        refine rg_st (i := 25) (n := 3) (by kernel_rfl) rfl rfl rfl (fun w' hst => wo_call pl15 rfl rfl (mac_any _ _ key [text] _ (h.keep hst.none) (HB1.out b51 _ _ hst (by simp)) (by omega) (by simp) HN1.out HL1.out (hK.keep hst.none)) (fun v52 w52 hR52 => ?_))
        obtain ⟨rfl, hst52⟩ := hR52
        refine ⟨[], hst.call hst52, ?_⟩
        simp only [put_lit, setL]
        refine rg_take [26, 27, 28] 0 _ rfl (by kernel_rfl) (by kernel_rfl) rfl (cls_st _ _ _) (fun _ _ _ _ _ h => h) ?_
        first | (refine tk_skip rfl (by rfl) (by (conv => lhs; simp only [put_lit, put_none, setL]) <;> rfl) ?_) | (refine tk_eqB rfl rfl rfl eqb26 rfl rfl (hmac_len _ _) (hmac_len _ _) (hmac_lt _ _) (hmac_lt _ _) (decide_eq_true HE2.out) (by (conv => lhs; simp only [put_lit, put_none, setL]) <;> rfl) ?_)
        refine tk_wp rfl rfl rfl (by rfl) (fun w hst K hK => (by go_step; exact hK _ (Below.refl _ _))) (by rfl) (by rfl) ?_
        refine tk_wp rfl rfl rfl (by rfl) (fun w hst K hK => (by go_step; exact hK _ (Below.refl _ _))) (by rfl) (by rfl) ?_
        refine tk_nil ?_
        refine rg_done (by kernel_rfl) (fun w1 hst1 => ?_) _
        clear hst
        have hst := hst1
        clear hst1
        go_wp2_with fail
        go_ret
        exact ⟨_, rfl, rfl, hst.none⟩
    · simp only [put_lit, setL]
      refine rg_st (i := 7) (n := 19) (by kernel_rfl) rfl rfl rfl (fun w' hst => wo_call pl12 rfl rfl (sum_any _ [A, B] _ (HB2.out b33 _ _ hst (by simp)) (by simp) (Nat.le_trans HN2.out (by decide)) HL2.out (hK.keep hst.none)) (fun v34 w34 hR34 => ?_))
      obtain ⟨rfl, hst34⟩ := hR34
      refine ⟨[], hst.call hst34, ?_⟩
      simp only [put_lit, setL]
      refine rg_st (i := 10) (n := 18) (by kernel_rfl) rfl rfl rfl (fun w' hst => wo_call pl12 rfl rfl (sum_any _ [text] _ (HB1.out b36 _ _ hst (by simp)) (by simp) (Nat.le_trans HN1.out (by decide)) HL1.out (hK.keep hst.none)) (fun v37 w37 hR37 => ?_))
      obtain ⟨rfl, hst37⟩ := hR37
      refine ⟨[], hst.call hst37, ?_⟩
      simp only [put_lit, setL]
      refine rg_take [11, 12, 13, 14, 15, 16, 17, 18, 19, 22, 23] 7 _ rfl (by kernel_rfl) (by kernel_rfl) rfl (cls_st _ _ _) (fun _ _ _ _ _ h => h) ?_
      refine tk_eqB rfl rfl rfl eqb26 rfl rfl (sha_len _) (sha_len _) (sha_lt _) (sha_lt _) (decide_eq_true HE1.out) (by (conv => lhs; simp only [put_lit, put_none, setL]) <;> rfl) ?_
      refine tk_wp rfl rfl rfl (by rfl) (fun w hst K hK => (by go_step; exact hK _ (Below.refl _ _))) (by rfl) (by rfl) ?_
      first | (refine tk_skip rfl (by rfl) (by (conv => lhs; simp only [put_lit, put_none, setL]) <;> rfl) ?_) | (refine tk_wp rfl rfl rfl (by rfl) (fun w hst K hK => (by go_step; exact hK _ (Below.refl _ _))) (by rfl) (by rfl) ?_)
      first | (refine tk_skip rfl (by rfl) (by (conv => lhs; simp only [put_lit, put_none, setL]) <;> rfl) ?_) | (refine tk_wp rfl rfl rfl (by rfl) (fun w hst K hK => (by go_step; exact hK _ (Below.refl _ _))) (by rfl) (by rfl) ?_)
      first | (refine tk_skip rfl (by rfl) (by (conv => lhs; simp only [put_lit, put_none, setL]) <;> rfl) ?_) | (refine tk_wp rfl rfl rfl (by rfl) (fun w hst K hK => (by go_step; exact hK _ (Below.refl _ _))) (by rfl) (by rfl) ?_)
      first | (refine tk_skip rfl (by rfl) (by (conv => lhs; simp only [put_lit, put_none, setL]) <;> rfl) ?_) | (refine tk_cut HX1.out rfl rfl rfl rfl rfl rfl (by (conv => lhs; simp only [put_lit, put_none, setL]) <;> rfl) ?_)
      first | (refine tk_skip rfl (by rfl) (by (conv => lhs; simp only [put_lit, put_none, setL]) <;> rfl) ?_) | (refine tk_wp rfl rfl rfl (by rfl) (fun w hst K hK => (by go_step; exact hK _ (Below.refl _ _))) (by rfl) (by rfl) ?_)
      first | (refine tk_skip rfl (by rfl) (by (conv => lhs; simp only [put_lit, put_none, setL]) <;> rfl) ?_) | (refine tk_wp rfl rfl rfl (by rfl) (fun w hst K hK => (by go_step; exact hK _ (Below.refl _ _))) (by rfl) (by rfl) ?_)
      first | (refine tk_skip rfl (by rfl) (by (conv => lhs; simp only [put_lit, put_none, setL]) <;> rfl) ?_) | (refine tk_cut HX2.out rfl rfl rfl rfl rfl rfl (by (conv => lhs; simp only [put_lit, put_none, setL]) <;> rfl) ?_)
      first | (refine tk_skip rfl (by rfl) (by (conv => lhs; simp only [put_lit, put_none, setL]) <;> rfl) ?_) | (refine tk_wp rfl rfl rfl (by rfl) (fun w hst K hK => (by go_step; exact hK _ (Below.refl _ _))) (by rfl) (by rfl) ?_)
      first | (refine tk_skip rfl (by rfl) (by (conv => lhs; simp only [put_lit, put_none, setL]) <;> rfl) ?_) | (refine tk_wp rfl rfl rfl (by rfl) (fun w hst K hK => (by go_step; exact hK _ (Below.refl _ _))) (by rfl) (by rfl) ?_)
      refine tk_nil ?_
      refine rg_two (i := 20) (j := 24) (n := 6) (by kernel_rfl) rfl rfl rfl rfl (fun w' hst => wo_buildSliceN (l := [.slice ad1 k c1, .slice none 0 0, .slice ad2 (text.length - k) c2]) rfl elt22 rfl rfl rfl (by decide) hst (fun b47 w47 hb47 hst47 => ⟨[(b47, _)], hst47, ?_⟩)) (fun w' hst => wo_buildSlice1 (v := .slice bd text.length bc) rfl elt22 (by decide) rfl (row_one _) hst (fun b51 w51 hb51 hst51 => ⟨[(b51, _)], hst51, ?_⟩))
      · simp only [put_lit, setL]
        refine rg_two (i := 21) (j := 24) (n := 5) (by kernel_rfl) rfl rfl rfl rfl (fun w' hst => wo_call pl15 rfl rfl (mac_any _ _ key [A, [], B] _ (h.keep hst.none) (HB3.out b47 _ _ hst (by simp)) (by omega) (by simp) HN3.out HL3.out (hK.keep hst.none)) (fun v48 w48 hR48 => ?_)) (fun w' hst => wo_buildSlice1 (v := .slice bd text.length bc) rfl elt22 (by decide) rfl (row_one _) hst (fun b51 w51 hb51 hst51 => ⟨[(b51, _)], hst51, ?_⟩))
        · obtain ⟨rfl, hst48⟩ := hR48
          refine ⟨[], hst.call hst48, ?_⟩
          simp only [put_lit, setL]
          refine rg_st (i := 24) (n := 4) (by kernel_rfl) rfl rfl rfl (fun w' hst => wo_buildSlice1 (v := .slice bd text.length bc) rfl elt22 (by decide) rfl (row_one _) hst (fun b51 w51 hb51 hst51 => ⟨[(b51, _)], hst51, ?_⟩))
          simp only [put_lit, setL]
          refine rg_st (i := 25) (n := 3) (by kernel_rfl) rfl rfl rfl (fun w' hst => wo_call pl15 rfl rfl (mac_any _ _ key [text] _ (h.keep hst.none) (HB1.out b51 _ _ hst (by simp)) (by omega) (by simp) HN1.out HL1.out (hK.keep hst.none)) (fun v52 w52 hR52 => ?_))
          obtain ⟨rfl, hst52⟩ := hR52
          refine ⟨[], hst.call hst52, ?_⟩
          simp only [put_lit, setL]
          refine rg_take [26, 27, 28] 0 _ rfl (by kernel_rfl) (by kernel_rfl) rfl (cls_st _ _ _) (fun _ _ _ _ _ h => h) ?_
          first | (refine tk_skip rfl (by rfl) (by (conv => lhs; simp only [put_lit, put_none, setL]) <;> rfl) ?_) | (refine tk_eqB rfl rfl rfl eqb26 rfl rfl (hmac_len _ _) (hmac_len _ _) (hmac_lt _ _) (hmac_lt _ _) (decide_eq_true HE2.out) (by (conv => lhs; simp only [put_lit, put_none, setL]) <;> rfl) ?_)
          refine tk_wp rfl rfl rfl (by rfl) (fun w hst K hK => (by go_step; exact hK _ (Below.refl _ _))) (by rfl) (by rfl) ?_
          refine tk_wp rfl rfl rfl (by rfl) (fun w hst K hK => (by go_step; exact hK _ (Below.refl _ _))) (by rfl) (by rfl) ?_
          refine tk_nil ?_
          refine rg_done (by kernel_rfl) (fun w1 hst1 => ?_) _
          clear hst
          have hst := hst1
          clear hst1
          go_wp2_with fail
          go_ret
          exact ⟨_, rfl, rfl, hst.none⟩
        · simp only [put_lit, setL]
          refine rg_st (i := 21) (n := 4) (by kernel_rfl) rfl rfl rfl (fun w' hst => wo_call pl15 rfl rfl (mac_any _ _ key [A, [], B] _ (h.keep hst.none) (HB3.out b47 _ _ hst (by simp)) (by omega) (by simp) HN3.out HL3.out (hK.keep hst.none)) (fun v48 w48 hR48 => ?_))
          obtain ⟨rfl, hst48⟩ := hR48
          refine ⟨[], hst.call hst48, ?_⟩
          simp only [put_lit, setL]
          refine rg_st (i := 25) (n := 3) (by kernel_rfl) rfl rfl rfl (fun w' hst => wo_call pl15 rfl rfl (mac_any _ _ key [text] _ (h.keep hst.none) (HB1.out b51 _ _ hst (by simp)) (by omega) (by simp) HN1.out HL1.out (hK.keep hst.none)) (fun v52 w52 hR52 => ?_))
          obtain ⟨rfl, hst52⟩ := hR52
          refine ⟨[], hst.call hst52, ?_⟩
          simp only [put_lit, setL]
          refine rg_take [26, 27, 28] 0 _ rfl (by kernel_rfl) (by kernel_rfl) rfl (cls_st _ _ _) (fun _ _ _ _ _ h => h) ?_
          first | (refine tk_skip rfl (by rfl) (by (conv => lhs; simp only [put_lit, put_none, setL]) <;> rfl) ?_) | (refine tk_eqB rfl rfl rfl eqb26 rfl rfl (hmac_len _ _) (hmac_len _ _) (hmac_lt _ _) (hmac_lt _ _) (decide_eq_true HE2.out) (by (conv => lhs; simp only [put_lit, put_none, setL]) <;> rfl) ?_)
          refine tk_wp rfl rfl rfl (by rfl) (fun w hst K hK => (by go_step; exact hK _ (Below.refl _ _))) (by rfl) (by rfl) ?_
          refine tk_wp rfl rfl rfl (by rfl) (fun w hst K hK => (by go_step; exact hK _ (Below.refl _ _))) (by rfl) (by rfl) ?_
          refine tk_nil ?_
          refine rg_done (by kernel_rfl) (fun w1 hst1 => ?_) _
          clear hst
          have hst := hst1
          clear hst1
          go_wp2_with fail
          go_ret
          exact ⟨_, rfl, rfl, hst.none⟩
      · simp only [put_lit, setL]
        refine rg_st (i := 20) (n := 5) (by kernel_rfl) rfl rfl rfl (fun w' hst => wo_buildSliceN (l := [.slice ad1 k c1, .slice none 0 0, .slice ad2 (text.length - k) c2]) rfl elt22 rfl rfl rfl (by decide) hst (fun b47 w47 hb47 hst47 => ⟨[(b47, _)], hst47, ?_⟩))
        simp only [put_lit, setL]
        refine rg_st (i := 21) (n := 4) (by kernel_rfl) rfl rfl rfl (fun w' hst => wo_call pl15 rfl rfl (mac_any _ _ key [A, [], B] _ (h.keep hst.none) (HB3.out b47 _ _ hst (by simp)) (by omega) (by simp) HN3.out HL3.out (hK.keep hst.none)) (fun v48 w48 hR48 => ?_))
        obtain ⟨rfl, hst48⟩ := hR48
        refine ⟨[], hst.call hst48, ?_⟩
        simp only [put_lit, setL]
        refine rg_st (i := 25) (n := 3) (by kernel_rfl) rfl rfl rfl (fun w' hst => wo_call pl15 rfl rfl (mac_any _ _ key [text] _ (h.keep hst.none) (HB1.out b51 _ _ hst (by simp)) (by omega) (by simp) HN1.out HL1.out (hK.keep hst.none)) (fun v52 w52 hR52 => ?_))
        obtain ⟨rfl, hst52⟩ := hR52
        refine ⟨[], hst.call hst52, ?_⟩
        simp only [put_lit, setL]
        refine rg_take [26, 27, 28] 0 _ rfl (by kernel_rfl) (by kernel_rfl) rfl (cls_st _ _ _) (fun _ _ _ _ _ h => h) ?_
        first | (refine tk_skip rfl (by rfl) (by (conv => lhs; simp only [put_lit, put_none, setL]) <;> rfl) ?_) | (refine tk_eqB rfl rfl rfl eqb26 rfl rfl (hmac_len _ _) (hmac_len _ _) (hmac_lt _ _) (hmac_lt _ _) (decide_eq_true HE2.out) (by (conv => lhs; simp only [put_lit, put_none, setL]) <;> rfl) ?_)
        refine tk_wp rfl rfl rfl (by rfl) (fun w hst K hK => (by go_step; exact hK _ (Below.refl _ _))) (by rfl) (by rfl) ?_
        refine tk_wp rfl rfl rfl (by rfl) (fun w hst K hK => (by go_step; exact hK _ (Below.refl _ _))) (by rfl) (by rfl) ?_
        refine tk_nil ?_
        refine rg_done (by kernel_rfl) (fun w1 hst1 => ?_) _
        clear hst
        have hst := hst1
        clear hst1
        go_wp2_with fail
        go_ret
        exact ⟨_, rfl, rfl, hst.none⟩
  · simp only [put_lit, setL]
    refine rg_st (i := 6) (n := 20) (by kernel_rfl) rfl rfl rfl (fun w' hst => wo_buildSliceN (l := [.slice ad1 k c1, .slice ad2 (text.length - k) c2]) rfl elt22 rfl rfl rfl (by decide) hst (fun b33 w33 hb33 hst33 => ⟨[(b33, _)], hst33, ?_⟩))
    simp only [put_lit, setL]
    refine rg_st (i := 7) (n := 19) (by kernel_rfl) rfl rfl rfl (fun w' hst => wo_call pl12 rfl rfl (sum_any _ [A, B] _ (HB2.out b33 _ _ hst (by simp)) (by simp) (Nat.le_trans HN2.out (by decide)) HL2.out (hK.keep hst.none)) (fun v34 w34 hR34 => ?_))
    obtain ⟨rfl, hst34⟩ := hR34
    refine ⟨[], hst.call hst34, ?_⟩
    simp only [put_lit, setL]
    refine rg_st (i := 10) (n := 18) (by kernel_rfl) rfl rfl rfl (fun w' hst => wo_call pl12 rfl rfl (sum_any _ [text] _ (HB1.out b36 _ _ hst (by simp)) (by simp) (Nat.le_trans HN1.out (by decide)) HL1.out (hK.keep hst.none)) (fun v37 w37 hR37 => ?_))
    obtain ⟨rfl, hst37⟩ := hR37
    refine ⟨[], hst.call hst37, ?_⟩
    simp only [put_lit, setL]
    refine rg_take [11, 12, 13, 14, 15, 16, 17, 18, 19, 22, 23] 7 _ rfl (by kernel_rfl) (by kernel_rfl) rfl (cls_st _ _ _) (fun _ _ _ _ _ h => h) ?_
    refine tk_eqB rfl rfl rfl eqb26 rfl rfl (sha_len _) (sha_len _) (sha_lt _) (sha_lt _) (decide_eq_true HE1.out) (by (conv => lhs; simp only [put_lit, put_none, setL]) <;> rfl) ?_
    refine tk_wp rfl rfl rfl (by rfl) (fun w hst K hK => (by go_step; exact hK _ (Below.refl _ _))) (by rfl) (by rfl) ?_
    first | (refine tk_skip rfl (by rfl) (by (conv => lhs; simp only [put_lit, put_none, setL]) <;> rfl) ?_) | (refine tk_wp rfl rfl rfl (by rfl) (fun w hst K hK => (by go_step; exact hK _ (Below.refl _ _))) (by rfl) (by rfl) ?_)
    first | (refine tk_skip rfl (by rfl) (by (conv => lhs; simp only [put_lit, put_none, setL]) <;> rfl) ?_) | (refine tk_wp rfl rfl rfl (by rfl) (fun w hst K hK => (by go_step; exact hK _ (Below.refl _ _))) (by rfl) (by rfl) ?_)
    first | (refine tk_skip rfl (by rfl) (by (conv => lhs; simp only [put_lit, put_none, setL]) <;> rfl) ?_) | (refine tk_wp rfl rfl rfl (by rfl) (fun w hst K hK => (by go_step; exact hK _ (Below.refl _ _))) (by rfl) (by rfl) ?_)
    first | (refine tk_skip rfl (by rfl) (by (conv => lhs; simp only [put_lit, put_none, setL]) <;> rfl) ?_) | (refine tk_cut HX1.out rfl rfl rfl rfl rfl rfl (by (conv => lhs; simp only [put_lit, put_none, setL]) <;> rfl) ?_)
    first | (refine tk_skip rfl (by rfl) (by (conv => lhs; simp only [put_lit, put_none, setL]) <;> rfl) ?_) | (refine tk_wp rfl rfl rfl (by rfl) (fun w hst K hK => (by go_step; exact hK _ (Below.refl _ _))) (by rfl) (by rfl) ?_)
    first | (refine tk_skip rfl (by rfl) (by (conv => lhs; simp only [put_lit, put_none, setL]) <;> rfl) ?_) | (refine tk_wp rfl rfl rfl (by rfl) (fun w hst K hK => (by go_step; exact hK _ (Below.refl _ _))) (by rfl) (by rfl) ?_)
    first | (refine tk_skip rfl (by rfl) (by (conv => lhs; simp only [put_lit, put_none, setL]) <;> rfl) ?_) | (refine tk_cut HX2.out rfl rfl rfl rfl rfl rfl (by (conv => lhs; simp only [put_lit, put_none, setL]) <;> rfl) ?_)
    first | (refine tk_skip rfl (by rfl) (by (conv => lhs; simp only [put_lit, put_none, setL]) <;> rfl) ?_) | (refine tk_wp rfl rfl rfl (by rfl) (fun w hst K hK => (by go_step; exact hK _ (Below.refl _ _))) (by rfl) (by rfl) ?_)
    first | (refine tk_skip rfl (by rfl) (by (conv => lhs; simp only [put_lit, put_none, setL]) <;> rfl) ?_) | (refine tk_wp rfl rfl rfl (by rfl) (fun w hst K hK => (by go_step; exact hK _ (Below.refl _ _))) (by rfl) (by rfl) ?_)
    refine tk_nil ?_
    refine rg_two (i := 20) (j := 24) (n := 6) (by kernel_rfl) rfl rfl rfl rfl (fun w' hst => wo_buildSliceN (l := [.slice ad1 k c1, .slice none 0 0, .slice ad2 (text.length - k) c2]) rfl elt22 rfl rfl rfl (by decide) hst (fun b47 w47 hb47 hst47 => ⟨[(b47, _)], hst47, ?_⟩)) (fun w' hst => wo_buildSlice1 (v := .slice bd text.length bc) rfl elt22 (by decide) rfl (row_one _) hst (fun b51 w51 hb51 hst51 => ⟨[(b51, _)], hst51, ?_⟩))
    · simp only [put_lit, setL]
      refine rg_two (i := 21) (j := 24) (n := 5) (by kernel_rfl) rfl rfl rfl rfl (fun w' hst => wo_call pl15 rfl rfl (mac_any _ _ key [A, [], B] _ (h.keep hst.none) (HB3.out b47 _ _ hst (by simp)) (by omega) (by simp) HN3.out HL3.out (hK.keep hst.none)) (fun v48 w48 hR48 => ?_)) (fun w' hst => wo_buildSlice1 (v := .slice bd text.length bc) rfl elt22 (by decide) rfl (row_one _) hst (fun b51 w51 hb51 hst51 => ⟨[(b51, _)], hst51, ?_⟩))
      · obtain ⟨rfl, hst48⟩ := hR48
        refine ⟨[], hst.call hst48, ?_⟩
        simp only [put_lit, setL]
        refine rg_st (i := 24) (n := 4) (by kernel_rfl) rfl rfl rfl (fun w' hst => wo_buildSlice1 (v := .slice bd text.length bc) rfl elt22 (by decide) rfl (row_one _) hst (fun b51 w51 hb51 hst51 => ⟨[(b51, _)], hst51, ?_⟩))
        simp only [put_lit, setL]
        refine rg_st (i := 25) (n := 3) (by kernel_rfl) rfl rfl rfl (fun w' hst => wo_call pl15 rfl rfl (mac_any _ _ key [text] _ (h.keep hst.none) (HB1.out b51 _ _ hst (by simp)) (by omega) (by simp) HN1.out HL1.out (hK.keep hst.none)) (fun v52 w52 hR52 => ?_))
        obtain ⟨rfl, hst52⟩ := hR52
        refine ⟨[], hst.call hst52, ?_⟩
        simp only [put_lit, setL]
        refine rg_take [26, 27, 28] 0 _ rfl (by kernel_rfl) (by kernel_rfl) rfl (cls_st _ _ _) (fun _ _ _ _ _ h => h) ?_
        first | (refine tk_skip rfl (by rfl) (by (conv => lhs; simp only [put_lit, put_none, setL]) <;> rfl) ?_) | (refine tk_eqB rfl rfl rfl eqb26 rfl rfl (hmac_len _ _) (hmac_len _ _) (hmac_lt _ _) (hmac_lt _ _) (decide_eq_true HE2.out) (by (conv => lhs; simp only [put_lit, put_none, setL]) <;> rfl) ?_)
        refine tk_wp rfl rfl rfl (by rfl) (fun w hst K hK => (by go_step; exact hK _ (Below.refl _ _))) (by rfl) (by rfl) ?_
        refine tk_wp rfl rfl rfl (by rfl) (fun w hst K hK => (by go_step; exact hK _ (Below.refl _ _))) (by rfl) (by rfl) ?_
        refine tk_nil ?_
        refine rg_done (by kernel_rfl) (fun w1 hst1 => ?_) _
        clear hst
        have hst := hst1
        clear hst1
        go_wp2_with fail
        go_ret
        exact ⟨_, rfl, rfl, hst.none⟩
      · simp only [put_lit, setL]
        refine rg_st (i := 21) (n := 4) (by kernel_rfl) rfl rfl rfl (fun w' hst => wo_call pl15 rfl rfl (mac_any _ _ key [A, [], B] _ (h.keep hst.none) (HB3.out b47 _ _ hst (by simp)) (by omega) (by simp) HN3.out HL3.out (hK.keep hst.none)) (fun v48 w48 hR48 => ?_))
        obtain ⟨rfl, hst48⟩ := hR48
        refine ⟨[], hst.call hst48, ?_⟩
        simp only [put_lit, setL]
        refine rg_st (i := 25) (n := 3) (by kernel_rfl) rfl rfl rfl (fun w' hst => wo_call pl15 rfl rfl (mac_any _ _ key [text] _ (h.keep hst.none) (HB1.out b51 _ _ hst (by simp)) (by omega) (by simp) HN1.out HL1.out (hK.keep hst.none)) (fun v52 w52 hR52 => ?_))
        obtain ⟨rfl, hst52⟩ := hR52
        refine ⟨[], hst.call hst52, ?_⟩
        simp only [put_lit, setL]
        refine rg_take [26, 27, 28] 0 _ rfl (by kernel_rfl) (by kernel_rfl) rfl (cls_st _ _ _) (fun _ _ _ _ _ h => h) ?_
        first | (refine tk_skip rfl (by rfl) (by (conv => lhs; simp only [put_lit, put_none, setL]) <;> rfl) ?_) | (refine tk_eqB rfl rfl rfl eqb26 rfl rfl (hmac_len _ _) (hmac_len _ _) (hmac_lt _ _) (hmac_lt _ _) (decide_eq_true HE2.out) (by (conv => lhs; simp only [put_lit, put_none, setL]) <;> rfl) ?_)
        refine tk_wp rfl rfl rfl (by rfl) (fun w hst K hK => (by go_step; exact hK _ (Below.refl _ _))) (by rfl) (by rfl) ?_
        refine tk_wp rfl rfl rfl (by rfl) (fun w hst K hK => (by go_step; exact hK _ (Below.refl _ _))) (by rfl) (by rfl) ?_
        refine tk_nil ?_
        refine rg_done (by kernel_rfl) (fun w1 hst1 => ?_) _
        clear hst
        have hst := hst1
        clear hst1
        go_wp2_with fail
        go_ret
        exact ⟨_, rfl, rfl, hst.none⟩
    · simp only [put_lit, setL]
      refine rg_st (i := 20) (n := 5) (by kernel_rfl) rfl rfl rfl (fun w' hst => wo_buildSliceN (l := [.slice ad1 k c1, .slice none 0 0, .slice ad2 (text.length - k) c2]) rfl elt22 rfl rfl rfl (by decide) hst (fun b47 w47 hb47 hst47 => ⟨[(b47, _)], hst47, ?_⟩))
      simp only [put_lit, setL]
      refine rg_st (i := 21) (n := 4) (by kernel_rfl) rfl rfl rfl (fun w' hst => wo_call pl15 rfl rfl (mac_any _ _ key [A, [], B] _ (h.keep hst.none) (HB3.out b47 _ _ hst (by simp)) (by omega) (by simp) HN3.out HL3.out (hK.keep hst.none)) (fun v48 w48 hR48 => ?_))
      obtain ⟨rfl, hst48⟩ := hR48
      refine ⟨[], hst.call hst48, ?_⟩
      simp only [put_lit, setL]
      refine rg_st (i := 25) (n := 3) (by kernel_rfl) rfl rfl rfl (fun w' hst => wo_call pl15 rfl rfl (mac_any _ _ key [text] _ (h.keep hst.none) (HB1.out b51 _ _ hst (by simp)) (by omega) (by simp) HN1.out HL1.out (hK.keep hst.none)) (fun v52 w52 hR52 => ?_))
      obtain ⟨rfl, hst52⟩ := hR52
      refine ⟨[], hst.call hst52, ?_⟩
      simp only [put_lit, setL]
      refine rg_take [26, 27, 28] 0 _ rfl (by kernel_rfl) (by kernel_rfl) rfl (cls_st _ _ _) (fun _ _ _ _ _ h => h) ?_
      first | (refine tk_skip rfl (by rfl) (by (conv => lhs; simp only [put_lit, put_none, setL]) <;> rfl) ?_) | (refine tk_eqB rfl rfl rfl eqb26 rfl rfl (hmac_len _ _) (hmac_len _ _) (hmac_lt _ _) (hmac_lt _ _) (decide_eq_true HE2.out) (by (conv => lhs; simp only [put_lit, put_none, setL]) <;> rfl) ?_)
      refine tk_wp rfl rfl rfl (by rfl) (fun w hst K hK => (by go_step; exact hK _ (Below.refl _ _))) (by rfl) (by rfl) ?_
      refine tk_wp rfl rfl rfl (by rfl) (fun w hst K hK => (by go_step; exact hK _ (Below.refl _ _))) (by rfl) (by rfl) ?_
      refine tk_nil ?_
      refine rg_done (by kernel_rfl) (fun w1 hst1 => ?_) _
      clear hst
      have hst := hst1
      clear hst1
      go_wp2_with fail
      go_ret
      exact ⟨_, rfl, rfl, hst.none⟩
end Go.Proofs.YtpidapgglkoogaaDoor
