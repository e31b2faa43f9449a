/- The walk of HashMacs. -/
import Derived.Test.YtpidapgglkoogaaDoorLaw2
import Derived.Test.YtpidapgglkoogaaDoorLibK
namespace Go.Proofs.YtpidapgglkoogaaDoor
open Go.RowKit Go.Jal

set_option maxRecDepth 100000 in
theorem hashMacs_any (v t : Value) (key : List Nat) (ls : List (List Nat)) (w : World) (h : Bs w v key) (ht : Bss w t ls) (hK : Has w 1 64 (wF Sha.K)) (hK0 : Has w 0 64 (wF Sha.K)) :
    Ret Tryd.prog 6 #[v, t] w fun v' w' => v' = .bool true ∧ St w [] [] w' := by
  have hlt := Bss.lt ht
  go_enter Tryd.func6, Tryd.ntmps6
  have hst := St.refl w
  have HLT := Lib.hid hlt
  clear hlt
  obtain ⟨ad, c, rfl, _⟩ := id h
  cases hf : few ls with
  | false =>
    go_wp2_with (first
      | ((with_reducible refine at_op (o := ⟨some 5, _, _, _, _, _⟩) ?_); go_loud (refine wl_call pl10 rfl rfl rfl (awake_any _ (hK.keep hst)) ?_; rintro v5 w5 ⟨rfl, hst5⟩; replace hst := hst.call hst5; clear hst5))
      | ((with_reducible refine at_op (o := ⟨some 8, _, _, _, _, _⟩) ?_); go_loud (refine wl_call pl11 rfl rfl rfl (few_any _ ls _ (ht.keep hst)) ?_; rintro v8 w8 ⟨rfl, rfl⟩; rw [hf]))
      | ((with_reducible refine at_op (o := ⟨some 18, _, _, _, _, _⟩) ?_); go_loud (go_outline; fail "call 15"))
      | ((with_reducible refine at_op (o := ⟨some 21, _, _, _, _, _⟩) ?_); go_loud (go_outline; fail "call 14"))
      | ((with_reducible refine at_op (o := ⟨some 22, _, _, _, _, _⟩) ?_); go_loud (go_outline; fail "call 16"))
      | ((with_reducible refine at_op (o := ⟨some 27, _, _, _, _, _⟩) ?_); go_loud (go_outline; fail "call 14"))
      | ((with_reducible refine at_op (o := ⟨some 28, _, _, _, _, _⟩) ?_); go_loud (go_outline; fail "call 17"))
      | ((with_reducible refine at_op (o := ⟨some 31, _, _, _, _, _⟩) ?_); go_loud (go_outline; fail "call 14"))
      | ((with_reducible refine at_op (o := ⟨some 32, _, _, _, _, _⟩) ?_); go_loud (go_outline; fail "call 16")))
    go_ret
    exact ⟨_, rfl, rfl, hst⟩
  | true =>
    obtain ⟨h1, h2⟩ := few_spec hf
    by_cases hk : 500 < key.length
    · go_wp2_with (first
      | ((with_reducible refine at_op (o := ⟨some 5, _, _, _, _, _⟩) ?_); go_loud (refine wl_call pl10 rfl rfl rfl (awake_any _ (hK.keep hst)) ?_; rintro v5 w5 ⟨rfl, hst5⟩; replace hst := hst.call hst5; clear hst5))
      | ((with_reducible refine at_op (o := ⟨some 8, _, _, _, _, _⟩) ?_); go_loud (refine wl_call pl11 rfl rfl rfl (few_any _ ls _ (ht.keep hst)) ?_; rintro v8 w8 ⟨rfl, rfl⟩; rw [hf]))
      | ((with_reducible refine at_op (o := ⟨some 13, _, _, _, _, _⟩) ?_); go_loud (refine wl_cmp (p := key.length) (q := 500) (r := true) (by simp [cmpI] <;> omega) rfl rfl rfl rfl rfl (by (conv => lhs; simp only [put_lit, put_none, setL]) <;> rfl) ?_))
      | ((with_reducible refine at_op (o := ⟨some 18, _, _, _, _, _⟩) ?_); go_loud (go_outline; fail "call 15"))
      | ((with_reducible refine at_op (o := ⟨some 21, _, _, _, _, _⟩) ?_); go_loud (go_outline; fail "call 14"))
      | ((with_reducible refine at_op (o := ⟨some 22, _, _, _, _, _⟩) ?_); go_loud (go_outline; fail "call 16"))
      | ((with_reducible refine at_op (o := ⟨some 27, _, _, _, _, _⟩) ?_); go_loud (go_outline; fail "call 14"))
      | ((with_reducible refine at_op (o := ⟨some 28, _, _, _, _, _⟩) ?_); go_loud (go_outline; fail "call 17"))
      | ((with_reducible refine at_op (o := ⟨some 31, _, _, _, _, _⟩) ?_); go_loud (go_outline; fail "call 14"))
      | ((with_reducible refine at_op (o := ⟨some 32, _, _, _, _, _⟩) ?_); go_loud (go_outline; fail "call 16")))
      go_ret
      exact ⟨_, rfl, rfl, hst⟩
    · go_wp2_with (first
      | ((with_reducible refine at_op (o := ⟨some 5, _, _, _, _, _⟩) ?_); go_loud (refine wl_call pl10 rfl rfl rfl (awake_any _ (hK.keep hst)) ?_; rintro v5 w5 ⟨rfl, hst5⟩; replace hst := hst.call hst5; clear hst5))
      | ((with_reducible refine at_op (o := ⟨some 8, _, _, _, _, _⟩) ?_); go_loud (refine wl_call pl11 rfl rfl rfl (few_any _ ls _ (ht.keep hst)) ?_; rintro v8 w8 ⟨rfl, rfl⟩; rw [hf]))
      | ((with_reducible refine at_op (o := ⟨some 13, _, _, _, _, _⟩) ?_); go_loud (refine wl_cmp (p := key.length) (q := 500) (r := false) (by simp [cmpI] <;> omega) rfl rfl rfl rfl rfl (by (conv => lhs; simp only [put_lit, put_none, setL]) <;> rfl) ?_))
      | ((with_reducible refine at_op (o := ⟨some 18, _, _, _, _, _⟩) ?_); go_loud (refine wl_call pl15 rfl rfl rfl (mac_any _ _ key ls _ (h.keep hst) (ht.keep hst) (by omega) (by omega) (by omega) HLT.out (hK.keep hst)) ?_; rintro v18 w18 ⟨rfl, hst18⟩; replace hst := hst.call hst18; clear hst18))
      | ((with_reducible refine at_op (o := ⟨some 21, _, _, _, _, _⟩) ?_); go_loud (refine wl_call pl14 rfl rfl rfl (joined_any _ ls _ (ht.keep hst.none) (by omega) (by omega)) ?_; rintro v21 w21 ⟨E21, hown21, hst21⟩; replace hst := hst.call hst21; clear hst21))
      | ((with_reducible refine at_op (o := ⟨some 22, _, _, _, _, _⟩) ?_); go_loud (refine wl_call pl16 rfl rfl rfl (refmac_any _ _ key ls.flatten _ (h.keep hst.none) (Bs.of_own hown21 HLT.out hst) (by omega) (by omega) (hK0.keep hst.none)) ?_; rintro v22 w22 ⟨rfl, hst22⟩; replace hst := hst.call hst22; clear hst22))
      | ((with_reducible refine at_op (o := ⟨some 23, _, _, _, _, _⟩) ?_); go_loud (refine wl_eqB rfl rfl eqb26 rfl rfl (hmac_len _ _) (hmac_len _ _) (hmac_lt _ _) (hmac_lt _ _) (decide_eq_true rfl) (by (conv => lhs; simp only [put_lit, put_none, setL]) <;> rfl) ?_))
      | ((with_reducible refine at_op (o := ⟨some 27, _, _, _, _, _⟩) ?_); go_loud (refine wl_call pl14 rfl rfl rfl (joined_any _ ls _ (ht.keep hst.none) (by omega) (by omega)) ?_; rintro v27 w27 ⟨E27, hown27, hst27⟩; replace hst := hst.call hst27; clear hst27))
      | ((with_reducible refine at_op (o := ⟨some 28, _, _, _, _, _⟩) ?_); go_loud (refine wl_call pl17 rfl rfl rfl (extract_any _ _ key ls.flatten _ (h.keep hst.none) (Bs.of_own hown27 HLT.out hst) (by omega) (by omega) (hK.keep hst.none)) ?_; rintro v28 w28 ⟨rfl, hst28⟩; replace hst := hst.call hst28; clear hst28))
      | ((with_reducible refine at_op (o := ⟨some 31, _, _, _, _, _⟩) ?_); go_loud (refine wl_call pl14 rfl rfl rfl (joined_any _ ls _ (ht.keep hst.none) (by omega) (by omega)) ?_; rintro v31 w31 ⟨E31, hown31, hst31⟩; replace hst := hst.call hst31; clear hst31))
      | ((with_reducible refine at_op (o := ⟨some 32, _, _, _, _, _⟩) ?_); go_loud (refine wl_call pl16 rfl rfl rfl (refmac_any _ _ key ls.flatten _ (h.keep hst.none) (Bs.of_own hown31 HLT.out hst) (by omega) (by omega) (hK0.keep hst.none)) ?_; rintro v32 w32 ⟨rfl, hst32⟩; replace hst := hst.call hst32; clear hst32))
      | ((with_reducible refine at_op (o := ⟨some 33, _, _, _, _, _⟩) ?_); go_loud (refine wl_eqB rfl rfl eqb26 rfl rfl (hmac_len _ _) (hmac_len _ _) (hmac_lt _ _) (hmac_lt _ _) (decide_eq_true rfl) (by (conv => lhs; simp only [put_lit, put_none, setL]) <;> rfl) ?_)))
      go_ret
      exact ⟨_, rfl, rfl, hst.none⟩
end Go.Proofs.YtpidapgglkoogaaDoor
