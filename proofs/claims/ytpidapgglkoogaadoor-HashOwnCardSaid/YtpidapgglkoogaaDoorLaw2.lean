/- The walks of law01's laws. -/
import Derived.Test.YtpidapgglkoogaaDoorLaw1
namespace Go.Proofs.YtpidapgglkoogaaDoor
open Go.RowKit Go.Jal

theorem eqb26 : EqB Tryd.prog 26 32 5 := ⟨Tryd.underlying26, Tryd.underlying5, sc5.size, Tryd.eqGuardType26⟩
theorem Bss.lt {w : World} {v : Value} {ls : List (List Nat)} (h : Bss w v ls) : ∀ x ∈ ls.flatten, x < 256 := by
  obtain ⟨ao, cap, _, _, _, _, h⟩ := h
  intro x hx
  obtain ⟨l, hl, hx⟩ := List.mem_flatten.1 hx
  obtain ⟨b, off, n, f, _, _, _, h2⟩ := h (by intro e; subst e; simp at hl)
  obtain ⟨i, hi, rfl⟩ := List.mem_iff_getElem.1 hl
  have := (h2 i hi).lt
  rw [List.getD_eq_getElem?_getD, List.getElem?_eq_getElem hi] at this
  exact this x hx
set_option maxRecDepth 100000 in
theorem hashSums_any (v : Value) (ls : List (List Nat)) (w : World) (h : Bss w v ls) (hK : Has w 1 64 (wF Sha.K)) (hK0 : Has w 0 64 (wF Sha.K)) :
    Ret Tryd.prog 3 #[v] w fun v' w' => v' = .bool true ∧ St w [] [] w' := by
  have hlt := Bss.lt h
  go_enter Tryd.func3, Tryd.ntmps3
  have hst := St.refl w
  have HLT := Lib.hid hlt
  clear hlt
  cases hf : few ls with
  | false =>
    go_wp2_with (first
      | ((with_reducible refine at_op (o := ⟨some 3, _, _, _, _, _⟩) ?_); go_loud (refine wl_call pl10 rfl rfl rfl (awake_any _ hK) ?_; rintro v3 w3 ⟨rfl, hst3⟩; replace hst := hst.call hst3; clear hst3))
      | ((with_reducible refine at_op (o := ⟨some 6, _, _, _, _, _⟩) ?_); go_loud (refine wl_call pl11 rfl rfl rfl (few_any _ ls _ (h.keep hst)) ?_; rintro v6 w6 ⟨rfl, rfl⟩; rw [hf]))
      | ((with_reducible refine at_op (o := ⟨some 10, _, _, _, _, _⟩) ?_); go_loud (go_outline; fail "call 12"))
      | ((with_reducible refine at_op (o := ⟨some 12, _, _, _, _, _⟩) ?_); go_loud (go_outline; fail "call 14"))
      | ((with_reducible refine at_op (o := ⟨some 13, _, _, _, _, _⟩) ?_); go_loud (go_outline; fail "call 13")))
    go_ret
    exact ⟨_, rfl, rfl, hst⟩
  | true =>
    obtain ⟨h1, h2⟩ := few_spec hf
    go_wp2_with (first
      | ((with_reducible refine at_op (o := ⟨some 3, _, _, _, _, _⟩) ?_); go_loud (refine wl_call pl10 rfl rfl rfl (awake_any _ hK) ?_; rintro v3 w3 ⟨rfl, hst3⟩; replace hst := hst.call hst3; clear hst3))
      | ((with_reducible refine at_op (o := ⟨some 6, _, _, _, _, _⟩) ?_); go_loud (refine wl_call pl11 rfl rfl rfl (few_any _ ls _ (h.keep hst)) ?_; rintro v6 w6 ⟨rfl, rfl⟩; rw [hf]))
      | ((with_reducible refine at_op (o := ⟨some 10, _, _, _, _, _⟩) ?_); go_loud (refine wl_call pl12 rfl rfl rfl (sum_any _ ls _ (h.keep hst) (by omega) (by omega) HLT.out (hK.keep hst)) ?_; rintro v10 w10 ⟨rfl, hst10⟩; replace hst := hst.call hst10; clear hst10))
      | ((with_reducible refine at_op (o := ⟨some 12, _, _, _, _, _⟩) ?_); go_loud (refine wl_call pl14 rfl rfl rfl (joined_any _ ls _ (h.keep hst) (by omega) (by omega)) ?_; rintro v12 w12 ⟨E12, hown12, hst12⟩; replace hst := hst.call hst12; clear hst12))
      | ((with_reducible refine at_op (o := ⟨some 13, _, _, _, _, _⟩) ?_); go_loud (refine wl_call pl13 rfl rfl rfl (refsum_any _ ls.flatten _ (Bs.of_own hown12 HLT.out hst) (by omega) (hK0.keep hst.none)) ?_; rintro v13 w13 ⟨rfl, hst13⟩; replace hst := hst.call hst13; clear hst13))
      | ((with_reducible refine at_op (o := ⟨some 14, _, _, _, _, _⟩) ?_); go_loud (refine wl_eqB rfl rfl eqb26 rfl rfl (sha_len _) (sha_len _) (sha_lt _) (sha_lt _) (decide_eq_true rfl) (by (conv => lhs; simp only [put_lit, put_none, setL]) <;> rfl) ?_)))
    go_ret
    exact ⟨_, rfl, rfl, hst.none⟩
end Go.Proofs.YtpidapgglkoogaaDoor
