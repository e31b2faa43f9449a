/- The walks of law01's helpers. -/
import Derived.Test.YtpidapgglkoogaaDoorHash9
import Derived.Test.YtpidapgglkoogaaDoorRef3
namespace Go.Proofs.YtpidapgglkoogaaDoor
open Go.RowKit Go.Jal

set_option maxRecDepth 100000 in
theorem awake_any (w : World) (hK : Has w 1 64 (wF Sha.K)) : Ret Tryd.prog 10 #[] w fun v' w' => v' = .bool true ∧ St w [] [] w' := by
  have h0 := Sha.sha_abc0
  have h31 := Sha.sha_abc31
  obtain ⟨s, hs⟩ : ∃ s, s = Sha.sha [97, 98, 99] := ⟨_, rfl⟩
  rw [← hs] at h0 h31
  have HS := Lib.hid hs
  clear hs
  have H0 : Hid (bF s 0 = nB 186) := by show _ = _; unfold bF; rw [h0]
  have H31 : Hid (bF s 31 = nB 173) := by show _ = _; unfold bF; rw [h31]
  clear h0 h31
  go_enter Tryd.func10, Tryd.ntmps10
  have hst := St.refl w
  go_wp2_with (first
      | ((with_reducible refine at_op (o := ⟨some 2, _, _, _, _, _⟩) ?_); go_loud (refine wl_buildSliceN (l := [nB 97, nB 98, nB 99]) rfl rfl elt29 rfl rfl rfl (by decide) hst ?_; intro b2 w2 hb2 hst1; clear hst; have hst := hst1; clear hst1))
      | ((with_reducible refine at_op (o := ⟨some 3, _, _, _, _, _⟩) ?_); go_loud (refine wl_same rfl rfl Tryd.underlying29 Tryd.underlying5 rfl hst Pick.head ?_; intro w3 hst1; clear hst; have hst := hst1; clear hst1))
      | ((with_reducible refine at_op (o := ⟨some 4, _, _, _, _, _⟩) ?_); go_loud (refine wl_buildSlice1 rfl rfl elt22 (by decide) (by (conv => lhs; whnf) <;> rfl) (by first | exact row_one _ | rfl) hst ?_; intro b4 w4 hb4 hst1; clear hst; have hst := hst1; clear hst1))
      | ((with_reducible refine at_op (o := ⟨some 5, _, _, _, _, _⟩) ?_); go_loud (refine wl_call pl12 rfl rfl rfl (sum_any _ [[97, 98, 99]] _ (Bss.one (hst.hasb Pick.head) (Bs.of_blk (l := [97, 98, 99]) (n := 3) ⟨_, _, hst.own _ (List.mem_cons_of_mem _ (List.mem_cons_self ..))⟩ (by decide) (fun j hj => (by obtain rfl | rfl | rfl : j = 0 ∨ j = 1 ∨ j = 2 := (by simp at hj; omega) <;> rfl)) (by decide) (by decide) (by simp [maxLen]))) (by simp) (by simp) (by decide) (hK.keep hst)) ?_; rintro v5 w5 ⟨rfl, hst5⟩; replace hst := hst.call hst5; clear hst5; rw [show Sha.sha [[97, 98, 99]].flatten = s from HS.out.symm]))
      | ((with_reducible refine at_op (o := ⟨some 1, _, _, _, _, _⟩) ?_); go_loud (refine wl_alloc rfl rfl hst zer26 ?_; intro b1 w1 hb1 hst1; clear hst; have hst := hst1; clear hst1))
      | ((with_reducible refine at_op (o := ⟨none, .store 26 (.tmp 1) (.tmp 5), _, _, _, _⟩) ?_); go_loud ((first | (refine wl_storeAll rfl rfl rfl rfl hst (by repeat (first | exact Pick.head | apply Pick.tail)) agg26 (by intro j hj; first | rfl | exact lstF_one rfl j hj | simp [oneC, hj]) (by (conv => lhs; simp only [put_lit, put_none, setL]) <;> rfl) ?_) | (refine wl_storeN rfl rfl rfl rfl hst (by repeat (first | exact Pick.head | apply Pick.tail)) (by omega) agg26 (by intro j hj; first | rfl | exact lstF_one rfl j hj | simp [oneC, hj]) (by (conv => lhs; simp only [put_lit, put_none, setL]) <;> rfl) ?_)); intro w1 hst1; clear hst; have hst := hst1; clear hst1))
      | ((with_reducible refine at_op (o := ⟨some 7, _, _, _, _, _⟩) ?_); go_loud (refine wl_load1v rfl rfl rfl (by first | exact St.hasb hst (by repeat (first | exact Pick.head | apply Pick.tail)) | exact St.hasOld hst (by assumption) (by simp)) H0.out (by omega) sc5 (by (conv => lhs; simp only [put_lit, put_none, setL]) <;> rfl) ?_))
      | ((with_reducible refine at_op (o := ⟨some 11, _, _, _, _, _⟩) ?_); go_loud (refine wl_load1v rfl rfl rfl (by first | exact St.hasb hst (by repeat (first | exact Pick.head | apply Pick.tail)) | exact St.hasOld hst (by assumption) (by simp)) H31.out (by omega) sc5 (by (conv => lhs; simp only [put_lit, put_none, setL]) <;> rfl) ?_)))
  go_ret
  exact ⟨_, rfl, rfl, hst.none⟩

/-- how many bytes, each slice's capped, the first k of them -/
def sumL (ls : List (List Nat)) : Nat → Nat
  | 0 => 0
  | k + 1 => sumL ls k + min (ls.getD k []).length 3000
def few (ls : List (List Nat)) : Bool := decide (ls.length ≤ 8) && decide (sumL ls (min ls.length 10) ≤ 2500)
theorem sumL_le (ls : List (List Nat)) : ∀ k, sumL ls k ≤ 3000 * k
  | 0 => by simp [sumL]
  | k + 1 => by have := sumL_le ls k; simp only [sumL]; omega
theorem sumL_ge (ls : List (List Nat)) : ∀ k, k ≤ ls.length → sumL ls k ≤ 2500 → (ls.take k).flatten.length = sumL ls k
  | 0, _, _ => by simp [sumL]
  | k + 1, hk, h => by
    simp only [sumL] at h ⊢
    rw [flat_snoc ls k (by omega), List.length_append, sumL_ge ls k (by omega) (by omega)]
    omega
theorem few_spec {ls : List (List Nat)} (h : few ls = true) : ls.length ≤ 8 ∧ ls.flatten.length ≤ 2500 := by
  simp only [few, Bool.and_eq_true, decide_eq_true_eq] at h
  have := sumL_ge ls ls.length (Nat.le_refl _) (by rw [show min ls.length 10 = ls.length by omega] at h; exact h.2)
  rw [List.take_length] at this
  rw [show min ls.length 10 = ls.length by omega] at h
  omega
set_option maxRecDepth 100000 in
theorem few_any (v : Value) (ls : List (List Nat)) (w : World) (h : Bss w v ls) : Ret Tryd.prog 11 #[v] w fun v' w' => v' = .bool (few ls) ∧ w = w' := by
  obtain ⟨ad, c, rfl, hcap, hcm, hnil, hc⟩ := h
  unfold maxLen at hcm
  go_enter Tryd.func11, Tryd.ntmps11
  go_wp2_with fail
  go_loop [3, 4] (fun v3 i => ∃ k : Nat, k ≤ min ls.length 10 ∧ i = .int .i64 (k : Int) ∧ v3 = .int .i64 (sumL ls k : Nat)) (fun _ i => 10 - (intOf i).toNat)
  case atStart => exact ⟨0, by omega, rfl, rfl⟩
  case round =>
    obtain ⟨k, hk, rfl, rfl⟩ := hrel
    have hle := sumL_le ls k
    by_cases hkl : k < min ls.length 10
    · obtain ⟨b, off, n, f, rfl, hH, hn', hf⟩ := hc (by intro e; subst e; simp at hkl)
      have hB := hf k (by omega)
      have HS : Hid (sumL ls (k + 1) = sumL ls k + min (ls.getD k []).length 3000) := rfl
      obtain ⟨x, hx⟩ : ∃ x, x = ls.getD k [] := ⟨_, rfl⟩
      rw [← hx] at hB HS
      obtain ⟨u, hu⟩ : ∃ u, u = f (off + k) := ⟨_, rfl⟩
      rw [← hu] at hB
      have HU : Hid (f (off + k) = u) := hu.symm
      have HHH := Lib.hid hH
      obtain ⟨xa, xc, rfl, hxc, hxm, _, _, _⟩ := id hB
      unfold maxLen at hxm
      obtain ⟨y, hy⟩ : ∃ y, y = sumL ls k := ⟨_, rfl⟩
      rw [← hy] at hle HS ⊢
      obtain ⟨z, hz⟩ : ∃ z, z = min x.length 3000 := ⟨_, rfl⟩
      rw [← hz] at HS
      have ez : min (x.length : Int) 3000 = (z : Int) := by omega
      have hz2 : z ≤ 3000 := by omega
      have HZ := Lib.hid hz
      clear hf hc hx hu hH hy hz
      go_wp2_with (first
      | ((with_reducible refine at_op (o := ⟨some 19, _, _, _, _, _⟩) ?_); go_loud (refine wl_load1v rfl rfl rfl HHH.out HU.out (by omega) sc29 (by (conv => lhs; simp only [put_lit, put_none, setL]) <;> rfl) ?_)))
      go_round
      case rel => exact ⟨k + 1, by omega, by go_num, by rw [HS.out]; simp⟩
      case measure => simp [intOf]; omega
    · have hk2 : k = min ls.length 10 := by omega
      have hfew : few ls = (decide (ls.length ≤ 8) && decide (sumL ls k ≤ 2500)) := by rw [few, ← hk2]
      obtain ⟨y, hy⟩ : ∃ y, y = sumL ls k := ⟨_, rfl⟩
      rw [← hy] at hfew hle ⊢
      have HFew := Lib.hid hfew
      clear hy hfew hc hk2
      by_cases h1 : ls.length ≤ 8
      · have h3 : (ls.length : Int) ≤ 8 := by omega
        by_cases h2 : y ≤ 2500
        · have h4 : (y : Int) ≤ 2500 := by omega
          go_wp2_with fail
          go_ret
          exact ⟨_, rfl, by rw [HFew.out]; simp [h1, h2], rfl⟩
        · have h4 : ¬ (y : Int) ≤ 2500 := by omega
          go_wp2_with fail
          go_ret
          exact ⟨_, rfl, by rw [HFew.out]; simp [h1, h2], rfl⟩
      · have h3 : ¬ (ls.length : Int) ≤ 8 := by omega
        by_cases h5 : k < ls.length
        · have h6 : ¬ (k : Int) < 10 := by omega
          go_wp2_with fail
          go_ret
          exact ⟨_, rfl, by rw [HFew.out]; simp [h1], rfl⟩
        · have h6 : ¬ (k : Int) < ls.length := by omega
          go_wp2_with fail
          go_ret
          exact ⟨_, rfl, by rw [HFew.out]; simp [h1], rfl⟩
end Go.Proofs.YtpidapgglkoogaaDoor
