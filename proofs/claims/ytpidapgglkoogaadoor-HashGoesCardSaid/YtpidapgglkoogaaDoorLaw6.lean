/- The walk of HashGoes. -/
import Derived.Test.YtpidapgglkoogaaDoorLaw2
import Derived.Test.YtpidapgglkoogaaDoorLibK
namespace Go.Proofs.YtpidapgglkoogaaDoor
open Go.RowKit Go.Jal

set_option maxRecDepth 100000 in
set_option maxHeartbeats 2000000 in
theorem hashGoes_any (key : List Nat) (v : Value) (info : List Nat) (g : Nat → Value) (a b : Nat) (w : World) (hkn : key.length = 32) (hkl : ∀ x ∈ key, x < 256) (h : Bs w v info) (ha : a < 65536) (hb : b < 65536) (hg0 : g 0 = .int .u16 (a : Int)) (hg1 : g 1 = .int .u16 (b : Int)) (hK : Has w 1 64 (wF Sha.K)) :
    Ret Tryd.prog 7 #[.agg (row 32 (bF key)), v, .agg (row 2 g)] w fun v' w' => v' = .bool true ∧ St w [] [] w' := by
  go_enter Tryd.func7, Tryd.ntmps7
  have hst := St.refl w
  have H0 := Lib.hid hg0
  have H1 := Lib.hid hg1
  clear hg0 hg1
  obtain ⟨ad, c, rfl, _⟩ := id h
  go_wp2_with (first
      | ((with_reducible refine at_op (o := ⟨some 3, _, _, _, _, _⟩) ?_); go_loud (refine wl_box rfl rfl rfl (by first | rfl | exact row_one _) hst ?_; intro b3 w3 hb3 hst1; clear hst; have hst := hst1; clear hst1))
      | ((with_reducible refine at_op (o := ⟨some 5, _, _, _, _, _⟩) ?_); go_loud (refine wl_box rfl rfl rfl (by first | rfl | exact row_one _) hst ?_; intro b5 w5 hb5 hst1; clear hst; have hst := hst1; clear hst1)))
  refine rg_start (St w [] [(b5, blk 2 g 38), (b3, blk 32 (bF key) 26)]) mixed (hst.drew) ?_
  refine rg_take [0, 1, 2, 3, 4, 5] 0 _ rfl (by kernel_rfl) (by kernel_rfl) rfl (cls_st _ _ _) (fun _ _ _ _ _ h => h) ?_
  refine tk_wp rfl rfl rfl (by rfl) (fun w hst K hK => (by go_step; exact hK _ (Below.refl _ _))) (by rfl) (by rfl) ?_
  refine tk_load1 rfl rfl (by rfl) rfl (fun w hst => (by first | exact St.hasb hst (by repeat (first | exact Pick.head | apply Pick.tail)) | exact St.hasOld hst (by assumption) (by simp))) H0.out (by omega) sc33 (by (conv => lhs; simp only [put_lit, put_none, setL]) <;> rfl) ?_
  refine tk_wp rfl rfl rfl (by rfl) (fun w hst K hK => (by go_step; exact hK _ (Below.refl _ _))) (by rfl) (by rfl) ?_
  refine tk_load1 rfl rfl (by rfl) rfl (fun w hst => (by first | exact St.hasb hst (by repeat (first | exact Pick.head | apply Pick.tail)) | exact St.hasOld hst (by assumption) (by simp))) H1.out (by omega) sc33 (by (conv => lhs; simp only [put_lit, put_none, setL]) <;> rfl) ?_
  refine tk_wp rfl rfl rfl (by rfl) (fun w hst K hK => (by go_step; exact hK _ (Below.refl _ _))) (by rfl) (by rfl) ?_
  refine tk_wp rfl rfl rfl (by rfl) (fun w hst K hK => (by go_step; exact hK _ (Below.refl _ _))) (by rfl) (by rfl) ?_
  refine tk_nil ?_
  refine rg_done (by kernel_rfl) (fun w1 hst1 => ?_) _
  clear hst; have hst := hst1; clear hst1
  by_cases hi : 100 < info.length
  · go_wp2_with (first
      | ((with_reducible refine at_op (o := ⟨some 19, _, _, _, _, _⟩) ?_); go_loud (refine wl_call pl10 rfl rfl rfl (awake_any _ (hK.keep hst.none)) ?_; rintro v19 w19 ⟨rfl, hst19⟩; replace hst := hst.call hst19; clear hst19))
      | ((with_reducible refine at_op (o := ⟨some 26, _, _, _, _, _⟩) ?_); go_loud (refine wl_call pl10 rfl rfl rfl (awake_any _ (hK.keep hst.none)) ?_; rintro v26 w26 ⟨rfl, hst26⟩; replace hst := hst.call hst26; clear hst26)))
    go_ret
    exact ⟨_, rfl, rfl, hst.none⟩
  obtain ⟨x, hx⟩ : ∃ x, x = a % 500 := ⟨_, rfl⟩
  obtain ⟨y, hy⟩ : ∃ y, y = b % 500 := ⟨_, rfl⟩
  have ex : (a : Int) % 500 = (x : Int) := by omega
  have ey : (b : Int) % 500 = (y : Int) := by omega
  obtain ⟨n, hn⟩ : ∃ n, n = min x y := ⟨_, rfl⟩
  obtain ⟨m, hm⟩ : ∃ m, m = max x y := ⟨_, rfl⟩
  have en : min (x : Int) (y : Int) = (n : Int) := by omega
  have em : max (x : Int) (y : Int) = (m : Int) := by omega
  have hx5 : x < 500 := by omega
  have hy5 : y < 500 := by omega
  have hn8 : n ≤ 8160 := by omega
  have hm8 : m ≤ 8160 := by omega
  have hnm : n ≤ m := by omega
  have EXX := Lib.hid ex
  have EYY := Lib.hid ey
  have EN := Lib.hid en
  have EM := Lib.hid em
  have HIL : Hid (info.length ≤ 10000000000) := by show _ ≤ _; omega
  have HKN := Lib.hid hkn
  have HKL := Lib.hid hkl
  clear hx hy hn hm ex ey en em hkn hkl
  go_wp2_with (first
      | ((with_reducible refine at_op (o := ⟨some 19, _, _, _, _, _⟩) ?_); refine wl_call pl10 rfl rfl rfl (awake_any _ (hK.keep hst.none)) ?_; rintro v19 w19 ⟨rfl, hst19⟩; replace hst := hst.call hst19; clear hst19)
      | ((with_reducible refine at_op (o := ⟨some 29, _, _, _, _, _⟩) ?_); rw [EXX.out])
      | ((with_reducible refine at_op (o := ⟨some 32, _, _, _, _, _⟩) ?_); rw [EYY.out])
      | ((with_reducible refine at_op (o := ⟨some 34, _, _, _, _, _⟩) ?_); (first | (refine wl_loadAll rfl rfl rfl (by first | exact St.hasb hst (by repeat (first | exact Pick.head | apply Pick.tail)) | exact St.hasOld hst (by assumption) (by simp)) agg26 (by (conv => lhs; simp only [put_lit, put_none, setL]) <;> rfl) ?_) | (refine wl_loadN rfl rfl rfl (by first | exact St.hasb hst (by repeat (first | exact Pick.head | apply Pick.tail)) | exact St.hasOld hst (by assumption) (by simp)) agg26 (by omega) (by (conv => lhs; simp only [put_lit, put_none, setL]) <;> rfl) ?_)))
      | ((with_reducible refine at_op (o := ⟨some 39, _, _, _, _, _⟩) ?_); rw [EN.out]; refine wl_call pl18 rfl rfl rfl (expand_own key _ info n _ HKN.out HKL.out (h.keep hst.none) HIL.out (by omega) (hK.keep hst.none)) ?_; rintro v39 w39 ⟨ad39, E39, rfl, hB39, hP39, hst39⟩; replace hst := hst.call hst39; clear hst39)
      | ((with_reducible refine at_op (o := ⟨some 43, _, _, _, _, _⟩) ?_); have hb3' : Has w39 b3 32 (bF key) := ⟨_, _, hst.own (b3, blk 32 (bF key) 26) (by simp)⟩; have hstA := hst; clear hst; have hst := St.refl w39; replace h := h.keep hstA.none; replace hK := hK.keep hstA.none; (first | (refine wl_loadAll rfl rfl rfl (by first | exact St.hasb hst (by repeat (first | exact Pick.head | apply Pick.tail)) | exact St.hasOld hst (by assumption) (by simp)) agg26 (by (conv => lhs; simp only [put_lit, put_none, setL]) <;> rfl) ?_) | (refine wl_loadN rfl rfl rfl (by first | exact St.hasb hst (by repeat (first | exact Pick.head | apply Pick.tail)) | exact St.hasOld hst (by assumption) (by simp)) agg26 (by omega) (by (conv => lhs; simp only [put_lit, put_none, setL]) <;> rfl) ?_)))
      | ((with_reducible refine at_op (o := ⟨some 48, _, _, _, _, _⟩) ?_); rw [EM.out]; refine wl_call pl18 rfl rfl rfl (expand_own key _ info m _ HKN.out HKL.out (h.keep hst.none) HIL.out (by omega) (hK.keep hst.none)) ?_; rintro v48 w48 ⟨ad48, E48, rfl, hB48, hP48, hst48⟩; replace hst := hst.call hst48; clear hst48))
  have hBx := hB39.keep hst.none
  have HBx : Hid (∀ w', St w48 [] [] w' → Bs w' (.slice ad39 n n) (Sha.expand key info n)) := by show ∀ _, _; exact fun w' h' => hBx.keep h'
  obtain ⟨z, hz⟩ := cut_any (k1 := .i64) (k2 := .i64) Tryd.underlying29 sc5.size hB48 (lo := none) (hi := some (.int .i64 (n : Int))) (i := 0) (j := n) (.inl ⟨rfl, rfl⟩) (.inr rfl) (by omega) (by rw [expand_len]; exact hnm)
  have HZ := Lib.hid hz
  have HBz : Hid (∀ w', St w48 [] [] w' → Bs w' z (Sha.expand key info n)) := by
    show ∀ _, _
    intro w' h'
    have := hz.bs w' _ (hB48.keep h') (by rw [expand_len]; omega)
    rwa [Nat.sub_zero, List.drop_zero, expand_take _ _ hnm] at this
  have hstB := (hstA.call hst).none
  clear hst hstA
  have hst := St.refl w48
  clear hz hBx
  go_wp2_with fail
  refine rg_start (St w48 [] []) mixed (hst.drew) ?_
  refine rg_take [0, 1, 2, 3, 4, 5, 6, 7, 8, 9, 10, 11, 12, 13, 14, 15, 16, 17, 18, 19, 20, 21, 22, 23, 24, 25] 0 _ rfl (by kernel_rfl) (by kernel_rfl) rfl (cls_st _ _ _) (fun _ _ _ _ _ h => h) ?_
  refine tk_wp rfl rfl rfl (by rfl) (fun w hst K hK => (by go_step; exact hK _ (Below.refl _ _))) (by rfl) (by rfl) ?_
  refine tk_cmp (p := 0) (q := 0) (r := true) (by simp [cmpI] <;> omega) rfl rfl rfl rfl rfl rfl (by (conv => lhs; simp only [put_lit, put_none, setL]) <;> rfl) ?_
  refine tk_wp rfl rfl rfl (by rfl) (fun w hst K hK => (by go_step; exact hK _ (Below.refl _ _))) (by rfl) (by rfl) ?_
  first | (refine tk_skip rfl (by rfl) (by (conv => lhs; simp only [put_lit, put_none, setL]) <;> rfl) ?_) | (refine tk_wp rfl rfl rfl (by rfl) (fun w hst K hK => (by go_step; exact hK _ (Below.refl _ _))) (by rfl) (by rfl) ?_)
  first | (refine tk_skip rfl (by rfl) (by (conv => lhs; simp only [put_lit, put_none, setL]) <;> rfl) ?_) | (refine tk_cmp (p := 0) (q := 0) (r := true) (by simp [cmpI] <;> omega) rfl rfl rfl rfl rfl rfl (by (conv => lhs; simp only [put_lit, put_none, setL]) <;> rfl) ?_)
  refine tk_wp rfl rfl rfl (by rfl) (fun w hst K hK => (by go_step; exact hK _ (Below.refl _ _))) (by rfl) (by rfl) ?_
  refine tk_wp rfl rfl rfl (by rfl) (fun w hst K hK => (by go_step; exact hK _ (Below.refl _ _))) (by rfl) (by rfl) ?_
  first | (refine tk_skip rfl (by rfl) (by (conv => lhs; simp only [put_lit, put_none, setL]) <;> rfl) ?_) | (refine tk_wp rfl rfl rfl (by rfl) (fun w hst K hK => (by go_step; exact hK _ (Below.refl _ _))) (by rfl) (by rfl) ?_)
  first | (refine tk_skip rfl (by rfl) (by (conv => lhs; simp only [put_lit, put_none, setL]) <;> rfl) ?_) | (refine tk_wp rfl rfl rfl (by rfl) (fun w hst K hK => (by go_step; exact hK _ (Below.refl _ _))) (by rfl) (by rfl) ?_)
  first | (refine tk_skip rfl (by rfl) (by (conv => lhs; simp only [put_lit, put_none, setL]) <;> rfl) ?_) | (refine tk_wp rfl rfl rfl (by rfl) (fun w hst K hK => (by go_step; exact hK _ (Below.refl _ _))) (by rfl) (by rfl) ?_)
  first | (refine tk_skip rfl (by rfl) (by (conv => lhs; simp only [put_lit, put_none, setL]) <;> rfl) ?_) | (refine tk_wp rfl rfl rfl (by rfl) (fun w hst K hK => (by go_step; exact hK _ (Below.refl _ _))) (by rfl) (by rfl) ?_)
  first | (refine tk_skip rfl (by rfl) (by (conv => lhs; simp only [put_lit, put_none, setL]) <;> rfl) ?_) | (refine tk_wp rfl rfl rfl (by rfl) (fun w hst K hK => (by go_step; exact hK _ (Below.refl _ _))) (by rfl) (by rfl) ?_; rw [EM.out])
  first | (refine tk_skip rfl (by rfl) (by (conv => lhs; simp only [put_lit, put_none, setL]) <;> rfl) ?_) | (refine tk_cmp (p := (m : Int)) (q := (m : Int)) (r := true) (by simp [cmpI] <;> omega) rfl rfl rfl rfl rfl rfl (by (conv => lhs; simp only [put_lit, put_none, setL]) <;> rfl) ?_)
  refine tk_wp rfl rfl rfl (by rfl) (fun w hst K hK => (by go_step; exact hK _ (Below.refl _ _))) (by rfl) (by rfl) ?_
  refine tk_wp rfl rfl rfl (by rfl) (fun w hst K hK => (by go_step; exact hK _ (Below.refl _ _))) (by rfl) (by rfl) ?_
  first | (refine tk_skip rfl (by rfl) (by (conv => lhs; simp only [put_lit, put_none, setL]) <;> rfl) ?_) | (refine tk_wp rfl rfl rfl (by rfl) (fun w hst K hK => (by go_step; exact hK _ (Below.refl _ _))) (by rfl) (by rfl) ?_)
  first | (refine tk_skip rfl (by rfl) (by (conv => lhs; simp only [put_lit, put_none, setL]) <;> rfl) ?_) | (refine tk_wp rfl rfl rfl (by rfl) (fun w hst K hK => (by go_step; exact hK _ (Below.refl _ _))) (by rfl) (by rfl) ?_)
  first | (refine tk_skip rfl (by rfl) (by (conv => lhs; simp only [put_lit, put_none, setL]) <;> rfl) ?_) | (refine tk_wp rfl rfl rfl (by rfl) (fun w hst K hK => (by go_step; exact hK _ (Below.refl _ _))) (by rfl) (by rfl) ?_)
  first | (refine tk_skip rfl (by rfl) (by (conv => lhs; simp only [put_lit, put_none, setL]) <;> rfl) ?_) | (refine tk_wp rfl rfl rfl (by rfl) (fun w hst K hK => (by go_step; exact hK _ (Below.refl _ _))) (by rfl) (by rfl) ?_; rw [EN.out])
  first | (refine tk_skip rfl (by rfl) (by (conv => lhs; simp only [put_lit, put_none, setL]) <;> rfl) ?_) | (refine tk_cut HZ.out rfl rfl rfl rfl rfl rfl (by (conv => lhs; simp only [put_lit, put_none, setL]) <;> rfl) ?_)
  first | (refine tk_skip rfl (by rfl) (by (conv => lhs; simp only [put_lit, put_none, setL]) <;> rfl) ?_) | (refine tk_b2s rfl rfl rfl Tryd.underlying29 Tryd.underlying5 Tryd.underlying9 rfl (fun w hst => HBz.out w hst) (by (conv => lhs; simp only [put_lit, put_none, setL]) <;> rfl) ?_)
  first | (refine tk_skip rfl (by rfl) (by (conv => lhs; simp only [put_lit, put_none, setL]) <;> rfl) ?_) | (refine tk_wp rfl rfl rfl (by rfl) (fun w hst K hK => (by go_step; exact hK _ (Below.refl _ _))) (by rfl) (by rfl) ?_)
  first | (refine tk_skip rfl (by rfl) (by (conv => lhs; simp only [put_lit, put_none, setL]) <;> rfl) ?_) | (refine tk_b2s rfl rfl rfl Tryd.underlying29 Tryd.underlying5 Tryd.underlying9 rfl (fun w hst => HBx.out w hst) (by (conv => lhs; simp only [put_lit, put_none, setL]) <;> rfl) ?_)
  first | (refine tk_skip rfl (by rfl) (by (conv => lhs; simp only [put_lit, put_none, setL]) <;> rfl) ?_) | (refine tk_eqS rfl rfl rfl Tryd.underlying9 rfl rfl rfl (by (conv => lhs; simp only [put_lit, put_none, setL]) <;> rfl) ?_)
  refine tk_wp rfl rfl rfl (by rfl) (fun w hst K hK => (by go_step; exact hK _ (Below.refl _ _))) (by rfl) (by rfl) ?_
  refine tk_wp rfl rfl rfl (by rfl) (fun w hst K hK => (by go_step; exact hK _ (Below.refl _ _))) (by rfl) (by rfl) ?_
  refine tk_nil ?_
  refine rg_done (by kernel_rfl) (fun w1 hst1 => ?_) _
  clear hst; have hst := hst1; clear hst1
  go_wp2_with fail
  go_ret
  exact ⟨_, rfl, rfl, hstB.call hst⟩
end Go.Proofs.YtpidapgglkoogaaDoor
