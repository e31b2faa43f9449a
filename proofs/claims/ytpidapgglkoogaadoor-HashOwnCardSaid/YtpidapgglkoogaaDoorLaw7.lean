/- The walk of HashOwn. -/
import Derived.Test.YtpidapgglkoogaaDoorLaw2
import Derived.Test.YtpidapgglkoogaaDoorLibK
namespace Go.Proofs.YtpidapgglkoogaaDoor
open Go.RowKit Go.Jal

/-- bytes while each is raised by one -/
def incF (X : List Nat) (f : Nat → Value) (k : Nat) : Nat → Value := fun j => if j < k then nB ((X.getD j 0 + 1) % 256) else f j
theorem incF_zero (X : List Nat) (f : Nat → Value) (N : Nat) (T : TypeId) : blk N f T = blk N (incF X f 0) T := blk_congr fun j _ => by unfold incF; rw [if_neg (by omega)]
theorem incF_step (X : List Nat) (f : Nat → Value) (N k : Nat) (T : TypeId) : blk N (upd (incF X f k) k (nB ((X.getD k 0 + 1) % 256))) T = blk N (incF X f (k + 1)) T := blk_congr fun j _ => by
  unfold upd incF
  by_cases c : j = k
  · subst c; rw [if_pos rfl, if_pos (by omega)]
  · rw [if_neg c]
    by_cases d : j < k
    · rw [if_pos d, if_pos (by omega)]
    · rw [if_neg d, if_neg (by omega)]
theorem expand_head (key info : List Nat) {n m : Nat} (h : n ≤ m) (h0 : 0 < n) : (Sha.expand key info m).getD 0 0 = (Sha.expand key info n).getD 0 0 := by
  rw [← expand_take key info h]
  simp only [List.getD_eq_getElem?_getD, List.getElem?_take_of_lt h0]
set_option maxRecDepth 100000 in
set_option maxHeartbeats 2000000 in
theorem hashOwn_any (key : List Nat) (v : Value) (text : List Nat) (w : World) (hkn : key.length = 32) (hkl : ∀ x ∈ key, x < 256) (h : Bs w v text) (hK : Has w 1 64 (wF Sha.K)) :
    Ret Tryd.prog 8 #[.agg (row 32 (bF key)), v] w fun v' w' => v' = .bool true ∧ St w [] [] w' := by
  go_enter Tryd.func8, Tryd.ntmps8
  have hst := St.refl w
  obtain ⟨ad, c, rfl, _⟩ := id h
  by_cases hi : 500 < text.length
  · go_wp2_with (first
      | ((with_reducible refine at_op (o := ⟨some 2, _, _, _, _, _⟩) ?_); go_loud (refine wl_box rfl rfl rfl (by first | rfl | exact row_one _) hst ?_; intro b2 w2 hb2 hst1; clear hst; have hst := hst1; clear hst1))
      | ((with_reducible refine at_op (o := ⟨some 11, _, _, _, _, _⟩) ?_); go_loud (refine wl_call pl10 rfl rfl rfl (awake_any _ (hK.keep hst.none)) ?_; rintro v11 w11 ⟨rfl, hst11⟩; replace hst := hst.call hst11; clear hst11))
      | ((with_reducible refine at_op (o := ⟨some 18, _, _, _, _, _⟩) ?_); go_loud (refine wl_call pl10 rfl rfl rfl (awake_any _ (hK.keep hst.none)) ?_; rintro v18 w18 ⟨rfl, hst18⟩; replace hst := hst.call hst18; clear hst18))
      | ((with_reducible refine at_op (o := ⟨some 22, _, _, _, _, _⟩) ?_); go_loud ((first | (refine wl_loadAll rfl rfl rfl (by first | exact St.hasb hst (by repeat (first | exact Pick.head | apply Pick.tail)) | exact St.hasOld hst (by assumption) (by simp)) agg26 (by (conv => lhs; simp only [put_lit, put_none, setL]) <;> rfl) ?_) | (refine wl_loadN rfl rfl rfl (by first | exact St.hasb hst (by repeat (first | exact Pick.head | apply Pick.tail)) | exact St.hasOld hst (by assumption) (by simp)) agg26 (by omega) (by (conv => lhs; simp only [put_lit, put_none, setL]) <;> rfl) ?_))))
      | ((with_reducible refine at_op (o := ⟨some 24, _, _, _, _, _⟩) ?_); go_loud (go_outline; fail "call 18"))
      | ((with_reducible refine at_op (o := ⟨some 36, _, _, _, _, _⟩) ?_); go_loud (refine wl_load1v rfl rfl rfl (by first | exact St.hasb hst (by repeat (first | exact Pick.head | apply Pick.tail)) | exact St.hasOld hst (by assumption) (by simp)) (by (conv => lhs; whnf) <;> rfl) (by omega) sc5 (by (conv => lhs; simp only [put_lit, put_none, setL]) <;> rfl) ?_))
      | ((with_reducible refine at_op (o := ⟨none, .store 5 (.tmp 38) (.tmp 37), _, _, _, _⟩) ?_); go_loud (refine wl_store1 rfl rfl rfl (by (conv => lhs; whnf) <;> rfl) hst (by repeat (first | exact Pick.head | apply Pick.tail)) (by omega) sc5 (by rfl) (by (conv => lhs; simp only [put_lit, put_none, setL]) <;> rfl) ?_; intro w1 hst1; clear hst; have hst := hst1; clear hst1))
      | ((with_reducible refine at_op (o := ⟨some 40, _, _, _, _, _⟩) ?_); go_loud ((first | (refine wl_loadAll rfl rfl rfl (by first | exact St.hasb hst (by repeat (first | exact Pick.head | apply Pick.tail)) | exact St.hasOld hst (by assumption) (by simp)) agg26 (by (conv => lhs; simp only [put_lit, put_none, setL]) <;> rfl) ?_) | (refine wl_loadN rfl rfl rfl (by first | exact St.hasb hst (by repeat (first | exact Pick.head | apply Pick.tail)) | exact St.hasOld hst (by assumption) (by simp)) agg26 (by omega) (by (conv => lhs; simp only [put_lit, put_none, setL]) <;> rfl) ?_))))
      | ((with_reducible refine at_op (o := ⟨some 42, _, _, _, _, _⟩) ?_); go_loud (go_outline; fail "call 18"))
      | ((with_reducible refine at_op (o := ⟨some 48, _, _, _, _, _⟩) ?_); go_loud (go_outline; fail "call 12"))
      | ((with_reducible refine at_op (o := ⟨some 51, _, _, _, _, _⟩) ?_); go_loud (refine wl_buildSlice1 rfl rfl elt22 (by decide) (by (conv => lhs; whnf) <;> rfl) (by first | exact row_one _ | rfl) hst ?_; intro b51 w51 hb51 hst1; clear hst; have hst := hst1; clear hst1))
      | ((with_reducible refine at_op (o := ⟨some 52, _, _, _, _, _⟩) ?_); go_loud (go_outline; fail "call 15")))
    go_ret
    exact ⟨_, rfl, rfl, hst.none⟩
  have HIL : Hid (text.length ≤ 10000000000) := by show _ ≤ _; omega
  have HKN := Lib.hid hkn
  have HKL := Lib.hid hkl
  clear hkn hkl
  go_wp2_with (first
      | ((with_reducible refine at_op (o := ⟨some 2, _, _, _, _, _⟩) ?_); go_loud (refine wl_box rfl rfl rfl (by first | rfl | exact row_one _) hst ?_; intro b2 w2 hb2 hst1; clear hst; have hst := hst1; clear hst1))
      | ((with_reducible refine at_op (o := ⟨some 11, _, _, _, _, _⟩) ?_); go_loud (refine wl_call pl10 rfl rfl rfl (awake_any _ (hK.keep hst.none)) ?_; rintro v11 w11 ⟨rfl, hst11⟩; replace hst := hst.call hst11; clear hst11))
      | ((with_reducible refine at_op (o := ⟨some 20, _, _, _, _, _⟩) ?_); go_loud (refine wl_b2s rfl rfl Tryd.underlying29 Tryd.underlying5 Tryd.underlying9 rfl (h.keep hst.none) (by (conv => lhs; simp only [put_lit, put_none, setL]) <;> rfl) ?_))
      | ((with_reducible refine at_op (o := ⟨some 22, _, _, _, _, _⟩) ?_); go_loud ((first | (refine wl_loadAll rfl rfl rfl (by first | exact St.hasb hst (by repeat (first | exact Pick.head | apply Pick.tail)) | exact St.hasOld hst (by assumption) (by simp)) agg26 (by (conv => lhs; simp only [put_lit, put_none, setL]) <;> rfl) ?_) | (refine wl_loadN rfl rfl rfl (by first | exact St.hasb hst (by repeat (first | exact Pick.head | apply Pick.tail)) | exact St.hasOld hst (by assumption) (by simp)) agg26 (by omega) (by (conv => lhs; simp only [put_lit, put_none, setL]) <;> rfl) ?_))))
      | ((with_reducible refine at_op (o := ⟨some 24, _, _, _, _, _⟩) ?_); go_loud (refine wl_call pl18 rfl rfl rfl (expand_own key _ text 64 _ HKN.out HKL.out (h.keep hst.none) HIL.out (by decide) (hK.keep hst.none)) ?_; rintro v24 w24 ⟨ad24, E24, rfl, hB24, hP24, hst24⟩; replace hst := hst.call hst24; clear hst24)))
  have hlen := expand_len key text 64
  have hlt := expand_lt key text 64
  have hX40 := expand_head key text (show 40 ≤ 64 by decide) (by decide)
  obtain ⟨X, hX⟩ : ∃ X, X = Sha.expand key text 64 := ⟨_, rfl⟩
  rw [← hX] at hlen hlt hX40 hP24
  clear hX hB24
  rcases hP24 with ⟨_, h0, _⟩ | ⟨b, N, f, rfl, hN, rfl, hf⟩
  · omega
  rw [incF_zero X] at hst
  have HX40 := Lib.hid hX40
  have HF := Lib.hid hf
  have HLT := Lib.hid hlt
  clear hf hlt hX40
  go_loopw [8] (fun i wr => ∃ k : Nat, k ≤ 64 ∧ i = .int .i64 (k : Int) ∧ St w [] [(b, blk N (incF X f k) 5), (b2, blk 32 (bF key) 26)] wr) (fun i _ => 64 - (intOf i).toNat)
  case atStart => exact ⟨0, by omega, rfl, hst⟩
  case round =>
    clear hst
    obtain ⟨k, hk, rfl, hst⟩ := hrel
    by_cases hkl : k < 64
    · obtain ⟨x, hx⟩ : ∃ x, x = X.getD k 0 := ⟨_, rfl⟩
      have bx : x < 256 := by rw [hx]; exact getD_lt HLT.out (by decide) _
      have Hx : Hid (incF X f k k = nB x) := by show _ = _; unfold incF; rw [if_neg (by omega), HF.out k hkl, hx]; rfl
      have HS := Lib.hid (incF_step X f N k 5)
      rw [← hx] at HS
      obtain ⟨y, hy⟩ : ∃ y, y = (x + 1) % 256 := ⟨_, rfl⟩
      rw [← hy] at HS
      have EY : Hid (((x : Int) + 1) % 256 = (y : Int)) := by show _ = _; omega
      clear hx hy
      go_wp2_with (first
      | ((with_reducible refine at_op (o := ⟨some 36, _, _, _, _, _⟩) ?_); refine wl_load1v rfl rfl rfl (by first | exact St.hasb hst (by repeat (first | exact Pick.head | apply Pick.tail)) | exact St.hasOld hst (by assumption) (by simp)) Hx.out (by omega) sc5 (by (conv => lhs; simp only [put_lit, put_none, setL]) <;> rfl) ?_)
      | ((with_reducible refine at_op (o := ⟨some 38, _, _, _, _, _⟩) ?_); rw [EY.out])
      | ((with_reducible refine at_op (o := ⟨none, .store 5 (.tmp 38) (.tmp 37), _, _, _, _⟩) ?_); refine wl_store1 rfl rfl rfl (by (conv => lhs; whnf) <;> rfl) hst (by repeat (first | exact Pick.head | apply Pick.tail)) (by omega) sc5 (by rfl) (by (conv => lhs; simp only [put_lit, put_none, setL]) <;> rfl) ?_; intro w1 hst1; clear hst; have hst := hst1; clear hst1))
      go_wp2_with fail
      go_roundw
      case rel => exact ⟨k + 1, by omega, by go_num, by rw [← HS.out]; exact hst⟩
      case measure => simp [intOf]; omega
    · obtain rfl : k = 64 := by omega
      have HB2 : Hid (∀ (b : Nat) (L : List (Nat × Obj)) (w0 w' : World), Bs w0 (.slice ad text.length c) text → St w0 [] L w' → (b, blk 2 (lstF [.slice ad text.length c, .slice ad text.length c]) 29) ∈ L → Bss w' (.slice (some ⟨b, 0, none⟩) 2 2) [text, text]) := by
        show ∀ _, _
        intro b L w0 w' h hst hb
        refine Bss.of_blk ⟨_, _, hst.own _ hb⟩ rfl (by decide) fun j hj => ?_
        obtain rfl | rfl : j = 0 ∨ j = 1 := by omega
        · exact h.keep hst.none
        · exact h.keep hst.none
      go_wp2_with (first
      | ((with_reducible refine at_op (o := ⟨some 40, _, _, _, _, _⟩) ?_); go_loud ((first | (refine wl_loadAll rfl rfl rfl (by first | exact St.hasb hst (by repeat (first | exact Pick.head | apply Pick.tail)) | exact St.hasOld hst (by assumption) (by simp)) agg26 (by (conv => lhs; simp only [put_lit, put_none, setL]) <;> rfl) ?_) | (refine wl_loadN rfl rfl rfl (by first | exact St.hasb hst (by repeat (first | exact Pick.head | apply Pick.tail)) | exact St.hasOld hst (by assumption) (by simp)) agg26 (by omega) (by (conv => lhs; simp only [put_lit, put_none, setL]) <;> rfl) ?_))))
      | ((with_reducible refine at_op (o := ⟨some 42, _, _, _, _, _⟩) ?_); go_loud (refine wl_call pl18 rfl rfl rfl (expand_own key _ text 40 _ HKN.out HKL.out (h.keep hst.none) HIL.out (by decide) (hK.keep hst.none)) ?_; rintro v42 w42 ⟨ad42, E42, rfl, hB42, hP42, hst42⟩; replace hst := hst.call hst42; clear hst42))
      | ((with_reducible refine at_op (o := ⟨some 47, _, _, _, _, _⟩) ?_); go_loud (have hbX : Has w42 b N (incF X f 64) := ⟨_, _, hst.own (b, blk N (incF X f 64) 5) (by simp)⟩; have hE42 : ∀ p ∈ E42, w42.heap[p.1]? = some p.2 := fun p hp => hst.own p (by simp [hp]); have hstA := hst; clear hst; have hst := St.refl w42; replace h := h.keep hstA.none; replace hK := hK.keep hstA.none; refine wl_buildSliceN (l := [.slice ad text.length c, .slice ad text.length c]) rfl rfl elt22 rfl rfl rfl (by decide) hst ?_; intro b47 w47 hb47 hst1; clear hst; have hst := hst1; clear hst1))
      | ((with_reducible refine at_op (o := ⟨some 48, _, _, _, _, _⟩) ?_); go_loud (refine wl_call pl12 rfl rfl rfl (sum_any _ [text, text] _ (HB2.out b47 _ _ _ h hst (by simp)) (by simp) (by simp; omega) (by simpa using h.lt) (hK.keep hst.none)) ?_; rintro v48 w48 ⟨rfl, hst48⟩; replace hst := hst.call hst48; clear hst48))
      | ((with_reducible refine at_op (o := ⟨some 51, _, _, _, _, _⟩) ?_); go_loud (refine wl_buildSlice1 (v := .slice ad text.length c) rfl rfl elt22 (by decide) rfl (row_one _) hst ?_; intro b51 w51 hb51 hst1; clear hst; have hst := hst1; clear hst1))
      | ((with_reducible refine at_op (o := ⟨some 52, _, _, _, _, _⟩) ?_); go_loud (refine wl_call pl15 rfl rfl rfl (mac_any _ _ text [text] _ (h.keep hst.none) (Bss.one (hst.hasb Pick.head) (h.keep hst.none)) (by omega) (by simp) (by simp; omega) (by simpa using h.lt) (hK.keep hst.none)) ?_; rintro v52 w52 ⟨rfl, hst52⟩; replace hst := hst.call hst52; clear hst52)))
      rcases hP42 with ⟨_, h0, _⟩ | ⟨b', N', f', rfl, hN', rfl, hf'⟩
      · omega
      have hbY : Has w42 b' N' f' := ⟨_, _, hE42 (b', blk N' f' 5) (by simp)⟩
      have hst2 := hst.none
      clear hst
      have hst := hst2
      clear hst2
      obtain ⟨x, hx⟩ : ∃ x, x = X.getD 0 0 := ⟨_, rfl⟩
      have bx : x < 256 := by rw [hx]; exact getD_lt HLT.out (by decide) _
      obtain ⟨y, hy⟩ : ∃ y, y = (x + 1) % 256 := ⟨_, rfl⟩
      have EY : Hid (((x : Int) + 1) % 256 = (y : Int)) := by show _ = _; omega
      have HX : Hid (incF X f 64 0 = nB y) := by show _ = _; unfold incF; rw [if_pos (by omega), ← hx, ← hy]
      have HY : Hid (f' 0 = nB x) := by show _ = _; rw [hf' 0 (by omega)]; unfold bF; rw [← HX40.out, ← hx]
      have HBt : Hid (∀ w', St w42 [] [] w' → Bs w' (.slice ad text.length c) text) := by show ∀ _, _; exact fun w' h' => h.keep h'
      clear hx hy hf'
      simp only [put_lit, setL]
      refine rg_start (St w42 [] []) mixed (hst.drew) ?_
      refine rg_take [0, 1, 2, 3, 4, 5, 6, 7, 8, 9, 10, 11, 12, 13, 14, 15, 16, 17, 18, 19, 20, 21, 22, 23, 24] 0 _ rfl (by kernel_rfl) (by kernel_rfl) rfl (cls_st _ _ _) (fun _ _ _ _ _ h => h) ?_
      refine tk_wp rfl rfl rfl (by rfl) (fun w hst K hK => (by go_step; exact hK _ (Below.refl _ _))) (by rfl) (by rfl) ?_
      refine tk_b2s rfl rfl rfl Tryd.underlying29 Tryd.underlying5 Tryd.underlying9 rfl (fun w hst => HBt.out w hst) (by (conv => lhs; simp only [put_lit, put_none, setL]) <;> rfl) ?_
      refine tk_wp rfl rfl rfl (by rfl) (fun w hst K hK => (by go_step; exact hK _ (Below.refl _ _))) (by rfl) (by rfl) ?_
      refine tk_eqS rfl rfl rfl Tryd.underlying9 rfl rfl rfl (by (conv => lhs; simp only [put_lit, put_none, setL]) <;> rfl) ?_
      refine tk_wp rfl rfl rfl (by rfl) (fun w hst K hK => (by go_step; exact hK _ (Below.refl _ _))) (by rfl) (by rfl) ?_
      first | (refine tk_skip rfl (by rfl) (by (conv => lhs; simp only [put_lit, put_none, setL]) <;> rfl) ?_) | (refine tk_wp rfl rfl rfl (by rfl) (fun w hst K hK => (by go_step; exact hK _ (Below.refl _ _))) (by rfl) (by rfl) ?_)
      first | (refine tk_skip rfl (by rfl) (by (conv => lhs; simp only [put_lit, put_none, setL]) <;> rfl) ?_) | (refine tk_wp rfl rfl rfl (by rfl) (fun w hst K hK => (by go_step; exact hK _ (Below.refl _ _))) (by rfl) (by rfl) ?_)
      first | (refine tk_skip rfl (by rfl) (by (conv => lhs; simp only [put_lit, put_none, setL]) <;> rfl) ?_) | (refine tk_cmp (p := 64) (q := 64) (r := true) (by simp [cmpI] <;> omega) rfl rfl rfl rfl rfl rfl (by (conv => lhs; simp only [put_lit, put_none, setL]) <;> rfl) ?_)
      refine tk_wp rfl rfl rfl (by rfl) (fun w hst K hK => (by go_step; exact hK _ (Below.refl _ _))) (by rfl) (by rfl) ?_
      refine tk_wp rfl rfl rfl (by rfl) (fun w hst K hK => (by go_step; exact hK _ (Below.refl _ _))) (by rfl) (by rfl) ?_
      first | (refine tk_skip rfl (by rfl) (by (conv => lhs; simp only [put_lit, put_none, setL]) <;> rfl) ?_) | (refine tk_wp rfl rfl rfl (by rfl) (fun w hst K hK => (by go_step; exact hK _ (Below.refl _ _))) (by rfl) (by rfl) ?_)
      first | (refine tk_skip rfl (by rfl) (by (conv => lhs; simp only [put_lit, put_none, setL]) <;> rfl) ?_) | (refine tk_wp rfl rfl rfl (by rfl) (fun w hst K hK => (by go_step; exact hK _ (Below.refl _ _))) (by rfl) (by rfl) ?_)
      first | (refine tk_skip rfl (by rfl) (by (conv => lhs; simp only [put_lit, put_none, setL]) <;> rfl) ?_) | (refine tk_cmp (p := 40) (q := 40) (r := true) (by simp [cmpI] <;> omega) rfl rfl rfl rfl rfl rfl (by (conv => lhs; simp only [put_lit, put_none, setL]) <;> rfl) ?_)
      refine tk_wp rfl rfl rfl (by rfl) (fun w hst K hK => (by go_step; exact hK _ (Below.refl _ _))) (by rfl) (by rfl) ?_
      refine tk_wp rfl rfl rfl (by rfl) (fun w hst K hK => (by go_step; exact hK _ (Below.refl _ _))) (by rfl) (by rfl) ?_
      first | (refine tk_skip rfl (by rfl) (by (conv => lhs; simp only [put_lit, put_none, setL]) <;> rfl) ?_) | (refine tk_wp rfl rfl rfl (by rfl) (fun w hst K hK => (by go_step; exact hK _ (Below.refl _ _))) (by rfl) (by rfl) ?_)
      first | (refine tk_skip rfl (by rfl) (by (conv => lhs; simp only [put_lit, put_none, setL]) <;> rfl) ?_) | (refine tk_wp rfl rfl rfl (by rfl) (fun w hst K hK => (by go_step; exact hK _ (Below.refl _ _))) (by rfl) (by rfl) ?_)
      first | (refine tk_skip rfl (by rfl) (by (conv => lhs; simp only [put_lit, put_none, setL]) <;> rfl) ?_) | (refine tk_load1 rfl rfl (by rfl) rfl (fun w hst => (by first | exact St.hasb hst (by repeat (first | exact Pick.head | apply Pick.tail)) | exact St.hasOld hst (by assumption) (by simp))) HX.out (by omega) sc5 (by (conv => lhs; simp only [put_lit, put_none, setL]) <;> rfl) ?_)
      first | (refine tk_skip rfl (by rfl) (by (conv => lhs; simp only [put_lit, put_none, setL]) <;> rfl) ?_) | (refine tk_wp rfl rfl rfl (by rfl) (fun w hst K hK => (by go_step; exact hK _ (Below.refl _ _))) (by rfl) (by rfl) ?_)
      first | (refine tk_skip rfl (by rfl) (by (conv => lhs; simp only [put_lit, put_none, setL]) <;> rfl) ?_) | (refine tk_wp rfl rfl rfl (by rfl) (fun w hst K hK => (by go_step; exact hK _ (Below.refl _ _))) (by rfl) (by rfl) ?_)
      first | (refine tk_skip rfl (by rfl) (by (conv => lhs; simp only [put_lit, put_none, setL]) <;> rfl) ?_) | (refine tk_load1 rfl rfl (by rfl) rfl (fun w hst => (by first | exact St.hasb hst (by repeat (first | exact Pick.head | apply Pick.tail)) | exact St.hasOld hst (by assumption) (by simp))) HY.out (by omega) sc5 (by (conv => lhs; simp only [put_lit, put_none, setL]) <;> rfl) ?_)
      first | (refine tk_skip rfl (by rfl) (by (conv => lhs; simp only [put_lit, put_none, setL]) <;> rfl) ?_) | (refine tk_wp rfl rfl rfl (by rfl) (fun w hst K hK => (by go_step; exact hK _ (Below.refl _ _))) (by rfl) (by rfl) ?_; rw [EY.out])
      first | (refine tk_skip rfl (by rfl) (by (conv => lhs; simp only [put_lit, put_none, setL]) <;> rfl) ?_) | (refine tk_cmp (p := (y : Int)) (q := (y : Int)) (r := true) (by simp [cmpI] <;> omega) rfl rfl rfl rfl rfl rfl (by (conv => lhs; simp only [put_lit, put_none, setL]) <;> rfl) ?_)
      refine tk_wp rfl rfl rfl (by rfl) (fun w hst K hK => (by go_step; exact hK _ (Below.refl _ _))) (by rfl) (by rfl) ?_
      refine tk_wp rfl rfl rfl (by rfl) (fun w hst K hK => (by go_step; exact hK _ (Below.refl _ _))) (by rfl) (by rfl) ?_
      refine tk_nil ?_
      refine rg_done (by kernel_rfl) (fun w1 hst1 => ?_) _
      clear hst; have hst := hst1; clear hst1
      go_wp2_with fail
      go_ret
      exact ⟨_, rfl, rfl, (hstA.call hst).none⟩
end Go.Proofs.YtpidapgglkoogaaDoor
