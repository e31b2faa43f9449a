/- The walk of entry.Formed. -/
import Derived.Test.YthbobmpeaemdnaaDoorHd2
namespace Go.Proofs.YthbobmpeaemdnaaDoor
open Go.RowKit Go.Jal

theorem bucket_wrap {z : Int} (h1 : -9223372036854775808 ≤ z) (h2 : z ≤ 9223372036854775807) : isBucket (IntKind.i64.wrap (z - 16)) = isBucket (z - 16) := by
  by_cases c : z - 16 < -9223372036854775808
  · rw [wrap_i64_lo (by omega) c]
    unfold isBucket
    exact decide_eq_decide.2 ⟨fun h => by omega, fun h => by omega⟩
  · rw [wrap_in (k := .i64) (by show _ ∧ _; omega)]
set_option maxRecDepth 100000 in
set_option maxHeartbeats 4000000 in
theorem formed_any (H : Hdr) (tok : Value) (w : World) (hok : H.Ok) (ht : Toks w tok H.toks) : Ret Tryd.prog 46 #[.agg (row 125 (hF H tok))] w fun v' w' => v' = .bool (formed H) ∧ St w [] [] w' := by
  have hsz := hok.size
  have hbw := bucket_wrap hsz.1 hsz.2
  obtain ⟨z16, hz16⟩ : ∃ z, z = IntKind.i64.wrap (H.size - 16) := ⟨_, rfl⟩
  have hz1 : -9223372036854775808 ≤ z16 := by rw [hz16]; exact (wrap_i64_in _).1
  have hz2 : z16 ≤ 9223372036854775807 := by rw [hz16]; exact (wrap_i64_in _).2
  rw [← hz16] at hbw
  have HZ : Hid (IntKind.i64.wrap (ariI .sub H.size 16) = z16) := hz16.symm
  clear hz16
  obtain ⟨ad, cap, rfl, hcap, hcm, _⟩ := id ht
  unfold maxLen at hcm
  have HT : Hid (∀ w', St w [] [] w' → Toks w' (.slice ad H.toks.length cap) H.toks) := by show ∀ _, _; exact fun w' h' => ht.keep h'
  clear ht
  go_enter Tryd.func46, Tryd.ntmps46
  have hst := St.refl w
  cases hp : placed H with
  | false =>
    have HPL := Lib.hid hp
    have HFF : Hid (formed H = false) := by show _ = _; unfold formed; rw [hp]; rfl
    clear hp hbw
    go_wp2_with (first
      | go_skip
      | ((with_reducible refine at_d 1 ?_); go_loud (refine wl_box rfl rfl rfl (by first | rfl | exact row_one _) hst ?_; clear hst; intro b1 w1 hb1 hst))
      | ((with_reducible refine at_d 3 ?_); go_loud ((first | (refine wl_loadAll rfl rfl rfl (hs := agg34) (hk := ?_)) | (refine wl_loadN rfl rfl rfl (hs := agg34) (hk := ?_)))))
      | ((with_reducible refine at_d 4 ?_); go_loud (refine wl_call pl64 rfl rfl rfl (placed_any H _ _ hok) ?_; rintro v4 w4 ⟨rfl, hst4⟩; replace hst := hst.call hst4; clear hst4; rw [HPL.out]))
      | ((with_reducible refine at_d 7 ?_); (refine wl_fld (r := 53) fld34_7 rfl rfl rfl rfl (hk := ?_)))
      | ((with_reducible refine at_d 8 ?_); (refine wl_load1v rfl rfl rfl (hs := sc31) (hk := ?_)))
      | ((with_reducible refine at_d 10 ?_); (refine wl_cmp (p := (H.toks.length : Int)) (q := 8) (by first | exact decide_eq_true (by omega) | exact decide_eq_false (by omega)) rfl rfl rfl rfl rfl (hk := ?_)))
      | ((with_reducible refine at_d 13 ?_); (refine wl_fld (r := 53) fld34_7 rfl rfl rfl rfl (hk := ?_)))
      | ((with_reducible refine at_d 14 ?_); (refine wl_load1v rfl rfl rfl (hs := sc31) (hk := ?_)))
      | ((with_reducible refine at_d 15 ?_); (refine wl_call pl65 rfl rfl rfl (sorted_any _ H.toks _ (HT.out _ hst.none)) ?_; rintro v15 w15 ⟨rfl, hst15⟩; replace hst := hst.call hst15; clear hst15; rw [HRI.out]))
      | ((with_reducible refine at_d 19 ?_); (refine wl_fld (r := 92) fld34_10 rfl rfl rfl rfl (hk := ?_)))
      | ((with_reducible refine at_d 20 ?_); (refine wl_load1v rfl rfl rfl (hs := sc3) (hk := ?_)))
      | ((with_reducible refine at_d 21 ?_); (refine wl_ariW (b := .sub) (k := .i64) (p := H.size) (q := 16) (r := z16) HZ.out rfl rfl rfl rfl rfl (hk := ?_)))
      | ((with_reducible refine at_d 22 ?_); (refine wl_call pl66 rfl rfl rfl (is_any z16 _ hz1 hz2) ?_; rintro v22 w22 ⟨rfl, rfl⟩; rw [HBU.out])))
    go_ret
    exact ⟨_, rfl, by rw [HFF.out]; rfl, hst.none⟩
  | true =>
    have HPL := Lib.hid hp
    by_cases hl : 8 < H.toks.length
    · have HFF : Hid (formed H = false) := by show _ = _; unfold formed; rw [decide_eq_false (show ¬ H.toks.length ≤ 8 by omega)]; simp
      clear hp hbw
      go_wp2_with (first
      | go_skip
      | ((with_reducible refine at_d 1 ?_); go_loud (refine wl_box rfl rfl rfl (by first | rfl | exact row_one _) hst ?_; clear hst; intro b1 w1 hb1 hst))
      | ((with_reducible refine at_d 3 ?_); go_loud ((first | (refine wl_loadAll rfl rfl rfl (hs := agg34) (hk := ?_)) | (refine wl_loadN rfl rfl rfl (hs := agg34) (hk := ?_)))))
      | ((with_reducible refine at_d 4 ?_); go_loud (refine wl_call pl64 rfl rfl rfl (placed_any H _ _ hok) ?_; rintro v4 w4 ⟨rfl, hst4⟩; replace hst := hst.call hst4; clear hst4; rw [HPL.out]))
      | ((with_reducible refine at_d 7 ?_); (refine wl_fld (r := 53) fld34_7 rfl rfl rfl rfl (hk := ?_)))
      | ((with_reducible refine at_d 8 ?_); (refine wl_load1v rfl rfl rfl (hs := sc31) (hk := ?_)))
      | ((with_reducible refine at_d 10 ?_); (refine wl_cmp (p := (H.toks.length : Int)) (q := 8) (by first | exact decide_eq_true (by omega) | exact decide_eq_false (by omega)) rfl rfl rfl rfl rfl (hk := ?_)))
      | ((with_reducible refine at_d 13 ?_); (refine wl_fld (r := 53) fld34_7 rfl rfl rfl rfl (hk := ?_)))
      | ((with_reducible refine at_d 14 ?_); (refine wl_load1v rfl rfl rfl (hs := sc31) (hk := ?_)))
      | ((with_reducible refine at_d 15 ?_); (refine wl_call pl65 rfl rfl rfl (sorted_any _ H.toks _ (HT.out _ hst.none)) ?_; rintro v15 w15 ⟨rfl, hst15⟩; replace hst := hst.call hst15; clear hst15; rw [HRI.out]))
      | ((with_reducible refine at_d 19 ?_); (refine wl_fld (r := 92) fld34_10 rfl rfl rfl rfl (hk := ?_)))
      | ((with_reducible refine at_d 20 ?_); (refine wl_load1v rfl rfl rfl (hs := sc3) (hk := ?_)))
      | ((with_reducible refine at_d 21 ?_); (refine wl_ariW (b := .sub) (k := .i64) (p := H.size) (q := 16) (r := z16) HZ.out rfl rfl rfl rfl rfl (hk := ?_)))
      | ((with_reducible refine at_d 22 ?_); (refine wl_call pl66 rfl rfl rfl (is_any z16 _ hz1 hz2) ?_; rintro v22 w22 ⟨rfl, rfl⟩; rw [HBU.out])))
      go_ret
      exact ⟨_, rfl, by rw [HFF.out]; rfl, hst.none⟩
    cases hr : rising H.toks with
    | false =>
      have HRI := Lib.hid hr
      have HFF : Hid (formed H = false) := by show _ = _; unfold formed; rw [hr]; simp
      clear hp hbw hr
      go_wp2_with (first
      | go_skip
      | ((with_reducible refine at_d 1 ?_); go_loud (refine wl_box rfl rfl rfl (by first | rfl | exact row_one _) hst ?_; clear hst; intro b1 w1 hb1 hst))
      | ((with_reducible refine at_d 3 ?_); go_loud ((first | (refine wl_loadAll rfl rfl rfl (hs := agg34) (hk := ?_)) | (refine wl_loadN rfl rfl rfl (hs := agg34) (hk := ?_)))))
      | ((with_reducible refine at_d 4 ?_); go_loud (refine wl_call pl64 rfl rfl rfl (placed_any H _ _ hok) ?_; rintro v4 w4 ⟨rfl, hst4⟩; replace hst := hst.call hst4; clear hst4; rw [HPL.out]))
      | ((with_reducible refine at_d 7 ?_); (refine wl_fld (r := 53) fld34_7 rfl rfl rfl rfl (hk := ?_)))
      | ((with_reducible refine at_d 8 ?_); (refine wl_load1v rfl rfl rfl (hs := sc31) (hk := ?_)))
      | ((with_reducible refine at_d 10 ?_); (refine wl_cmp (p := (H.toks.length : Int)) (q := 8) (by first | exact decide_eq_true (by omega) | exact decide_eq_false (by omega)) rfl rfl rfl rfl rfl (hk := ?_)))
      | ((with_reducible refine at_d 13 ?_); (refine wl_fld (r := 53) fld34_7 rfl rfl rfl rfl (hk := ?_)))
      | ((with_reducible refine at_d 14 ?_); (refine wl_load1v rfl rfl rfl (hs := sc31) (hk := ?_)))
      | ((with_reducible refine at_d 15 ?_); (refine wl_call pl65 rfl rfl rfl (sorted_any _ H.toks _ (HT.out _ hst.none)) ?_; rintro v15 w15 ⟨rfl, hst15⟩; replace hst := hst.call hst15; clear hst15; rw [HRI.out]))
      | ((with_reducible refine at_d 19 ?_); (refine wl_fld (r := 92) fld34_10 rfl rfl rfl rfl (hk := ?_)))
      | ((with_reducible refine at_d 20 ?_); (refine wl_load1v rfl rfl rfl (hs := sc3) (hk := ?_)))
      | ((with_reducible refine at_d 21 ?_); (refine wl_ariW (b := .sub) (k := .i64) (p := H.size) (q := 16) (r := z16) HZ.out rfl rfl rfl rfl rfl (hk := ?_)))
      | ((with_reducible refine at_d 22 ?_); (refine wl_call pl66 rfl rfl rfl (is_any z16 _ hz1 hz2) ?_; rintro v22 w22 ⟨rfl, rfl⟩; rw [HBU.out])))
      go_ret
      exact ⟨_, rfl, by rw [HFF.out]; rfl, hst.none⟩
    | true =>
      have HRI := Lib.hid hr
      cases hb : isBucket (H.size - 16) with
      | false =>
        have HBU : Hid (isBucket z16 = false) := hbw.trans hb
        have HFF : Hid (formed H = false) := by show _ = _; unfold formed; rw [hb]; simp
        clear hp hbw hr hb
        go_wp2_with (first
      | go_skip
      | ((with_reducible refine at_d 1 ?_); go_loud (refine wl_box rfl rfl rfl (by first | rfl | exact row_one _) hst ?_; clear hst; intro b1 w1 hb1 hst))
      | ((with_reducible refine at_d 3 ?_); go_loud ((first | (refine wl_loadAll rfl rfl rfl (hs := agg34) (hk := ?_)) | (refine wl_loadN rfl rfl rfl (hs := agg34) (hk := ?_)))))
      | ((with_reducible refine at_d 4 ?_); go_loud (refine wl_call pl64 rfl rfl rfl (placed_any H _ _ hok) ?_; rintro v4 w4 ⟨rfl, hst4⟩; replace hst := hst.call hst4; clear hst4; rw [HPL.out]))
      | ((with_reducible refine at_d 7 ?_); (refine wl_fld (r := 53) fld34_7 rfl rfl rfl rfl (hk := ?_)))
      | ((with_reducible refine at_d 8 ?_); (refine wl_load1v rfl rfl rfl (hs := sc31) (hk := ?_)))
      | ((with_reducible refine at_d 10 ?_); (refine wl_cmp (p := (H.toks.length : Int)) (q := 8) (by first | exact decide_eq_true (by omega) | exact decide_eq_false (by omega)) rfl rfl rfl rfl rfl (hk := ?_)))
      | ((with_reducible refine at_d 13 ?_); (refine wl_fld (r := 53) fld34_7 rfl rfl rfl rfl (hk := ?_)))
      | ((with_reducible refine at_d 14 ?_); (refine wl_load1v rfl rfl rfl (hs := sc31) (hk := ?_)))
      | ((with_reducible refine at_d 15 ?_); (refine wl_call pl65 rfl rfl rfl (sorted_any _ H.toks _ (HT.out _ hst.none)) ?_; rintro v15 w15 ⟨rfl, hst15⟩; replace hst := hst.call hst15; clear hst15; rw [HRI.out]))
      | ((with_reducible refine at_d 19 ?_); (refine wl_fld (r := 92) fld34_10 rfl rfl rfl rfl (hk := ?_)))
      | ((with_reducible refine at_d 20 ?_); (refine wl_load1v rfl rfl rfl (hs := sc3) (hk := ?_)))
      | ((with_reducible refine at_d 21 ?_); (refine wl_ariW (b := .sub) (k := .i64) (p := H.size) (q := 16) (r := z16) HZ.out rfl rfl rfl rfl rfl (hk := ?_)))
      | ((with_reducible refine at_d 22 ?_); (refine wl_call pl66 rfl rfl rfl (is_any z16 _ hz1 hz2) ?_; rintro v22 w22 ⟨rfl, rfl⟩; rw [HBU.out])))
        go_ret
        exact ⟨_, rfl, by rw [HFF.out]; rfl, hst.none⟩
      | true =>
        have HBU : Hid (isBucket z16 = true) := hbw.trans hb
        have hf : formed H = (!H.control || (decide (H.toks = []) && decide (H.item = zeros 16))) := by
          unfold formed; rw [hp, hr, hb, decide_eq_true (show H.toks.length ≤ 8 by omega)]; simp
        obtain ⟨cc, hcc⟩ : ∃ cc, cc = H.control := ⟨_, rfl⟩
        rw [← hcc] at hf
        have HCC : Hid (hF H (.slice ad H.toks.length cap) 35 = .bool cc) := by rw [hcc]; rfl
        clear hp hbw hr hb hcc
        cases cc with
        | false =>
          have HFF : Hid (formed H = true) := hf
          clear hf
          go_wp2_with (first
      | go_skip
      | ((with_reducible refine at_d 1 ?_); go_loud (refine wl_box rfl rfl rfl (by first | rfl | exact row_one _) hst ?_; clear hst; intro b1 w1 hb1 hst))
      | ((with_reducible refine at_d 3 ?_); go_loud ((first | (refine wl_loadAll rfl rfl rfl (hs := agg34) (hk := ?_)) | (refine wl_loadN rfl rfl rfl (hs := agg34) (hk := ?_)))))
      | ((with_reducible refine at_d 4 ?_); go_loud (refine wl_call pl64 rfl rfl rfl (placed_any H _ _ hok) ?_; rintro v4 w4 ⟨rfl, hst4⟩; replace hst := hst.call hst4; clear hst4; rw [HPL.out]))
      | ((with_reducible refine at_d 7 ?_); (refine wl_fld (r := 53) fld34_7 rfl rfl rfl rfl (hk := ?_)))
      | ((with_reducible refine at_d 8 ?_); (refine wl_load1v rfl rfl rfl (hs := sc31) (hk := ?_)))
      | ((with_reducible refine at_d 10 ?_); (refine wl_cmp (p := (H.toks.length : Int)) (q := 8) (by first | exact decide_eq_true (by omega) | exact decide_eq_false (by omega)) rfl rfl rfl rfl rfl (hk := ?_)))
      | ((with_reducible refine at_d 13 ?_); (refine wl_fld (r := 53) fld34_7 rfl rfl rfl rfl (hk := ?_)))
      | ((with_reducible refine at_d 14 ?_); (refine wl_load1v rfl rfl rfl (hs := sc31) (hk := ?_)))
      | ((with_reducible refine at_d 15 ?_); (refine wl_call pl65 rfl rfl rfl (sorted_any _ H.toks _ (HT.out _ hst.none)) ?_; rintro v15 w15 ⟨rfl, hst15⟩; replace hst := hst.call hst15; clear hst15; rw [HRI.out]))
      | ((with_reducible refine at_d 19 ?_); (refine wl_fld (r := 92) fld34_10 rfl rfl rfl rfl (hk := ?_)))
      | ((with_reducible refine at_d 20 ?_); (refine wl_load1v rfl rfl rfl (hs := sc3) (hk := ?_)))
      | ((with_reducible refine at_d 21 ?_); (refine wl_ariW (b := .sub) (k := .i64) (p := H.size) (q := 16) (r := z16) HZ.out rfl rfl rfl rfl rfl (hk := ?_)))
      | ((with_reducible refine at_d 22 ?_); (refine wl_call pl66 rfl rfl rfl (is_any z16 _ hz1 hz2) ?_; rintro v22 w22 ⟨rfl, rfl⟩; rw [HBU.out]))
      | ((with_reducible refine at_d 25 ?_); go_loud (refine wl_fld (r := 35) fld34_4 rfl rfl rfl rfl (hk := ?_)))
      | ((with_reducible refine at_d 26 ?_); go_loud (refine wl_load1v rfl rfl rfl (by first | exact St.hasb hst (by repeat (first | exact Pick.head | apply Pick.tail)) | exact St.hasOld hst (by assumption) (by simp) | assumption) HCC.out (by omega) sc4 (hk := ?_)))
      | ((with_reducible refine at_d 29 ?_); (refine wl_fld (r := 53) fld34_7 rfl rfl rfl rfl (hk := ?_)))
      | ((with_reducible refine at_d 30 ?_); (refine wl_load1v rfl rfl rfl (hs := sc31) (hk := ?_)))
      | ((with_reducible refine at_d 32 ?_); (refine wl_cmp (p := (H.toks.length : Int)) (q := 0) (by first | exact decide_eq_true (by omega) | exact decide_eq_false (by omega)) rfl rfl rfl rfl rfl (hk := ?_)))
      | ((with_reducible refine at_d 34 ?_); (refine wl_fld (r := 37) fld34_6 rfl rfl rfl rfl (hk := ?_)))
      | ((with_reducible refine at_d 35 ?_); (refine wl_loadP rfl rfl rfl (hs := agg30) (hv := (by first | exact hF_prev _ _ | exact hF_item _ _ | exact hF_knows _ _ | exact hF_sum _ _ | exact hF_code _ _)) (hk := ?_)))
      | ((with_reducible refine at_d 36 ?_); (refine wl_build0 Tryd.underlying30 zer30 sc5.size (zeros_b _) rfl rfl (hk := ?_)))
      | ((with_reducible refine at_d 37 ?_); (refine wl_eqB rfl rfl eqb30 rfl rfl hok.item.1 (zeros_len 16) hok.item.2 (zeros_lt 16) rfl (hk := ?_))))
          go_ret
          exact ⟨_, rfl, by rw [HFF.out]; rfl, hst.none⟩
        | true =>
          by_cases ht0 : H.toks = []
          · have hl0 : H.toks.length = 0 := by rw [ht0]; rfl
            rw [decide_eq_true ht0] at hf
            have HFF : Hid (formed H = decide (H.item = zeros 16)) := hf
            clear hf ht0
            go_wp2_with (first
      | go_skip
      | ((with_reducible refine at_d 1 ?_); go_loud (refine wl_box rfl rfl rfl (by first | rfl | exact row_one _) hst ?_; clear hst; intro b1 w1 hb1 hst))
      | ((with_reducible refine at_d 3 ?_); go_loud ((first | (refine wl_loadAll rfl rfl rfl (hs := agg34) (hk := ?_)) | (refine wl_loadN rfl rfl rfl (hs := agg34) (hk := ?_)))))
      | ((with_reducible refine at_d 4 ?_); go_loud (refine wl_call pl64 rfl rfl rfl (placed_any H _ _ hok) ?_; rintro v4 w4 ⟨rfl, hst4⟩; replace hst := hst.call hst4; clear hst4; rw [HPL.out]))
      | ((with_reducible refine at_d 7 ?_); (refine wl_fld (r := 53) fld34_7 rfl rfl rfl rfl (hk := ?_)))
      | ((with_reducible refine at_d 8 ?_); (refine wl_load1v rfl rfl rfl (hs := sc31) (hk := ?_)))
      | ((with_reducible refine at_d 10 ?_); (refine wl_cmp (p := (H.toks.length : Int)) (q := 8) (by first | exact decide_eq_true (by omega) | exact decide_eq_false (by omega)) rfl rfl rfl rfl rfl (hk := ?_)))
      | ((with_reducible refine at_d 13 ?_); (refine wl_fld (r := 53) fld34_7 rfl rfl rfl rfl (hk := ?_)))
      | ((with_reducible refine at_d 14 ?_); (refine wl_load1v rfl rfl rfl (hs := sc31) (hk := ?_)))
      | ((with_reducible refine at_d 15 ?_); (refine wl_call pl65 rfl rfl rfl (sorted_any _ H.toks _ (HT.out _ hst.none)) ?_; rintro v15 w15 ⟨rfl, hst15⟩; replace hst := hst.call hst15; clear hst15; rw [HRI.out]))
      | ((with_reducible refine at_d 19 ?_); (refine wl_fld (r := 92) fld34_10 rfl rfl rfl rfl (hk := ?_)))
      | ((with_reducible refine at_d 20 ?_); (refine wl_load1v rfl rfl rfl (hs := sc3) (hk := ?_)))
      | ((with_reducible refine at_d 21 ?_); (refine wl_ariW (b := .sub) (k := .i64) (p := H.size) (q := 16) (r := z16) HZ.out rfl rfl rfl rfl rfl (hk := ?_)))
      | ((with_reducible refine at_d 22 ?_); (refine wl_call pl66 rfl rfl rfl (is_any z16 _ hz1 hz2) ?_; rintro v22 w22 ⟨rfl, rfl⟩; rw [HBU.out]))
      | ((with_reducible refine at_d 25 ?_); go_loud (refine wl_fld (r := 35) fld34_4 rfl rfl rfl rfl (hk := ?_)))
      | ((with_reducible refine at_d 26 ?_); go_loud (refine wl_load1v rfl rfl rfl (by first | exact St.hasb hst (by repeat (first | exact Pick.head | apply Pick.tail)) | exact St.hasOld hst (by assumption) (by simp) | assumption) HCC.out (by omega) sc4 (hk := ?_)))
      | ((with_reducible refine at_d 29 ?_); (refine wl_fld (r := 53) fld34_7 rfl rfl rfl rfl (hk := ?_)))
      | ((with_reducible refine at_d 30 ?_); (refine wl_load1v rfl rfl rfl (hs := sc31) (hk := ?_)))
      | ((with_reducible refine at_d 32 ?_); (refine wl_cmp (p := (H.toks.length : Int)) (q := 0) (by first | exact decide_eq_true (by omega) | exact decide_eq_false (by omega)) rfl rfl rfl rfl rfl (hk := ?_)))
      | ((with_reducible refine at_d 34 ?_); (refine wl_fld (r := 37) fld34_6 rfl rfl rfl rfl (hk := ?_)))
      | ((with_reducible refine at_d 35 ?_); (refine wl_loadP rfl rfl rfl (hs := agg30) (hv := (by first | exact hF_prev _ _ | exact hF_item _ _ | exact hF_knows _ _ | exact hF_sum _ _ | exact hF_code _ _)) (hk := ?_)))
      | ((with_reducible refine at_d 36 ?_); (refine wl_build0 Tryd.underlying30 zer30 sc5.size (zeros_b _) rfl rfl (hk := ?_)))
      | ((with_reducible refine at_d 37 ?_); (refine wl_eqB rfl rfl eqb30 rfl rfl hok.item.1 (zeros_len 16) hok.item.2 (zeros_lt 16) rfl (hk := ?_))))
            go_ret
            exact ⟨_, rfl, by rw [HFF.out]; rfl, hst.none⟩
          · have hl0 : 0 < H.toks.length := List.length_pos_iff.2 ht0
            rw [decide_eq_false ht0] at hf
            have HFF : Hid (formed H = false) := hf
            clear hf ht0
            go_wp2_with (first
      | go_skip
      | ((with_reducible refine at_d 1 ?_); go_loud (refine wl_box rfl rfl rfl (by first | rfl | exact row_one _) hst ?_; clear hst; intro b1 w1 hb1 hst))
      | ((with_reducible refine at_d 3 ?_); go_loud ((first | (refine wl_loadAll rfl rfl rfl (hs := agg34) (hk := ?_)) | (refine wl_loadN rfl rfl rfl (hs := agg34) (hk := ?_)))))
      | ((with_reducible refine at_d 4 ?_); go_loud (refine wl_call pl64 rfl rfl rfl (placed_any H _ _ hok) ?_; rintro v4 w4 ⟨rfl, hst4⟩; replace hst := hst.call hst4; clear hst4; rw [HPL.out]))
      | ((with_reducible refine at_d 7 ?_); (refine wl_fld (r := 53) fld34_7 rfl rfl rfl rfl (hk := ?_)))
      | ((with_reducible refine at_d 8 ?_); (refine wl_load1v rfl rfl rfl (hs := sc31) (hk := ?_)))
      | ((with_reducible refine at_d 10 ?_); (refine wl_cmp (p := (H.toks.length : Int)) (q := 8) (by first | exact decide_eq_true (by omega) | exact decide_eq_false (by omega)) rfl rfl rfl rfl rfl (hk := ?_)))
      | ((with_reducible refine at_d 13 ?_); (refine wl_fld (r := 53) fld34_7 rfl rfl rfl rfl (hk := ?_)))
      | ((with_reducible refine at_d 14 ?_); (refine wl_load1v rfl rfl rfl (hs := sc31) (hk := ?_)))
      | ((with_reducible refine at_d 15 ?_); (refine wl_call pl65 rfl rfl rfl (sorted_any _ H.toks _ (HT.out _ hst.none)) ?_; rintro v15 w15 ⟨rfl, hst15⟩; replace hst := hst.call hst15; clear hst15; rw [HRI.out]))
      | ((with_reducible refine at_d 19 ?_); (refine wl_fld (r := 92) fld34_10 rfl rfl rfl rfl (hk := ?_)))
      | ((with_reducible refine at_d 20 ?_); (refine wl_load1v rfl rfl rfl (hs := sc3) (hk := ?_)))
      | ((with_reducible refine at_d 21 ?_); (refine wl_ariW (b := .sub) (k := .i64) (p := H.size) (q := 16) (r := z16) HZ.out rfl rfl rfl rfl rfl (hk := ?_)))
      | ((with_reducible refine at_d 22 ?_); (refine wl_call pl66 rfl rfl rfl (is_any z16 _ hz1 hz2) ?_; rintro v22 w22 ⟨rfl, rfl⟩; rw [HBU.out]))
      | ((with_reducible refine at_d 25 ?_); go_loud (refine wl_fld (r := 35) fld34_4 rfl rfl rfl rfl (hk := ?_)))
      | ((with_reducible refine at_d 26 ?_); go_loud (refine wl_load1v rfl rfl rfl (by first | exact St.hasb hst (by repeat (first | exact Pick.head | apply Pick.tail)) | exact St.hasOld hst (by assumption) (by simp) | assumption) HCC.out (by omega) sc4 (hk := ?_)))
      | ((with_reducible refine at_d 29 ?_); (refine wl_fld (r := 53) fld34_7 rfl rfl rfl rfl (hk := ?_)))
      | ((with_reducible refine at_d 30 ?_); (refine wl_load1v rfl rfl rfl (hs := sc31) (hk := ?_)))
      | ((with_reducible refine at_d 32 ?_); (refine wl_cmp (p := (H.toks.length : Int)) (q := 0) (by first | exact decide_eq_true (by omega) | exact decide_eq_false (by omega)) rfl rfl rfl rfl rfl (hk := ?_)))
      | ((with_reducible refine at_d 34 ?_); (refine wl_fld (r := 37) fld34_6 rfl rfl rfl rfl (hk := ?_)))
      | ((with_reducible refine at_d 35 ?_); (refine wl_loadP rfl rfl rfl (hs := agg30) (hv := (by first | exact hF_prev _ _ | exact hF_item _ _ | exact hF_knows _ _ | exact hF_sum _ _ | exact hF_code _ _)) (hk := ?_)))
      | ((with_reducible refine at_d 36 ?_); (refine wl_build0 Tryd.underlying30 zer30 sc5.size (zeros_b _) rfl rfl (hk := ?_)))
      | ((with_reducible refine at_d 37 ?_); (refine wl_eqB rfl rfl eqb30 rfl rfl hok.item.1 (zeros_len 16) hok.item.2 (zeros_lt 16) rfl (hk := ?_))))
            go_ret
            exact ⟨_, rfl, by rw [HFF.out]; rfl, hst.none⟩
end Go.Proofs.YthbobmpeaemdnaaDoor
