/- The walk of entry.placed. -/
import Derived.Test.YthbobmpeaemdnaaDoorHd1
namespace Go.Proofs.YthbobmpeaemdnaaDoor
open Go.RowKit Go.Jal

theorem zeros_len (n : Nat) : (zeros n).length = n := by simp [zeros]
theorem zeros_lt (n : Nat) : ∀ x ∈ zeros n, x < 256 := fun x hx => by rw [(List.mem_replicate.1 hx).2]; decide
set_option maxRecDepth 100000 in
set_option maxHeartbeats 4000000 in
theorem placed_any (H : Hdr) (tok : Value) (w : World) (hok : H.Ok) : Ret Tryd.prog 64 #[.agg (row 125 (hF H tok))] w fun v' w' => v' = .bool (placed H) ∧ St w [] [] w' := by
  have hs := hok.seq
  have ht := hok.time
  have hw := hok.writer
  have he := hok.epoch
  go_enter Tryd.func64, Tryd.ntmps64
  have hst := St.refl w
  go_wp2_with (first
      | ((with_reducible refine at_d 1 ?_); go_loud (refine wl_box rfl rfl rfl (by first | rfl | exact row_one _) hst ?_; clear hst; intro b1 w1 hb1 hst)))
  by_cases c0 : H.writer < 1
  · have hF : placed H = false := by
      cases q : placed H with
      | false => rfl
      | true => simp only [placed, Bool.and_eq_true, decide_eq_true_eq] at q; omega
    have HFF := Lib.hid hF
    clear hF
    refine rg_start (St w [] [(b1, blk 125 (hF H tok) 34)]) mixed (hst.drew) ?_
    refine rg_take [0, 1, 2, 3, 4, 5, 6, 7, 8, 9, 10, 11, 12, 13, 14, 15, 16, 17, 18, 19, 20, 21, 22, 23, 24, 25, 26, 27, 28, 29, 30, 31, 32, 33, 34, 35, 36, 37, 38, 39, 40, 41, 42, 43, 44] 0 _ rfl (by kernel_rfl) (by kernel_rfl) rfl (cls_st _ _ _) (fun _ _ _ _ _ h => h) ?_
    refine tk_fld (r := 0) fld34_0 rfl rfl rfl rfl rfl (hk := ?_)
    refine tk_load1 rfl rfl (by rfl) rfl (hs := sc3) (hk := ?_)
    refine tk_cmp (p := H.writer) (q := 1) (by first | exact decide_eq_true (by omega) | exact decide_eq_false (by omega)) rfl rfl rfl rfl rfl rfl (hk := ?_)
    refine tk_wp (hk := ?_)
    first | (refine tk_skip rfl (by rfl) (hk := ?_)) | (refine tk_fld (r := 0) fld34_0 rfl rfl rfl rfl rfl (hk := ?_))
    first | (refine tk_skip rfl (by rfl) (hk := ?_)) | (refine tk_load1 rfl rfl (by rfl) rfl (hs := sc3) (hk := ?_))
    first | (refine tk_skip rfl (by rfl) (hk := ?_)) | (refine tk_cmp (p := H.writer) (q := 6) (by first | exact decide_eq_true (by omega) | exact decide_eq_false (by omega)) rfl rfl rfl rfl rfl rfl (hk := ?_))
    refine tk_wp (hk := ?_)
    refine tk_wp (hk := ?_)
    first | (refine tk_skip rfl (by rfl) (hk := ?_)) | (refine tk_fld (r := 1) fld34_1 rfl rfl rfl rfl rfl (hk := ?_))
    first | (refine tk_skip rfl (by rfl) (hk := ?_)) | (refine tk_load1 rfl rfl (by rfl) rfl (hs := sc26) (hk := ?_))
    first | (refine tk_skip rfl (by rfl) (hk := ?_)) | (refine tk_cmp (p := (H.seq : Int)) (q := 1) (by first | exact decide_eq_true (by omega) | exact decide_eq_false (by omega)) rfl rfl rfl rfl rfl rfl (hk := ?_))
    refine tk_wp (hk := ?_)
    refine tk_wp (hk := ?_)
    first | (refine tk_skip rfl (by rfl) (hk := ?_)) | (refine tk_fld (r := 1) fld34_1 rfl rfl rfl rfl rfl (hk := ?_))
    first | (refine tk_skip rfl (by rfl) (hk := ?_)) | (refine tk_load1 rfl rfl (by rfl) rfl (hs := sc26) (hk := ?_))
    first | (refine tk_skip rfl (by rfl) (hk := ?_)) | (refine tk_cmp (p := (H.seq : Int)) (q := 1048576) (by first | exact decide_eq_true (by omega) | exact decide_eq_false (by omega)) rfl rfl rfl rfl rfl rfl (hk := ?_))
    refine tk_wp (hk := ?_)
    refine tk_wp (hk := ?_)
    first | (refine tk_skip rfl (by rfl) (hk := ?_)) | (refine tk_fld (r := 34) fld34_3 rfl rfl rfl rfl rfl (hk := ?_))
    first | (refine tk_skip rfl (by rfl) (hk := ?_)) | (refine tk_load1 rfl rfl (by rfl) rfl (hs := sc3) (hk := ?_))
    first | (refine tk_skip rfl (by rfl) (hk := ?_)) | (refine tk_cmp (p := H.epoch) (q := 0) (by first | exact decide_eq_true (by omega) | exact decide_eq_false (by omega)) rfl rfl rfl rfl rfl rfl (hk := ?_))
    refine tk_wp (hk := ?_)
    refine tk_wp (hk := ?_)
    first | (refine tk_skip rfl (by rfl) (hk := ?_)) | (refine tk_fld (r := 34) fld34_3 rfl rfl rfl rfl rfl (hk := ?_))
    first | (refine tk_skip rfl (by rfl) (hk := ?_)) | (refine tk_load1 rfl rfl (by rfl) rfl (hs := sc3) (hk := ?_))
    first | (refine tk_skip rfl (by rfl) (hk := ?_)) | (refine tk_cmp (p := H.epoch) (q := 255) (by first | exact decide_eq_true (by omega) | exact decide_eq_false (by omega)) rfl rfl rfl rfl rfl rfl (hk := ?_))
    refine tk_wp (hk := ?_)
    refine tk_wp (hk := ?_)
    first | (refine tk_skip rfl (by rfl) (hk := ?_)) | (refine tk_fld (r := 36) fld34_5 rfl rfl rfl rfl rfl (hk := ?_))
    first | (refine tk_skip rfl (by rfl) (hk := ?_)) | (refine tk_load1 rfl rfl (by rfl) rfl (hs := sc26) (hk := ?_))
    first | (refine tk_skip rfl (by rfl) (hk := ?_)) | (refine tk_cmp (p := (H.time : Int)) (q := 1099511627776) (by first | exact decide_eq_true (by omega) | exact decide_eq_false (by omega)) rfl rfl rfl rfl rfl rfl (hk := ?_))
    refine tk_wp (hk := ?_)
    refine tk_wp (hk := ?_)
    first | (refine tk_skip rfl (by rfl) (hk := ?_)) | (refine tk_fld (r := 0) fld34_0 rfl rfl rfl rfl rfl (hk := ?_))
    first | (refine tk_skip rfl (by rfl) (hk := ?_)) | (refine tk_load1 rfl rfl (by rfl) rfl (hs := sc3) (hk := ?_))
    first | (refine tk_skip rfl (by rfl) (hk := ?_)) | (refine tk_wp (hk := ?_))
    first | (refine tk_skip rfl (by rfl) (hk := ?_)) | (refine tk_fld (r := 54) fld34_8 rfl rfl rfl rfl rfl (hk := ?_))
    first | (refine tk_skip rfl (by rfl) (hk := ?_)) | (refine tk_wp (hk := ?_))
    first | (refine tk_skip rfl (by rfl) (hk := ?_)) | (refine tk_load1 rfl rfl (by rfl) rfl (hs := sc26) (hk := ?_))
    first | (refine tk_skip rfl (by rfl) (hk := ?_)) | (refine tk_fld (r := 1) fld34_1 rfl rfl rfl rfl rfl (hk := ?_))
    first | (refine tk_skip rfl (by rfl) (hk := ?_)) | (refine tk_load1 rfl rfl (by rfl) rfl (hs := sc26) (hk := ?_))
    first | (refine tk_skip rfl (by rfl) (hk := ?_)) | (refine tk_wp (hk := ?_))
    first | (refine tk_skip rfl (by rfl) (hk := ?_)) | (refine tk_wp (hk := ?_))
    refine tk_wp (hk := ?_)
    refine tk_nil ?_
    refine rg_done (by kernel_rfl) (fun w1 hst1 => ?_) _
    clear hst; have hst := hst1; clear hst1
    go_wp2_with (fail)
    go_ret
    exact ⟨_, rfl, by rw [HFF.out]; rfl, hst.none⟩
  by_cases c1 : 6 < H.writer
  · have hF : placed H = false := by
      cases q : placed H with
      | false => rfl
      | true => simp only [placed, Bool.and_eq_true, decide_eq_true_eq] at q; omega
    have HFF := Lib.hid hF
    clear hF
    refine rg_start (St w [] [(b1, blk 125 (hF H tok) 34)]) mixed (hst.drew) ?_
    refine rg_take [0, 1, 2, 3, 4, 5, 6, 7, 8, 9, 10, 11, 12, 13, 14, 15, 16, 17, 18, 19, 20, 21, 22, 23, 24, 25, 26, 27, 28, 29, 30, 31, 32, 33, 34, 35, 36, 37, 38, 39, 40, 41, 42, 43, 44] 0 _ rfl (by kernel_rfl) (by kernel_rfl) rfl (cls_st _ _ _) (fun _ _ _ _ _ h => h) ?_
    refine tk_fld (r := 0) fld34_0 rfl rfl rfl rfl rfl (hk := ?_)
    refine tk_load1 rfl rfl (by rfl) rfl (hs := sc3) (hk := ?_)
    refine tk_cmp (p := H.writer) (q := 1) (by first | exact decide_eq_true (by omega) | exact decide_eq_false (by omega)) rfl rfl rfl rfl rfl rfl (hk := ?_)
    refine tk_wp (hk := ?_)
    first | (refine tk_skip rfl (by rfl) (hk := ?_)) | (refine tk_fld (r := 0) fld34_0 rfl rfl rfl rfl rfl (hk := ?_))
    first | (refine tk_skip rfl (by rfl) (hk := ?_)) | (refine tk_load1 rfl rfl (by rfl) rfl (hs := sc3) (hk := ?_))
    first | (refine tk_skip rfl (by rfl) (hk := ?_)) | (refine tk_cmp (p := H.writer) (q := 6) (by first | exact decide_eq_true (by omega) | exact decide_eq_false (by omega)) rfl rfl rfl rfl rfl rfl (hk := ?_))
    refine tk_wp (hk := ?_)
    refine tk_wp (hk := ?_)
    first | (refine tk_skip rfl (by rfl) (hk := ?_)) | (refine tk_fld (r := 1) fld34_1 rfl rfl rfl rfl rfl (hk := ?_))
    first | (refine tk_skip rfl (by rfl) (hk := ?_)) | (refine tk_load1 rfl rfl (by rfl) rfl (hs := sc26) (hk := ?_))
    first | (refine tk_skip rfl (by rfl) (hk := ?_)) | (refine tk_cmp (p := (H.seq : Int)) (q := 1) (by first | exact decide_eq_true (by omega) | exact decide_eq_false (by omega)) rfl rfl rfl rfl rfl rfl (hk := ?_))
    refine tk_wp (hk := ?_)
    refine tk_wp (hk := ?_)
    first | (refine tk_skip rfl (by rfl) (hk := ?_)) | (refine tk_fld (r := 1) fld34_1 rfl rfl rfl rfl rfl (hk := ?_))
    first | (refine tk_skip rfl (by rfl) (hk := ?_)) | (refine tk_load1 rfl rfl (by rfl) rfl (hs := sc26) (hk := ?_))
    first | (refine tk_skip rfl (by rfl) (hk := ?_)) | (refine tk_cmp (p := (H.seq : Int)) (q := 1048576) (by first | exact decide_eq_true (by omega) | exact decide_eq_false (by omega)) rfl rfl rfl rfl rfl rfl (hk := ?_))
    refine tk_wp (hk := ?_)
    refine tk_wp (hk := ?_)
    first | (refine tk_skip rfl (by rfl) (hk := ?_)) | (refine tk_fld (r := 34) fld34_3 rfl rfl rfl rfl rfl (hk := ?_))
    first | (refine tk_skip rfl (by rfl) (hk := ?_)) | (refine tk_load1 rfl rfl (by rfl) rfl (hs := sc3) (hk := ?_))
    first | (refine tk_skip rfl (by rfl) (hk := ?_)) | (refine tk_cmp (p := H.epoch) (q := 0) (by first | exact decide_eq_true (by omega) | exact decide_eq_false (by omega)) rfl rfl rfl rfl rfl rfl (hk := ?_))
    refine tk_wp (hk := ?_)
    refine tk_wp (hk := ?_)
    first | (refine tk_skip rfl (by rfl) (hk := ?_)) | (refine tk_fld (r := 34) fld34_3 rfl rfl rfl rfl rfl (hk := ?_))
    first | (refine tk_skip rfl (by rfl) (hk := ?_)) | (refine tk_load1 rfl rfl (by rfl) rfl (hs := sc3) (hk := ?_))
    first | (refine tk_skip rfl (by rfl) (hk := ?_)) | (refine tk_cmp (p := H.epoch) (q := 255) (by first | exact decide_eq_true (by omega) | exact decide_eq_false (by omega)) rfl rfl rfl rfl rfl rfl (hk := ?_))
    refine tk_wp (hk := ?_)
    refine tk_wp (hk := ?_)
    first | (refine tk_skip rfl (by rfl) (hk := ?_)) | (refine tk_fld (r := 36) fld34_5 rfl rfl rfl rfl rfl (hk := ?_))
    first | (refine tk_skip rfl (by rfl) (hk := ?_)) | (refine tk_load1 rfl rfl (by rfl) rfl (hs := sc26) (hk := ?_))
    first | (refine tk_skip rfl (by rfl) (hk := ?_)) | (refine tk_cmp (p := (H.time : Int)) (q := 1099511627776) (by first | exact decide_eq_true (by omega) | exact decide_eq_false (by omega)) rfl rfl rfl rfl rfl rfl (hk := ?_))
    refine tk_wp (hk := ?_)
    refine tk_wp (hk := ?_)
    first | (refine tk_skip rfl (by rfl) (hk := ?_)) | (refine tk_fld (r := 0) fld34_0 rfl rfl rfl rfl rfl (hk := ?_))
    first | (refine tk_skip rfl (by rfl) (hk := ?_)) | (refine tk_load1 rfl rfl (by rfl) rfl (hs := sc3) (hk := ?_))
    first | (refine tk_skip rfl (by rfl) (hk := ?_)) | (refine tk_wp (hk := ?_))
    first | (refine tk_skip rfl (by rfl) (hk := ?_)) | (refine tk_fld (r := 54) fld34_8 rfl rfl rfl rfl rfl (hk := ?_))
    first | (refine tk_skip rfl (by rfl) (hk := ?_)) | (refine tk_wp (hk := ?_))
    first | (refine tk_skip rfl (by rfl) (hk := ?_)) | (refine tk_load1 rfl rfl (by rfl) rfl (hs := sc26) (hk := ?_))
    first | (refine tk_skip rfl (by rfl) (hk := ?_)) | (refine tk_fld (r := 1) fld34_1 rfl rfl rfl rfl rfl (hk := ?_))
    first | (refine tk_skip rfl (by rfl) (hk := ?_)) | (refine tk_load1 rfl rfl (by rfl) rfl (hs := sc26) (hk := ?_))
    first | (refine tk_skip rfl (by rfl) (hk := ?_)) | (refine tk_wp (hk := ?_))
    first | (refine tk_skip rfl (by rfl) (hk := ?_)) | (refine tk_wp (hk := ?_))
    refine tk_wp (hk := ?_)
    refine tk_nil ?_
    refine rg_done (by kernel_rfl) (fun w1 hst1 => ?_) _
    clear hst; have hst := hst1; clear hst1
    go_wp2_with (fail)
    go_ret
    exact ⟨_, rfl, by rw [HFF.out]; rfl, hst.none⟩
  by_cases c2 : (H.seq : Int) < 1
  · have hF : placed H = false := by
      cases q : placed H with
      | false => rfl
      | true => simp only [placed, Bool.and_eq_true, decide_eq_true_eq] at q; omega
    have HFF := Lib.hid hF
    clear hF
    refine rg_start (St w [] [(b1, blk 125 (hF H tok) 34)]) mixed (hst.drew) ?_
    refine rg_take [0, 1, 2, 3, 4, 5, 6, 7, 8, 9, 10, 11, 12, 13, 14, 15, 16, 17, 18, 19, 20, 21, 22, 23, 24, 25, 26, 27, 28, 29, 30, 31, 32, 33, 34, 35, 36, 37, 38, 39, 40, 41, 42, 43, 44] 0 _ rfl (by kernel_rfl) (by kernel_rfl) rfl (cls_st _ _ _) (fun _ _ _ _ _ h => h) ?_
    refine tk_fld (r := 0) fld34_0 rfl rfl rfl rfl rfl (hk := ?_)
    refine tk_load1 rfl rfl (by rfl) rfl (hs := sc3) (hk := ?_)
    refine tk_cmp (p := H.writer) (q := 1) (by first | exact decide_eq_true (by omega) | exact decide_eq_false (by omega)) rfl rfl rfl rfl rfl rfl (hk := ?_)
    refine tk_wp (hk := ?_)
    first | (refine tk_skip rfl (by rfl) (hk := ?_)) | (refine tk_fld (r := 0) fld34_0 rfl rfl rfl rfl rfl (hk := ?_))
    first | (refine tk_skip rfl (by rfl) (hk := ?_)) | (refine tk_load1 rfl rfl (by rfl) rfl (hs := sc3) (hk := ?_))
    first | (refine tk_skip rfl (by rfl) (hk := ?_)) | (refine tk_cmp (p := H.writer) (q := 6) (by first | exact decide_eq_true (by omega) | exact decide_eq_false (by omega)) rfl rfl rfl rfl rfl rfl (hk := ?_))
    refine tk_wp (hk := ?_)
    refine tk_wp (hk := ?_)
    first | (refine tk_skip rfl (by rfl) (hk := ?_)) | (refine tk_fld (r := 1) fld34_1 rfl rfl rfl rfl rfl (hk := ?_))
    first | (refine tk_skip rfl (by rfl) (hk := ?_)) | (refine tk_load1 rfl rfl (by rfl) rfl (hs := sc26) (hk := ?_))
    first | (refine tk_skip rfl (by rfl) (hk := ?_)) | (refine tk_cmp (p := (H.seq : Int)) (q := 1) (by first | exact decide_eq_true (by omega) | exact decide_eq_false (by omega)) rfl rfl rfl rfl rfl rfl (hk := ?_))
    refine tk_wp (hk := ?_)
    refine tk_wp (hk := ?_)
    first | (refine tk_skip rfl (by rfl) (hk := ?_)) | (refine tk_fld (r := 1) fld34_1 rfl rfl rfl rfl rfl (hk := ?_))
    first | (refine tk_skip rfl (by rfl) (hk := ?_)) | (refine tk_load1 rfl rfl (by rfl) rfl (hs := sc26) (hk := ?_))
    first | (refine tk_skip rfl (by rfl) (hk := ?_)) | (refine tk_cmp (p := (H.seq : Int)) (q := 1048576) (by first | exact decide_eq_true (by omega) | exact decide_eq_false (by omega)) rfl rfl rfl rfl rfl rfl (hk := ?_))
    refine tk_wp (hk := ?_)
    refine tk_wp (hk := ?_)
    first | (refine tk_skip rfl (by rfl) (hk := ?_)) | (refine tk_fld (r := 34) fld34_3 rfl rfl rfl rfl rfl (hk := ?_))
    first | (refine tk_skip rfl (by rfl) (hk := ?_)) | (refine tk_load1 rfl rfl (by rfl) rfl (hs := sc3) (hk := ?_))
    first | (refine tk_skip rfl (by rfl) (hk := ?_)) | (refine tk_cmp (p := H.epoch) (q := 0) (by first | exact decide_eq_true (by omega) | exact decide_eq_false (by omega)) rfl rfl rfl rfl rfl rfl (hk := ?_))
    refine tk_wp (hk := ?_)
    refine tk_wp (hk := ?_)
    first | (refine tk_skip rfl (by rfl) (hk := ?_)) | (refine tk_fld (r := 34) fld34_3 rfl rfl rfl rfl rfl (hk := ?_))
    first | (refine tk_skip rfl (by rfl) (hk := ?_)) | (refine tk_load1 rfl rfl (by rfl) rfl (hs := sc3) (hk := ?_))
    first | (refine tk_skip rfl (by rfl) (hk := ?_)) | (refine tk_cmp (p := H.epoch) (q := 255) (by first | exact decide_eq_true (by omega) | exact decide_eq_false (by omega)) rfl rfl rfl rfl rfl rfl (hk := ?_))
    refine tk_wp (hk := ?_)
    refine tk_wp (hk := ?_)
    first | (refine tk_skip rfl (by rfl) (hk := ?_)) | (refine tk_fld (r := 36) fld34_5 rfl rfl rfl rfl rfl (hk := ?_))
    first | (refine tk_skip rfl (by rfl) (hk := ?_)) | (refine tk_load1 rfl rfl (by rfl) rfl (hs := sc26) (hk := ?_))
    first | (refine tk_skip rfl (by rfl) (hk := ?_)) | (refine tk_cmp (p := (H.time : Int)) (q := 1099511627776) (by first | exact decide_eq_true (by omega) | exact decide_eq_false (by omega)) rfl rfl rfl rfl rfl rfl (hk := ?_))
    refine tk_wp (hk := ?_)
    refine tk_wp (hk := ?_)
    first | (refine tk_skip rfl (by rfl) (hk := ?_)) | (refine tk_fld (r := 0) fld34_0 rfl rfl rfl rfl rfl (hk := ?_))
    first | (refine tk_skip rfl (by rfl) (hk := ?_)) | (refine tk_load1 rfl rfl (by rfl) rfl (hs := sc3) (hk := ?_))
    first | (refine tk_skip rfl (by rfl) (hk := ?_)) | (refine tk_wp (hk := ?_))
    first | (refine tk_skip rfl (by rfl) (hk := ?_)) | (refine tk_fld (r := 54) fld34_8 rfl rfl rfl rfl rfl (hk := ?_))
    first | (refine tk_skip rfl (by rfl) (hk := ?_)) | (refine tk_wp (hk := ?_))
    first | (refine tk_skip rfl (by rfl) (hk := ?_)) | (refine tk_load1 rfl rfl (by rfl) rfl (hs := sc26) (hk := ?_))
    first | (refine tk_skip rfl (by rfl) (hk := ?_)) | (refine tk_fld (r := 1) fld34_1 rfl rfl rfl rfl rfl (hk := ?_))
    first | (refine tk_skip rfl (by rfl) (hk := ?_)) | (refine tk_load1 rfl rfl (by rfl) rfl (hs := sc26) (hk := ?_))
    first | (refine tk_skip rfl (by rfl) (hk := ?_)) | (refine tk_wp (hk := ?_))
    first | (refine tk_skip rfl (by rfl) (hk := ?_)) | (refine tk_wp (hk := ?_))
    refine tk_wp (hk := ?_)
    refine tk_nil ?_
    refine rg_done (by kernel_rfl) (fun w1 hst1 => ?_) _
    clear hst; have hst := hst1; clear hst1
    go_wp2_with (fail)
    go_ret
    exact ⟨_, rfl, by rw [HFF.out]; rfl, hst.none⟩
  by_cases c3 : 1048576 < (H.seq : Int)
  · have hF : placed H = false := by
      cases q : placed H with
      | false => rfl
      | true => simp only [placed, Bool.and_eq_true, decide_eq_true_eq] at q; omega
    have HFF := Lib.hid hF
    clear hF
    refine rg_start (St w [] [(b1, blk 125 (hF H tok) 34)]) mixed (hst.drew) ?_
    refine rg_take [0, 1, 2, 3, 4, 5, 6, 7, 8, 9, 10, 11, 12, 13, 14, 15, 16, 17, 18, 19, 20, 21, 22, 23, 24, 25, 26, 27, 28, 29, 30, 31, 32, 33, 34, 35, 36, 37, 38, 39, 40, 41, 42, 43, 44] 0 _ rfl (by kernel_rfl) (by kernel_rfl) rfl (cls_st _ _ _) (fun _ _ _ _ _ h => h) ?_
    refine tk_fld (r := 0) fld34_0 rfl rfl rfl rfl rfl (hk := ?_)
    refine tk_load1 rfl rfl (by rfl) rfl (hs := sc3) (hk := ?_)
    refine tk_cmp (p := H.writer) (q := 1) (by first | exact decide_eq_true (by omega) | exact decide_eq_false (by omega)) rfl rfl rfl rfl rfl rfl (hk := ?_)
    refine tk_wp (hk := ?_)
    first | (refine tk_skip rfl (by rfl) (hk := ?_)) | (refine tk_fld (r := 0) fld34_0 rfl rfl rfl rfl rfl (hk := ?_))
    first | (refine tk_skip rfl (by rfl) (hk := ?_)) | (refine tk_load1 rfl rfl (by rfl) rfl (hs := sc3) (hk := ?_))
    first | (refine tk_skip rfl (by rfl) (hk := ?_)) | (refine tk_cmp (p := H.writer) (q := 6) (by first | exact decide_eq_true (by omega) | exact decide_eq_false (by omega)) rfl rfl rfl rfl rfl rfl (hk := ?_))
    refine tk_wp (hk := ?_)
    refine tk_wp (hk := ?_)
    first | (refine tk_skip rfl (by rfl) (hk := ?_)) | (refine tk_fld (r := 1) fld34_1 rfl rfl rfl rfl rfl (hk := ?_))
    first | (refine tk_skip rfl (by rfl) (hk := ?_)) | (refine tk_load1 rfl rfl (by rfl) rfl (hs := sc26) (hk := ?_))
    first | (refine tk_skip rfl (by rfl) (hk := ?_)) | (refine tk_cmp (p := (H.seq : Int)) (q := 1) (by first | exact decide_eq_true (by omega) | exact decide_eq_false (by omega)) rfl rfl rfl rfl rfl rfl (hk := ?_))
    refine tk_wp (hk := ?_)
    refine tk_wp (hk := ?_)
    first | (refine tk_skip rfl (by rfl) (hk := ?_)) | (refine tk_fld (r := 1) fld34_1 rfl rfl rfl rfl rfl (hk := ?_))
    first | (refine tk_skip rfl (by rfl) (hk := ?_)) | (refine tk_load1 rfl rfl (by rfl) rfl (hs := sc26) (hk := ?_))
    first | (refine tk_skip rfl (by rfl) (hk := ?_)) | (refine tk_cmp (p := (H.seq : Int)) (q := 1048576) (by first | exact decide_eq_true (by omega) | exact decide_eq_false (by omega)) rfl rfl rfl rfl rfl rfl (hk := ?_))
    refine tk_wp (hk := ?_)
    refine tk_wp (hk := ?_)
    first | (refine tk_skip rfl (by rfl) (hk := ?_)) | (refine tk_fld (r := 34) fld34_3 rfl rfl rfl rfl rfl (hk := ?_))
    first | (refine tk_skip rfl (by rfl) (hk := ?_)) | (refine tk_load1 rfl rfl (by rfl) rfl (hs := sc3) (hk := ?_))
    first | (refine tk_skip rfl (by rfl) (hk := ?_)) | (refine tk_cmp (p := H.epoch) (q := 0) (by first | exact decide_eq_true (by omega) | exact decide_eq_false (by omega)) rfl rfl rfl rfl rfl rfl (hk := ?_))
    refine tk_wp (hk := ?_)
    refine tk_wp (hk := ?_)
    first | (refine tk_skip rfl (by rfl) (hk := ?_)) | (refine tk_fld (r := 34) fld34_3 rfl rfl rfl rfl rfl (hk := ?_))
    first | (refine tk_skip rfl (by rfl) (hk := ?_)) | (refine tk_load1 rfl rfl (by rfl) rfl (hs := sc3) (hk := ?_))
    first | (refine tk_skip rfl (by rfl) (hk := ?_)) | (refine tk_cmp (p := H.epoch) (q := 255) (by first | exact decide_eq_true (by omega) | exact decide_eq_false (by omega)) rfl rfl rfl rfl rfl rfl (hk := ?_))
    refine tk_wp (hk := ?_)
    refine tk_wp (hk := ?_)
    first | (refine tk_skip rfl (by rfl) (hk := ?_)) | (refine tk_fld (r := 36) fld34_5 rfl rfl rfl rfl rfl (hk := ?_))
    first | (refine tk_skip rfl (by rfl) (hk := ?_)) | (refine tk_load1 rfl rfl (by rfl) rfl (hs := sc26) (hk := ?_))
    first | (refine tk_skip rfl (by rfl) (hk := ?_)) | (refine tk_cmp (p := (H.time : Int)) (q := 1099511627776) (by first | exact decide_eq_true (by omega) | exact decide_eq_false (by omega)) rfl rfl rfl rfl rfl rfl (hk := ?_))
    refine tk_wp (hk := ?_)
    refine tk_wp (hk := ?_)
    first | (refine tk_skip rfl (by rfl) (hk := ?_)) | (refine tk_fld (r := 0) fld34_0 rfl rfl rfl rfl rfl (hk := ?_))
    first | (refine tk_skip rfl (by rfl) (hk := ?_)) | (refine tk_load1 rfl rfl (by rfl) rfl (hs := sc3) (hk := ?_))
    first | (refine tk_skip rfl (by rfl) (hk := ?_)) | (refine tk_wp (hk := ?_))
    first | (refine tk_skip rfl (by rfl) (hk := ?_)) | (refine tk_fld (r := 54) fld34_8 rfl rfl rfl rfl rfl (hk := ?_))
    first | (refine tk_skip rfl (by rfl) (hk := ?_)) | (refine tk_wp (hk := ?_))
    first | (refine tk_skip rfl (by rfl) (hk := ?_)) | (refine tk_load1 rfl rfl (by rfl) rfl (hs := sc26) (hk := ?_))
    first | (refine tk_skip rfl (by rfl) (hk := ?_)) | (refine tk_fld (r := 1) fld34_1 rfl rfl rfl rfl rfl (hk := ?_))
    first | (refine tk_skip rfl (by rfl) (hk := ?_)) | (refine tk_load1 rfl rfl (by rfl) rfl (hs := sc26) (hk := ?_))
    first | (refine tk_skip rfl (by rfl) (hk := ?_)) | (refine tk_wp (hk := ?_))
    first | (refine tk_skip rfl (by rfl) (hk := ?_)) | (refine tk_wp (hk := ?_))
    refine tk_wp (hk := ?_)
    refine tk_nil ?_
    refine rg_done (by kernel_rfl) (fun w1 hst1 => ?_) _
    clear hst; have hst := hst1; clear hst1
    go_wp2_with (fail)
    go_ret
    exact ⟨_, rfl, by rw [HFF.out]; rfl, hst.none⟩
  by_cases c4 : H.epoch < 0
  · have hF : placed H = false := by
      cases q : placed H with
      | false => rfl
      | true => simp only [placed, Bool.and_eq_true, decide_eq_true_eq] at q; omega
    have HFF := Lib.hid hF
    clear hF
    refine rg_start (St w [] [(b1, blk 125 (hF H tok) 34)]) mixed (hst.drew) ?_
    refine rg_take [0, 1, 2, 3, 4, 5, 6, 7, 8, 9, 10, 11, 12, 13, 14, 15, 16, 17, 18, 19, 20, 21, 22, 23, 24, 25, 26, 27, 28, 29, 30, 31, 32, 33, 34, 35, 36, 37, 38, 39, 40, 41, 42, 43, 44] 0 _ rfl (by kernel_rfl) (by kernel_rfl) rfl (cls_st _ _ _) (fun _ _ _ _ _ h => h) ?_
    refine tk_fld (r := 0) fld34_0 rfl rfl rfl rfl rfl (hk := ?_)
    refine tk_load1 rfl rfl (by rfl) rfl (hs := sc3) (hk := ?_)
    refine tk_cmp (p := H.writer) (q := 1) (by first | exact decide_eq_true (by omega) | exact decide_eq_false (by omega)) rfl rfl rfl rfl rfl rfl (hk := ?_)
    refine tk_wp (hk := ?_)
    first | (refine tk_skip rfl (by rfl) (hk := ?_)) | (refine tk_fld (r := 0) fld34_0 rfl rfl rfl rfl rfl (hk := ?_))
    first | (refine tk_skip rfl (by rfl) (hk := ?_)) | (refine tk_load1 rfl rfl (by rfl) rfl (hs := sc3) (hk := ?_))
    first | (refine tk_skip rfl (by rfl) (hk := ?_)) | (refine tk_cmp (p := H.writer) (q := 6) (by first | exact decide_eq_true (by omega) | exact decide_eq_false (by omega)) rfl rfl rfl rfl rfl rfl (hk := ?_))
    refine tk_wp (hk := ?_)
    refine tk_wp (hk := ?_)
    first | (refine tk_skip rfl (by rfl) (hk := ?_)) | (refine tk_fld (r := 1) fld34_1 rfl rfl rfl rfl rfl (hk := ?_))
    first | (refine tk_skip rfl (by rfl) (hk := ?_)) | (refine tk_load1 rfl rfl (by rfl) rfl (hs := sc26) (hk := ?_))
    first | (refine tk_skip rfl (by rfl) (hk := ?_)) | (refine tk_cmp (p := (H.seq : Int)) (q := 1) (by first | exact decide_eq_true (by omega) | exact decide_eq_false (by omega)) rfl rfl rfl rfl rfl rfl (hk := ?_))
    refine tk_wp (hk := ?_)
    refine tk_wp (hk := ?_)
    first | (refine tk_skip rfl (by rfl) (hk := ?_)) | (refine tk_fld (r := 1) fld34_1 rfl rfl rfl rfl rfl (hk := ?_))
    first | (refine tk_skip rfl (by rfl) (hk := ?_)) | (refine tk_load1 rfl rfl (by rfl) rfl (hs := sc26) (hk := ?_))
    first | (refine tk_skip rfl (by rfl) (hk := ?_)) | (refine tk_cmp (p := (H.seq : Int)) (q := 1048576) (by first | exact decide_eq_true (by omega) | exact decide_eq_false (by omega)) rfl rfl rfl rfl rfl rfl (hk := ?_))
    refine tk_wp (hk := ?_)
    refine tk_wp (hk := ?_)
    first | (refine tk_skip rfl (by rfl) (hk := ?_)) | (refine tk_fld (r := 34) fld34_3 rfl rfl rfl rfl rfl (hk := ?_))
    first | (refine tk_skip rfl (by rfl) (hk := ?_)) | (refine tk_load1 rfl rfl (by rfl) rfl (hs := sc3) (hk := ?_))
    first | (refine tk_skip rfl (by rfl) (hk := ?_)) | (refine tk_cmp (p := H.epoch) (q := 0) (by first | exact decide_eq_true (by omega) | exact decide_eq_false (by omega)) rfl rfl rfl rfl rfl rfl (hk := ?_))
    refine tk_wp (hk := ?_)
    refine tk_wp (hk := ?_)
    first | (refine tk_skip rfl (by rfl) (hk := ?_)) | (refine tk_fld (r := 34) fld34_3 rfl rfl rfl rfl rfl (hk := ?_))
    first | (refine tk_skip rfl (by rfl) (hk := ?_)) | (refine tk_load1 rfl rfl (by rfl) rfl (hs := sc3) (hk := ?_))
    first | (refine tk_skip rfl (by rfl) (hk := ?_)) | (refine tk_cmp (p := H.epoch) (q := 255) (by first | exact decide_eq_true (by omega) | exact decide_eq_false (by omega)) rfl rfl rfl rfl rfl rfl (hk := ?_))
    refine tk_wp (hk := ?_)
    refine tk_wp (hk := ?_)
    first | (refine tk_skip rfl (by rfl) (hk := ?_)) | (refine tk_fld (r := 36) fld34_5 rfl rfl rfl rfl rfl (hk := ?_))
    first | (refine tk_skip rfl (by rfl) (hk := ?_)) | (refine tk_load1 rfl rfl (by rfl) rfl (hs := sc26) (hk := ?_))
    first | (refine tk_skip rfl (by rfl) (hk := ?_)) | (refine tk_cmp (p := (H.time : Int)) (q := 1099511627776) (by first | exact decide_eq_true (by omega) | exact decide_eq_false (by omega)) rfl rfl rfl rfl rfl rfl (hk := ?_))
    refine tk_wp (hk := ?_)
    refine tk_wp (hk := ?_)
    first | (refine tk_skip rfl (by rfl) (hk := ?_)) | (refine tk_fld (r := 0) fld34_0 rfl rfl rfl rfl rfl (hk := ?_))
    first | (refine tk_skip rfl (by rfl) (hk := ?_)) | (refine tk_load1 rfl rfl (by rfl) rfl (hs := sc3) (hk := ?_))
    first | (refine tk_skip rfl (by rfl) (hk := ?_)) | (refine tk_wp (hk := ?_))
    first | (refine tk_skip rfl (by rfl) (hk := ?_)) | (refine tk_fld (r := 54) fld34_8 rfl rfl rfl rfl rfl (hk := ?_))
    first | (refine tk_skip rfl (by rfl) (hk := ?_)) | (refine tk_wp (hk := ?_))
    first | (refine tk_skip rfl (by rfl) (hk := ?_)) | (refine tk_load1 rfl rfl (by rfl) rfl (hs := sc26) (hk := ?_))
    first | (refine tk_skip rfl (by rfl) (hk := ?_)) | (refine tk_fld (r := 1) fld34_1 rfl rfl rfl rfl rfl (hk := ?_))
    first | (refine tk_skip rfl (by rfl) (hk := ?_)) | (refine tk_load1 rfl rfl (by rfl) rfl (hs := sc26) (hk := ?_))
    first | (refine tk_skip rfl (by rfl) (hk := ?_)) | (refine tk_wp (hk := ?_))
    first | (refine tk_skip rfl (by rfl) (hk := ?_)) | (refine tk_wp (hk := ?_))
    refine tk_wp (hk := ?_)
    refine tk_nil ?_
    refine rg_done (by kernel_rfl) (fun w1 hst1 => ?_) _
    clear hst; have hst := hst1; clear hst1
    go_wp2_with (fail)
    go_ret
    exact ⟨_, rfl, by rw [HFF.out]; rfl, hst.none⟩
  by_cases c5 : 255 < H.epoch
  · have hF : placed H = false := by
      cases q : placed H with
      | false => rfl
      | true => simp only [placed, Bool.and_eq_true, decide_eq_true_eq] at q; omega
    have HFF := Lib.hid hF
    clear hF
    refine rg_start (St w [] [(b1, blk 125 (hF H tok) 34)]) mixed (hst.drew) ?_
    refine rg_take [0, 1, 2, 3, 4, 5, 6, 7, 8, 9, 10, 11, 12, 13, 14, 15, 16, 17, 18, 19, 20, 21, 22, 23, 24, 25, 26, 27, 28, 29, 30, 31, 32, 33, 34, 35, 36, 37, 38, 39, 40, 41, 42, 43, 44] 0 _ rfl (by kernel_rfl) (by kernel_rfl) rfl (cls_st _ _ _) (fun _ _ _ _ _ h => h) ?_
    refine tk_fld (r := 0) fld34_0 rfl rfl rfl rfl rfl (hk := ?_)
    refine tk_load1 rfl rfl (by rfl) rfl (hs := sc3) (hk := ?_)
    refine tk_cmp (p := H.writer) (q := 1) (by first | exact decide_eq_true (by omega) | exact decide_eq_false (by omega)) rfl rfl rfl rfl rfl rfl (hk := ?_)
    refine tk_wp (hk := ?_)
    first | (refine tk_skip rfl (by rfl) (hk := ?_)) | (refine tk_fld (r := 0) fld34_0 rfl rfl rfl rfl rfl (hk := ?_))
    first | (refine tk_skip rfl (by rfl) (hk := ?_)) | (refine tk_load1 rfl rfl (by rfl) rfl (hs := sc3) (hk := ?_))
    first | (refine tk_skip rfl (by rfl) (hk := ?_)) | (refine tk_cmp (p := H.writer) (q := 6) (by first | exact decide_eq_true (by omega) | exact decide_eq_false (by omega)) rfl rfl rfl rfl rfl rfl (hk := ?_))
    refine tk_wp (hk := ?_)
    refine tk_wp (hk := ?_)
    first | (refine tk_skip rfl (by rfl) (hk := ?_)) | (refine tk_fld (r := 1) fld34_1 rfl rfl rfl rfl rfl (hk := ?_))
    first | (refine tk_skip rfl (by rfl) (hk := ?_)) | (refine tk_load1 rfl rfl (by rfl) rfl (hs := sc26) (hk := ?_))
    first | (refine tk_skip rfl (by rfl) (hk := ?_)) | (refine tk_cmp (p := (H.seq : Int)) (q := 1) (by first | exact decide_eq_true (by omega) | exact decide_eq_false (by omega)) rfl rfl rfl rfl rfl rfl (hk := ?_))
    refine tk_wp (hk := ?_)
    refine tk_wp (hk := ?_)
    first | (refine tk_skip rfl (by rfl) (hk := ?_)) | (refine tk_fld (r := 1) fld34_1 rfl rfl rfl rfl rfl (hk := ?_))
    first | (refine tk_skip rfl (by rfl) (hk := ?_)) | (refine tk_load1 rfl rfl (by rfl) rfl (hs := sc26) (hk := ?_))
    first | (refine tk_skip rfl (by rfl) (hk := ?_)) | (refine tk_cmp (p := (H.seq : Int)) (q := 1048576) (by first | exact decide_eq_true (by omega) | exact decide_eq_false (by omega)) rfl rfl rfl rfl rfl rfl (hk := ?_))
    refine tk_wp (hk := ?_)
    refine tk_wp (hk := ?_)
    first | (refine tk_skip rfl (by rfl) (hk := ?_)) | (refine tk_fld (r := 34) fld34_3 rfl rfl rfl rfl rfl (hk := ?_))
    first | (refine tk_skip rfl (by rfl) (hk := ?_)) | (refine tk_load1 rfl rfl (by rfl) rfl (hs := sc3) (hk := ?_))
    first | (refine tk_skip rfl (by rfl) (hk := ?_)) | (refine tk_cmp (p := H.epoch) (q := 0) (by first | exact decide_eq_true (by omega) | exact decide_eq_false (by omega)) rfl rfl rfl rfl rfl rfl (hk := ?_))
    refine tk_wp (hk := ?_)
    refine tk_wp (hk := ?_)
    first | (refine tk_skip rfl (by rfl) (hk := ?_)) | (refine tk_fld (r := 34) fld34_3 rfl rfl rfl rfl rfl (hk := ?_))
    first | (refine tk_skip rfl (by rfl) (hk := ?_)) | (refine tk_load1 rfl rfl (by rfl) rfl (hs := sc3) (hk := ?_))
    first | (refine tk_skip rfl (by rfl) (hk := ?_)) | (refine tk_cmp (p := H.epoch) (q := 255) (by first | exact decide_eq_true (by omega) | exact decide_eq_false (by omega)) rfl rfl rfl rfl rfl rfl (hk := ?_))
    refine tk_wp (hk := ?_)
    refine tk_wp (hk := ?_)
    first | (refine tk_skip rfl (by rfl) (hk := ?_)) | (refine tk_fld (r := 36) fld34_5 rfl rfl rfl rfl rfl (hk := ?_))
    first | (refine tk_skip rfl (by rfl) (hk := ?_)) | (refine tk_load1 rfl rfl (by rfl) rfl (hs := sc26) (hk := ?_))
    first | (refine tk_skip rfl (by rfl) (hk := ?_)) | (refine tk_cmp (p := (H.time : Int)) (q := 1099511627776) (by first | exact decide_eq_true (by omega) | exact decide_eq_false (by omega)) rfl rfl rfl rfl rfl rfl (hk := ?_))
    refine tk_wp (hk := ?_)
    refine tk_wp (hk := ?_)
    first | (refine tk_skip rfl (by rfl) (hk := ?_)) | (refine tk_fld (r := 0) fld34_0 rfl rfl rfl rfl rfl (hk := ?_))
    first | (refine tk_skip rfl (by rfl) (hk := ?_)) | (refine tk_load1 rfl rfl (by rfl) rfl (hs := sc3) (hk := ?_))
    first | (refine tk_skip rfl (by rfl) (hk := ?_)) | (refine tk_wp (hk := ?_))
    first | (refine tk_skip rfl (by rfl) (hk := ?_)) | (refine tk_fld (r := 54) fld34_8 rfl rfl rfl rfl rfl (hk := ?_))
    first | (refine tk_skip rfl (by rfl) (hk := ?_)) | (refine tk_wp (hk := ?_))
    first | (refine tk_skip rfl (by rfl) (hk := ?_)) | (refine tk_load1 rfl rfl (by rfl) rfl (hs := sc26) (hk := ?_))
    first | (refine tk_skip rfl (by rfl) (hk := ?_)) | (refine tk_fld (r := 1) fld34_1 rfl rfl rfl rfl rfl (hk := ?_))
    first | (refine tk_skip rfl (by rfl) (hk := ?_)) | (refine tk_load1 rfl rfl (by rfl) rfl (hs := sc26) (hk := ?_))
    first | (refine tk_skip rfl (by rfl) (hk := ?_)) | (refine tk_wp (hk := ?_))
    first | (refine tk_skip rfl (by rfl) (hk := ?_)) | (refine tk_wp (hk := ?_))
    refine tk_wp (hk := ?_)
    refine tk_nil ?_
    refine rg_done (by kernel_rfl) (fun w1 hst1 => ?_) _
    clear hst; have hst := hst1; clear hst1
    go_wp2_with (fail)
    go_ret
    exact ⟨_, rfl, by rw [HFF.out]; rfl, hst.none⟩
  by_cases c6 : 1099511627776 < (H.time : Int)
  · have hF : placed H = false := by
      cases q : placed H with
      | false => rfl
      | true => simp only [placed, Bool.and_eq_true, decide_eq_true_eq] at q; omega
    have HFF := Lib.hid hF
    clear hF
    refine rg_start (St w [] [(b1, blk 125 (hF H tok) 34)]) mixed (hst.drew) ?_
    refine rg_take [0, 1, 2, 3, 4, 5, 6, 7, 8, 9, 10, 11, 12, 13, 14, 15, 16, 17, 18, 19, 20, 21, 22, 23, 24, 25, 26, 27, 28, 29, 30, 31, 32, 33, 34, 35, 36, 37, 38, 39, 40, 41, 42, 43, 44] 0 _ rfl (by kernel_rfl) (by kernel_rfl) rfl (cls_st _ _ _) (fun _ _ _ _ _ h => h) ?_
    refine tk_fld (r := 0) fld34_0 rfl rfl rfl rfl rfl (hk := ?_)
    refine tk_load1 rfl rfl (by rfl) rfl (hs := sc3) (hk := ?_)
    refine tk_cmp (p := H.writer) (q := 1) (by first | exact decide_eq_true (by omega) | exact decide_eq_false (by omega)) rfl rfl rfl rfl rfl rfl (hk := ?_)
    refine tk_wp (hk := ?_)
    first | (refine tk_skip rfl (by rfl) (hk := ?_)) | (refine tk_fld (r := 0) fld34_0 rfl rfl rfl rfl rfl (hk := ?_))
    first | (refine tk_skip rfl (by rfl) (hk := ?_)) | (refine tk_load1 rfl rfl (by rfl) rfl (hs := sc3) (hk := ?_))
    first | (refine tk_skip rfl (by rfl) (hk := ?_)) | (refine tk_cmp (p := H.writer) (q := 6) (by first | exact decide_eq_true (by omega) | exact decide_eq_false (by omega)) rfl rfl rfl rfl rfl rfl (hk := ?_))
    refine tk_wp (hk := ?_)
    refine tk_wp (hk := ?_)
    first | (refine tk_skip rfl (by rfl) (hk := ?_)) | (refine tk_fld (r := 1) fld34_1 rfl rfl rfl rfl rfl (hk := ?_))
    first | (refine tk_skip rfl (by rfl) (hk := ?_)) | (refine tk_load1 rfl rfl (by rfl) rfl (hs := sc26) (hk := ?_))
    first | (refine tk_skip rfl (by rfl) (hk := ?_)) | (refine tk_cmp (p := (H.seq : Int)) (q := 1) (by first | exact decide_eq_true (by omega) | exact decide_eq_false (by omega)) rfl rfl rfl rfl rfl rfl (hk := ?_))
    refine tk_wp (hk := ?_)
    refine tk_wp (hk := ?_)
    first | (refine tk_skip rfl (by rfl) (hk := ?_)) | (refine tk_fld (r := 1) fld34_1 rfl rfl rfl rfl rfl (hk := ?_))
    first | (refine tk_skip rfl (by rfl) (hk := ?_)) | (refine tk_load1 rfl rfl (by rfl) rfl (hs := sc26) (hk := ?_))
    first | (refine tk_skip rfl (by rfl) (hk := ?_)) | (refine tk_cmp (p := (H.seq : Int)) (q := 1048576) (by first | exact decide_eq_true (by omega) | exact decide_eq_false (by omega)) rfl rfl rfl rfl rfl rfl (hk := ?_))
    refine tk_wp (hk := ?_)
    refine tk_wp (hk := ?_)
    first | (refine tk_skip rfl (by rfl) (hk := ?_)) | (refine tk_fld (r := 34) fld34_3 rfl rfl rfl rfl rfl (hk := ?_))
    first | (refine tk_skip rfl (by rfl) (hk := ?_)) | (refine tk_load1 rfl rfl (by rfl) rfl (hs := sc3) (hk := ?_))
    first | (refine tk_skip rfl (by rfl) (hk := ?_)) | (refine tk_cmp (p := H.epoch) (q := 0) (by first | exact decide_eq_true (by omega) | exact decide_eq_false (by omega)) rfl rfl rfl rfl rfl rfl (hk := ?_))
    refine tk_wp (hk := ?_)
    refine tk_wp (hk := ?_)
    first | (refine tk_skip rfl (by rfl) (hk := ?_)) | (refine tk_fld (r := 34) fld34_3 rfl rfl rfl rfl rfl (hk := ?_))
    first | (refine tk_skip rfl (by rfl) (hk := ?_)) | (refine tk_load1 rfl rfl (by rfl) rfl (hs := sc3) (hk := ?_))
    first | (refine tk_skip rfl (by rfl) (hk := ?_)) | (refine tk_cmp (p := H.epoch) (q := 255) (by first | exact decide_eq_true (by omega) | exact decide_eq_false (by omega)) rfl rfl rfl rfl rfl rfl (hk := ?_))
    refine tk_wp (hk := ?_)
    refine tk_wp (hk := ?_)
    first | (refine tk_skip rfl (by rfl) (hk := ?_)) | (refine tk_fld (r := 36) fld34_5 rfl rfl rfl rfl rfl (hk := ?_))
    first | (refine tk_skip rfl (by rfl) (hk := ?_)) | (refine tk_load1 rfl rfl (by rfl) rfl (hs := sc26) (hk := ?_))
    first | (refine tk_skip rfl (by rfl) (hk := ?_)) | (refine tk_cmp (p := (H.time : Int)) (q := 1099511627776) (by first | exact decide_eq_true (by omega) | exact decide_eq_false (by omega)) rfl rfl rfl rfl rfl rfl (hk := ?_))
    refine tk_wp (hk := ?_)
    refine tk_wp (hk := ?_)
    first | (refine tk_skip rfl (by rfl) (hk := ?_)) | (refine tk_fld (r := 0) fld34_0 rfl rfl rfl rfl rfl (hk := ?_))
    first | (refine tk_skip rfl (by rfl) (hk := ?_)) | (refine tk_load1 rfl rfl (by rfl) rfl (hs := sc3) (hk := ?_))
    first | (refine tk_skip rfl (by rfl) (hk := ?_)) | (refine tk_wp (hk := ?_))
    first | (refine tk_skip rfl (by rfl) (hk := ?_)) | (refine tk_fld (r := 54) fld34_8 rfl rfl rfl rfl rfl (hk := ?_))
    first | (refine tk_skip rfl (by rfl) (hk := ?_)) | (refine tk_wp (hk := ?_))
    first | (refine tk_skip rfl (by rfl) (hk := ?_)) | (refine tk_load1 rfl rfl (by rfl) rfl (hs := sc26) (hk := ?_))
    first | (refine tk_skip rfl (by rfl) (hk := ?_)) | (refine tk_fld (r := 1) fld34_1 rfl rfl rfl rfl rfl (hk := ?_))
    first | (refine tk_skip rfl (by rfl) (hk := ?_)) | (refine tk_load1 rfl rfl (by rfl) rfl (hs := sc26) (hk := ?_))
    first | (refine tk_skip rfl (by rfl) (hk := ?_)) | (refine tk_wp (hk := ?_))
    first | (refine tk_skip rfl (by rfl) (hk := ?_)) | (refine tk_wp (hk := ?_))
    refine tk_wp (hk := ?_)
    refine tk_nil ?_
    refine rg_done (by kernel_rfl) (fun w1 hst1 => ?_) _
    clear hst; have hst := hst1; clear hst1
    go_wp2_with (fail)
    go_ret
    exact ⟨_, rfl, by rw [HFF.out]; rfl, hst.none⟩
  obtain ⟨n, hn⟩ : ∃ n : Nat, H.writer = (n : Int) + 1 := ⟨(H.writer - 1).toNat, by omega⟩
  have hn6 : n < 6 := by omega
  obtain ⟨k, hk⟩ : ∃ k, k = H.knows.getD n 0 := ⟨_, rfl⟩
  have hkn : H.knows.getD (H.writer.toNat - 1) 0 = k := by rw [hk, show H.writer.toNat - 1 = n by omega]
  have HK : Hid (hF H tok (54 + 1 * n) = .int .u64 (k : Int)) := by show _ = _; rw [Nat.one_mul, hF_knows H tok n hn6, kF, hk]
  have hk64 : k < 18446744073709551616 := by
    rw [hk, List.getD_eq_getElem?_getD, List.getElem?_eq_getElem (by rw [hok.knows.1]; exact hn6)]
    exact hok.knows.2 _ (List.getElem_mem _)
  clear hk
  by_cases c7 : k + 1 = H.seq
  · refine rg_start (St w [] [(b1, blk 125 (hF H tok) 34)]) mixed (hst.drew) ?_
    refine rg_take [0, 1, 2, 3, 4, 5, 6, 7, 8, 9, 10, 11, 12, 13, 14, 15, 16, 17, 18, 19, 20, 21, 22, 23, 24, 25, 26, 27, 28, 29, 30, 31, 32, 33, 34, 35, 36, 37, 38, 39, 40, 41, 42, 43, 44] 0 _ rfl (by kernel_rfl) (by kernel_rfl) rfl (cls_st _ _ _) (fun _ _ _ _ _ h => h) ?_
    refine tk_fld (r := 0) fld34_0 rfl rfl rfl rfl rfl (hk := ?_)
    refine tk_load1 rfl rfl (by rfl) rfl (hs := sc3) (hk := ?_)
    refine tk_cmp (p := H.writer) (q := 1) (by first | exact decide_eq_true (by omega) | exact decide_eq_false (by omega)) rfl rfl rfl rfl rfl rfl (hk := ?_)
    refine tk_wp (hk := ?_)
    first | (refine tk_skip rfl (by rfl) (hk := ?_)) | (refine tk_fld (r := 0) fld34_0 rfl rfl rfl rfl rfl (hk := ?_))
    first | (refine tk_skip rfl (by rfl) (hk := ?_)) | (refine tk_load1 rfl rfl (by rfl) rfl (hs := sc3) (hk := ?_))
    first | (refine tk_skip rfl (by rfl) (hk := ?_)) | (refine tk_cmp (p := H.writer) (q := 6) (by first | exact decide_eq_true (by omega) | exact decide_eq_false (by omega)) rfl rfl rfl rfl rfl rfl (hk := ?_))
    refine tk_wp (hk := ?_)
    refine tk_wp (hk := ?_)
    first | (refine tk_skip rfl (by rfl) (hk := ?_)) | (refine tk_fld (r := 1) fld34_1 rfl rfl rfl rfl rfl (hk := ?_))
    first | (refine tk_skip rfl (by rfl) (hk := ?_)) | (refine tk_load1 rfl rfl (by rfl) rfl (hs := sc26) (hk := ?_))
    first | (refine tk_skip rfl (by rfl) (hk := ?_)) | (refine tk_cmp (p := (H.seq : Int)) (q := 1) (by first | exact decide_eq_true (by omega) | exact decide_eq_false (by omega)) rfl rfl rfl rfl rfl rfl (hk := ?_))
    refine tk_wp (hk := ?_)
    refine tk_wp (hk := ?_)
    first | (refine tk_skip rfl (by rfl) (hk := ?_)) | (refine tk_fld (r := 1) fld34_1 rfl rfl rfl rfl rfl (hk := ?_))
    first | (refine tk_skip rfl (by rfl) (hk := ?_)) | (refine tk_load1 rfl rfl (by rfl) rfl (hs := sc26) (hk := ?_))
    first | (refine tk_skip rfl (by rfl) (hk := ?_)) | (refine tk_cmp (p := (H.seq : Int)) (q := 1048576) (by first | exact decide_eq_true (by omega) | exact decide_eq_false (by omega)) rfl rfl rfl rfl rfl rfl (hk := ?_))
    refine tk_wp (hk := ?_)
    refine tk_wp (hk := ?_)
    first | (refine tk_skip rfl (by rfl) (hk := ?_)) | (refine tk_fld (r := 34) fld34_3 rfl rfl rfl rfl rfl (hk := ?_))
    first | (refine tk_skip rfl (by rfl) (hk := ?_)) | (refine tk_load1 rfl rfl (by rfl) rfl (hs := sc3) (hk := ?_))
    first | (refine tk_skip rfl (by rfl) (hk := ?_)) | (refine tk_cmp (p := H.epoch) (q := 0) (by first | exact decide_eq_true (by omega) | exact decide_eq_false (by omega)) rfl rfl rfl rfl rfl rfl (hk := ?_))
    refine tk_wp (hk := ?_)
    refine tk_wp (hk := ?_)
    first | (refine tk_skip rfl (by rfl) (hk := ?_)) | (refine tk_fld (r := 34) fld34_3 rfl rfl rfl rfl rfl (hk := ?_))
    first | (refine tk_skip rfl (by rfl) (hk := ?_)) | (refine tk_load1 rfl rfl (by rfl) rfl (hs := sc3) (hk := ?_))
    first | (refine tk_skip rfl (by rfl) (hk := ?_)) | (refine tk_cmp (p := H.epoch) (q := 255) (by first | exact decide_eq_true (by omega) | exact decide_eq_false (by omega)) rfl rfl rfl rfl rfl rfl (hk := ?_))
    refine tk_wp (hk := ?_)
    refine tk_wp (hk := ?_)
    first | (refine tk_skip rfl (by rfl) (hk := ?_)) | (refine tk_fld (r := 36) fld34_5 rfl rfl rfl rfl rfl (hk := ?_))
    first | (refine tk_skip rfl (by rfl) (hk := ?_)) | (refine tk_load1 rfl rfl (by rfl) rfl (hs := sc26) (hk := ?_))
    first | (refine tk_skip rfl (by rfl) (hk := ?_)) | (refine tk_cmp (p := (H.time : Int)) (q := 1099511627776) (by first | exact decide_eq_true (by omega) | exact decide_eq_false (by omega)) rfl rfl rfl rfl rfl rfl (hk := ?_))
    refine tk_wp (hk := ?_)
    refine tk_wp (hk := ?_)
    first | (refine tk_skip rfl (by rfl) (hk := ?_)) | (refine tk_fld (r := 0) fld34_0 rfl rfl rfl rfl rfl (hk := ?_))
    first | (refine tk_skip rfl (by rfl) (hk := ?_)) | (refine tk_load1 rfl rfl (by rfl) rfl (hs := sc3) (hk := ?_))
    first | (refine tk_skip rfl (by rfl) (hk := ?_)) | (refine tk_ari (p := H.writer) (q := 1) (r := (n : Int)) (k := .i64) (by simp only [ariI] <;> omega) (by show _ ∧ _; omega) rfl rfl rfl rfl rfl rfl (hk := ?_))
    first | (refine tk_skip rfl (by rfl) (hk := ?_)) | (refine tk_fld (r := 54) fld34_8 rfl rfl rfl rfl rfl (hk := ?_))
    first | (refine tk_skip rfl (by rfl) (hk := ?_)) | (refine tk_idxA (i := n) Tryd.underlying32 sc12.size hn6 rfl rfl rfl rfl rfl (hk := ?_))
    first | (refine tk_skip rfl (by rfl) (hk := ?_)) | (refine tk_load1 rfl rfl (by rfl) rfl (fun w hst => (by first | exact St.hasb hst (by repeat (first | exact Pick.head | apply Pick.tail)) | exact St.hasOld hst (by assumption) (by simp) | assumption)) HK.out (by omega) sc12 (hk := ?_))
    first | (refine tk_skip rfl (by rfl) (hk := ?_)) | (refine tk_fld (r := 1) fld34_1 rfl rfl rfl rfl rfl (hk := ?_))
    first | (refine tk_skip rfl (by rfl) (hk := ?_)) | (refine tk_load1 rfl rfl (by rfl) rfl (hs := sc26) (hk := ?_))
    first | (refine tk_skip rfl (by rfl) (hk := ?_)) | (refine tk_ari (p := (H.seq : Int)) (q := 1) (r := ((H.seq : Int) - 1)) (k := .u64) (by simp only [ariI] <;> omega) (by show _ ∧ _; omega) rfl rfl rfl rfl rfl rfl (hk := ?_))
    first | (refine tk_skip rfl (by rfl) (hk := ?_)) | (refine tk_cmp (p := (k : Int)) (q := (H.seq : Int) - 1) (by first | exact decide_eq_true (by omega) | exact decide_eq_false (by omega)) rfl rfl rfl rfl rfl rfl (hk := ?_))
    refine tk_wp (hk := ?_)
    refine tk_nil ?_
    refine rg_done (by kernel_rfl) (fun w1 hst1 => ?_) _
    clear hst; have hst := hst1; clear hst1
    go_wp2_with (first
      | ((with_reducible refine at_d 50 ?_); go_loud (refine wl_fld (r := 54) fld34_8 rfl rfl rfl rfl (hk := ?_)))
      | ((with_reducible refine at_d 51 ?_); go_loud (refine wl_loadP rfl rfl rfl (hs := agg32) (hv := (by first | exact hF_prev _ _ | exact hF_item _ _ | exact hF_knows _ _ | exact hF_sum _ _ | exact hF_code _ _)) (hk := ?_))))
    go_loop [52] (fun i => ∃ k : Nat, k ≤ 6 ∧ i = .int .i64 (k : Int) ∧ ∀ j, j < k → H.knows.getD j 0 ≤ 1048576) (fun i => 6 - (intOf i).toNat)
    case atStart => exact ⟨0, by omega, rfl, fun j hj => by omega⟩
    case round =>
      obtain ⟨i, hi, rfl, hall⟩ := hrel
      by_cases hi6 : i < 6
      · obtain ⟨x, hx⟩ : ∃ x, x = H.knows.getD i 0 := ⟨_, rfl⟩
        have HX : Hid (kF H.knows i = .int .u64 (x : Int)) := by show _ = _; rw [kF, hx]
        by_cases hbig : 1048576 < x
        · have hF : placed H = false := by
            cases q : placed H with
            | false => rfl
            | true =>
              simp only [placed, Bool.and_eq_true, List.all_eq_true, decide_eq_true_eq] at q
              have := q.1.2 x (by rw [hx, List.getD_eq_getElem?_getD, List.getElem?_eq_getElem (by rw [hok.knows.1]; exact hi6)]; exact List.getElem_mem _)
              omega
          have HFF := Lib.hid hF
          have HALL := Lib.hid hall
          clear hF hx hall
          go_wp2_with (first
      | ((with_reducible refine at_d 54 ?_); go_loud (refine wl_index1 rfl rfl Tryd.underlying32 sc12 rfl rfl hi6 HX.out (hk := ?_)))
      | ((with_reducible refine at_d 56 ?_); go_loud (refine wl_cmp (p := (x : Int)) (q := 1048576) (r := true) (by simp [cmpI] <;> omega) rfl rfl rfl rfl rfl (hk := ?_))))
          go_ret
          exact ⟨_, rfl, by rw [HFF.out]; rfl, hst.none⟩
        · have HALL : Hid (∀ j, j < i + 1 → H.knows.getD j 0 ≤ 1048576) := by
            show ∀ j, _
            intro j hj
            by_cases c : j < i
            · exact hall j c
            · obtain rfl : j = i := by omega
              omega
          clear hx hall
          go_wp2_with (first
      | ((with_reducible refine at_d 54 ?_); go_loud (refine wl_index1 rfl rfl Tryd.underlying32 sc12 rfl rfl hi6 HX.out (hk := ?_)))
      | ((with_reducible refine at_d 56 ?_); go_loud (refine wl_cmp (p := (x : Int)) (q := 1048576) (r := false) (by simp [cmpI] <;> omega) rfl rfl rfl rfl rfl (hk := ?_))))
          go_round
          case rel => exact ⟨i + 1, by omega, by go_num, HALL.out⟩
          case measure => simp [intOf]; omega
      · obtain rfl : i = 6 := by omega
        have hk6 : H.knows.all (fun k => decide (k ≤ 1048576)) = true := by
          rw [List.all_eq_true]
          intro x hx
          obtain ⟨j, hj, rfl⟩ := List.mem_iff_getElem.1 hx
          have := hall j (by rw [hok.knows.1] at hj; exact hj)
          rw [List.getD_eq_getElem?_getD, List.getElem?_eq_getElem hj] at this
          simpa using this
        have hP : placed H = (decide (1 < H.seq) || decide (H.prev = zeros 32)) := by
          unfold placed
          rw [hk6, hkn, decide_eq_true (show 1 ≤ H.writer by omega), decide_eq_true (show H.writer ≤ 6 by omega), decide_eq_true (show 1 ≤ H.seq by omega), decide_eq_true (show H.seq ≤ 1048576 by omega), decide_eq_true (show 0 ≤ H.epoch by omega), decide_eq_true (show H.epoch ≤ 255 by omega), decide_eq_true (show H.time ≤ 1099511627776 by omega), decide_eq_true c7]
          rfl
        have HP := Lib.hid hP
        clear hP hk6 hall hkn
        by_cases h1 : 1 < H.seq
        · rw [decide_eq_true h1] at HP
          go_wp2_with (first
      | go_skip
      | ((with_reducible refine at_d 58 ?_); go_loud (refine wl_fld (r := 1) fld34_1 rfl rfl rfl rfl (hk := ?_)))
      | ((with_reducible refine at_d 59 ?_); go_loud (refine wl_load1v rfl rfl rfl (hs := sc26) (hk := ?_)))
      | ((with_reducible refine at_d 60 ?_); go_loud (refine wl_cmp (p := (H.seq : Int)) (q := 1) (r := true) (by simp [cmpI] <;> omega) rfl rfl rfl rfl rfl (hk := ?_)))
      | ((with_reducible refine at_d 62 ?_); (refine wl_fld (r := 2) fld34_2 rfl rfl rfl rfl (hk := ?_)))
      | ((with_reducible refine at_d 63 ?_); (refine wl_loadP rfl rfl rfl (hs := agg28) (hv := (by first | exact hF_prev _ _ | exact hF_item _ _ | exact hF_knows _ _ | exact hF_sum _ _ | exact hF_code _ _)) (hk := ?_)))
      | ((with_reducible refine at_d 64 ?_); (refine wl_build0 Tryd.underlying28 zer28 sc5.size (zeros_b _) rfl rfl (hk := ?_))))
          go_ret
          exact ⟨_, rfl, by rw [HP.out]; rfl, hst.none⟩
        · rw [decide_eq_false h1] at HP
          go_wp2_with (first
      | go_skip
      | ((with_reducible refine at_d 58 ?_); go_loud (refine wl_fld (r := 1) fld34_1 rfl rfl rfl rfl (hk := ?_)))
      | ((with_reducible refine at_d 59 ?_); go_loud (refine wl_load1v rfl rfl rfl (hs := sc26) (hk := ?_)))
      | ((with_reducible refine at_d 60 ?_); go_loud (refine wl_cmp (p := (H.seq : Int)) (q := 1) (r := false) (by simp [cmpI] <;> omega) rfl rfl rfl rfl rfl (hk := ?_)))
      | ((with_reducible refine at_d 62 ?_); (refine wl_fld (r := 2) fld34_2 rfl rfl rfl rfl (hk := ?_)))
      | ((with_reducible refine at_d 63 ?_); (refine wl_loadP rfl rfl rfl (hs := agg28) (hv := (by first | exact hF_prev _ _ | exact hF_item _ _ | exact hF_knows _ _ | exact hF_sum _ _ | exact hF_code _ _)) (hk := ?_)))
      | ((with_reducible refine at_d 64 ?_); (refine wl_build0 Tryd.underlying28 zer28 sc5.size (zeros_b _) rfl rfl (hk := ?_)))
      | ((with_reducible refine at_d 65 ?_); (refine wl_eqB rfl rfl eqb28 rfl rfl hok.prev.1 (zeros_len 32) hok.prev.2 (zeros_lt 32) rfl (hk := ?_))))
          go_ret
          exact ⟨_, rfl, by rw [HP.out]; rfl, hst.none⟩
  · have hF : placed H = false := by
      cases q : placed H with
      | false => rfl
      | true => simp only [placed, Bool.and_eq_true, decide_eq_true_eq] at q; omega
    have HFF := Lib.hid hF
    clear hF hkn
    refine rg_start (St w [] [(b1, blk 125 (hF H tok) 34)]) mixed (hst.drew) ?_
    refine rg_take [0, 1, 2, 3, 4, 5, 6, 7, 8, 9, 10, 11, 12, 13, 14, 15, 16, 17, 18, 19, 20, 21, 22, 23, 24, 25, 26, 27, 28, 29, 30, 31, 32, 33, 34, 35, 36, 37, 38, 39, 40, 41, 42, 43, 44] 0 _ rfl (by kernel_rfl) (by kernel_rfl) rfl (cls_st _ _ _) (fun _ _ _ _ _ h => h) ?_
    refine tk_fld (r := 0) fld34_0 rfl rfl rfl rfl rfl (hk := ?_)
    refine tk_load1 rfl rfl (by rfl) rfl (hs := sc3) (hk := ?_)
    refine tk_cmp (p := H.writer) (q := 1) (by first | exact decide_eq_true (by omega) | exact decide_eq_false (by omega)) rfl rfl rfl rfl rfl rfl (hk := ?_)
    refine tk_wp (hk := ?_)
    first | (refine tk_skip rfl (by rfl) (hk := ?_)) | (refine tk_fld (r := 0) fld34_0 rfl rfl rfl rfl rfl (hk := ?_))
    first | (refine tk_skip rfl (by rfl) (hk := ?_)) | (refine tk_load1 rfl rfl (by rfl) rfl (hs := sc3) (hk := ?_))
    first | (refine tk_skip rfl (by rfl) (hk := ?_)) | (refine tk_cmp (p := H.writer) (q := 6) (by first | exact decide_eq_true (by omega) | exact decide_eq_false (by omega)) rfl rfl rfl rfl rfl rfl (hk := ?_))
    refine tk_wp (hk := ?_)
    refine tk_wp (hk := ?_)
    first | (refine tk_skip rfl (by rfl) (hk := ?_)) | (refine tk_fld (r := 1) fld34_1 rfl rfl rfl rfl rfl (hk := ?_))
    first | (refine tk_skip rfl (by rfl) (hk := ?_)) | (refine tk_load1 rfl rfl (by rfl) rfl (hs := sc26) (hk := ?_))
    first | (refine tk_skip rfl (by rfl) (hk := ?_)) | (refine tk_cmp (p := (H.seq : Int)) (q := 1) (by first | exact decide_eq_true (by omega) | exact decide_eq_false (by omega)) rfl rfl rfl rfl rfl rfl (hk := ?_))
    refine tk_wp (hk := ?_)
    refine tk_wp (hk := ?_)
    first | (refine tk_skip rfl (by rfl) (hk := ?_)) | (refine tk_fld (r := 1) fld34_1 rfl rfl rfl rfl rfl (hk := ?_))
    first | (refine tk_skip rfl (by rfl) (hk := ?_)) | (refine tk_load1 rfl rfl (by rfl) rfl (hs := sc26) (hk := ?_))
    first | (refine tk_skip rfl (by rfl) (hk := ?_)) | (refine tk_cmp (p := (H.seq : Int)) (q := 1048576) (by first | exact decide_eq_true (by omega) | exact decide_eq_false (by omega)) rfl rfl rfl rfl rfl rfl (hk := ?_))
    refine tk_wp (hk := ?_)
    refine tk_wp (hk := ?_)
    first | (refine tk_skip rfl (by rfl) (hk := ?_)) | (refine tk_fld (r := 34) fld34_3 rfl rfl rfl rfl rfl (hk := ?_))
    first | (refine tk_skip rfl (by rfl) (hk := ?_)) | (refine tk_load1 rfl rfl (by rfl) rfl (hs := sc3) (hk := ?_))
    first | (refine tk_skip rfl (by rfl) (hk := ?_)) | (refine tk_cmp (p := H.epoch) (q := 0) (by first | exact decide_eq_true (by omega) | exact decide_eq_false (by omega)) rfl rfl rfl rfl rfl rfl (hk := ?_))
    refine tk_wp (hk := ?_)
    refine tk_wp (hk := ?_)
    first | (refine tk_skip rfl (by rfl) (hk := ?_)) | (refine tk_fld (r := 34) fld34_3 rfl rfl rfl rfl rfl (hk := ?_))
    first | (refine tk_skip rfl (by rfl) (hk := ?_)) | (refine tk_load1 rfl rfl (by rfl) rfl (hs := sc3) (hk := ?_))
    first | (refine tk_skip rfl (by rfl) (hk := ?_)) | (refine tk_cmp (p := H.epoch) (q := 255) (by first | exact decide_eq_true (by omega) | exact decide_eq_false (by omega)) rfl rfl rfl rfl rfl rfl (hk := ?_))
    refine tk_wp (hk := ?_)
    refine tk_wp (hk := ?_)
    first | (refine tk_skip rfl (by rfl) (hk := ?_)) | (refine tk_fld (r := 36) fld34_5 rfl rfl rfl rfl rfl (hk := ?_))
    first | (refine tk_skip rfl (by rfl) (hk := ?_)) | (refine tk_load1 rfl rfl (by rfl) rfl (hs := sc26) (hk := ?_))
    first | (refine tk_skip rfl (by rfl) (hk := ?_)) | (refine tk_cmp (p := (H.time : Int)) (q := 1099511627776) (by first | exact decide_eq_true (by omega) | exact decide_eq_false (by omega)) rfl rfl rfl rfl rfl rfl (hk := ?_))
    refine tk_wp (hk := ?_)
    refine tk_wp (hk := ?_)
    first | (refine tk_skip rfl (by rfl) (hk := ?_)) | (refine tk_fld (r := 0) fld34_0 rfl rfl rfl rfl rfl (hk := ?_))
    first | (refine tk_skip rfl (by rfl) (hk := ?_)) | (refine tk_load1 rfl rfl (by rfl) rfl (hs := sc3) (hk := ?_))
    first | (refine tk_skip rfl (by rfl) (hk := ?_)) | (refine tk_ari (p := H.writer) (q := 1) (r := (n : Int)) (k := .i64) (by simp only [ariI] <;> omega) (by show _ ∧ _; omega) rfl rfl rfl rfl rfl rfl (hk := ?_))
    first | (refine tk_skip rfl (by rfl) (hk := ?_)) | (refine tk_fld (r := 54) fld34_8 rfl rfl rfl rfl rfl (hk := ?_))
    first | (refine tk_skip rfl (by rfl) (hk := ?_)) | (refine tk_idxA (i := n) Tryd.underlying32 sc12.size hn6 rfl rfl rfl rfl rfl (hk := ?_))
    first | (refine tk_skip rfl (by rfl) (hk := ?_)) | (refine tk_load1 rfl rfl (by rfl) rfl (fun w hst => (by first | exact St.hasb hst (by repeat (first | exact Pick.head | apply Pick.tail)) | exact St.hasOld hst (by assumption) (by simp) | assumption)) HK.out (by omega) sc12 (hk := ?_))
    first | (refine tk_skip rfl (by rfl) (hk := ?_)) | (refine tk_fld (r := 1) fld34_1 rfl rfl rfl rfl rfl (hk := ?_))
    first | (refine tk_skip rfl (by rfl) (hk := ?_)) | (refine tk_load1 rfl rfl (by rfl) rfl (hs := sc26) (hk := ?_))
    first | (refine tk_skip rfl (by rfl) (hk := ?_)) | (refine tk_ari (p := (H.seq : Int)) (q := 1) (r := ((H.seq : Int) - 1)) (k := .u64) (by simp only [ariI] <;> omega) (by show _ ∧ _; omega) rfl rfl rfl rfl rfl rfl (hk := ?_))
    first | (refine tk_skip rfl (by rfl) (hk := ?_)) | (refine tk_cmp (p := (k : Int)) (q := (H.seq : Int) - 1) (by first | exact decide_eq_true (by omega) | exact decide_eq_false (by omega)) rfl rfl rfl rfl rfl rfl (hk := ?_))
    refine tk_wp (hk := ?_)
    refine tk_nil ?_
    refine rg_done (by kernel_rfl) (fun w1 hst1 => ?_) _
    clear hst; have hst := hst1; clear hst1
    go_wp2_with (fail)
    go_ret
    exact ⟨_, rfl, by rw [HFF.out]; rfl, hst.none⟩
end Go.Proofs.YthbobmpeaemdnaaDoor
