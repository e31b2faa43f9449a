/- The walk of jalousieref12.Formed, up to where it looks at the sizes. -/
import Derived.Test.YthbobmpeaemdnaaDoorHd3
import Derived.Test.YthbobmpeaemdnaaDoorR2
namespace Go.Proofs.YthbobmpeaemdnaaDoor
open Go.RowKit Go.Jal

/-- the first eight questions are answered well -/
def Good (H : Hdr) : Prop := ¬ (H.writer < 1) ∧ ¬ (6 < H.writer) ∧ ¬ ((H.seq : Int) < 1) ∧ ¬ (1048576 < (H.seq : Int)) ∧ ¬ (H.epoch < 0) ∧ ¬ (255 < H.epoch) ∧ ¬ (1099511627776 < (H.time : Int)) ∧ ¬ (8 < (H.toks.length : Int))
set_option maxRecDepth 100000 in
set_option maxHeartbeats 16000000 in
theorem refformed_bad (H : Hdr) (tok : Value) (w : World) (hok : H.Ok) (ht : Toks w tok H.toks) (hbad : Good H → rising H.toks = false) : Ret Tryd.prog 50 #[.agg (row 125 (hF H tok))] w fun v' w' => v' = .bool (formed H) ∧ St w [] [] w' := by
  have hs64 := hok.seq
  have ht64 := hok.time
  have hw64 := hok.writer
  have he64 := hok.epoch
  have hz64 := hok.size
  obtain ⟨ad, cap, rfl, hcap, hcm, _⟩ := id ht
  unfold maxLen at hcm
  have HT : Hid (∀ w', St w [] [] w' → Toks w' (.slice ad H.toks.length cap) H.toks) := by show ∀ _, _; exact fun w' h' => ht.keep h'
  clear ht
  have HBAD := Lib.hid hbad
  clear hbad
  go_enter Tryd.func50, Tryd.ntmps50
  have hst := St.refl w
  by_cases c0 : H.writer < 1
  · have HFF : Hid (formed H = false) := by
      show _ = _
      cases q : formed H with
      | false => rfl
      | true => have := formed_nat q; omega
    go_wp2_with (first
      | go_skip
      | ((with_reducible refine at_d 1 ?_); go_loud (refine wl_box rfl rfl rfl (by first | rfl | exact row_one _) hst ?_; clear hst; intro b1 w1 hb1 hst))
      | ((with_reducible refine at_d 7 ?_); go_loud (refine wl_fld (r := 0) fld34_0 rfl rfl rfl rfl (hk := ?_)))
      | ((with_reducible refine at_d 8 ?_); go_loud (refine wl_load1v rfl rfl rfl (hs := sc3) (hk := ?_)))
      | ((with_reducible refine at_d 9 ?_); go_loud (refine wl_cmp (p := H.writer) (q := 1) (by first | exact decide_eq_true (by omega) | exact decide_eq_false (by omega)) rfl rfl rfl rfl rfl (hk := ?_))))
    go_ret
    exact ⟨_, rfl, by rw [HFF.out]; rfl, hst.none⟩
  by_cases c1 : 6 < H.writer
  · have HFF : Hid (formed H = false) := by
      show _ = _
      cases q : formed H with
      | false => rfl
      | true => have := formed_nat q; omega
    go_wp2_with (first
      | go_skip
      | ((with_reducible refine at_d 1 ?_); go_loud (refine wl_box rfl rfl rfl (by first | rfl | exact row_one _) hst ?_; clear hst; intro b1 w1 hb1 hst))
      | ((with_reducible refine at_d 7 ?_); go_loud (refine wl_fld (r := 0) fld34_0 rfl rfl rfl rfl (hk := ?_)))
      | ((with_reducible refine at_d 8 ?_); go_loud (refine wl_load1v rfl rfl rfl (hs := sc3) (hk := ?_)))
      | ((with_reducible refine at_d 9 ?_); go_loud (refine wl_cmp (p := H.writer) (q := 1) (by first | exact decide_eq_true (by omega) | exact decide_eq_false (by omega)) rfl rfl rfl rfl rfl (hk := ?_)))
      | ((with_reducible refine at_d 11 ?_); (refine wl_fld (r := 0) fld34_0 rfl rfl rfl rfl (hk := ?_)))
      | ((with_reducible refine at_d 12 ?_); (refine wl_load1v rfl rfl rfl (hs := sc3) (hk := ?_)))
      | ((with_reducible refine at_d 13 ?_); (refine wl_cmp (p := H.writer) (q := 6) (by first | exact decide_eq_true (by omega) | exact decide_eq_false (by omega)) rfl rfl rfl rfl rfl (hk := ?_))))
    go_ret
    exact ⟨_, rfl, by rw [HFF.out]; rfl, hst.none⟩
  by_cases c2 : (H.seq : Int) < 1
  · have HFF : Hid (formed H = false) := by
      show _ = _
      cases q : formed H with
      | false => rfl
      | true => have := formed_nat q; omega
    go_wp2_with (first
      | go_skip
      | ((with_reducible refine at_d 1 ?_); go_loud (refine wl_box rfl rfl rfl (by first | rfl | exact row_one _) hst ?_; clear hst; intro b1 w1 hb1 hst))
      | ((with_reducible refine at_d 7 ?_); go_loud (refine wl_fld (r := 0) fld34_0 rfl rfl rfl rfl (hk := ?_)))
      | ((with_reducible refine at_d 8 ?_); go_loud (refine wl_load1v rfl rfl rfl (hs := sc3) (hk := ?_)))
      | ((with_reducible refine at_d 9 ?_); go_loud (refine wl_cmp (p := H.writer) (q := 1) (by first | exact decide_eq_true (by omega) | exact decide_eq_false (by omega)) rfl rfl rfl rfl rfl (hk := ?_)))
      | ((with_reducible refine at_d 11 ?_); (refine wl_fld (r := 0) fld34_0 rfl rfl rfl rfl (hk := ?_)))
      | ((with_reducible refine at_d 12 ?_); (refine wl_load1v rfl rfl rfl (hs := sc3) (hk := ?_)))
      | ((with_reducible refine at_d 13 ?_); (refine wl_cmp (p := H.writer) (q := 6) (by first | exact decide_eq_true (by omega) | exact decide_eq_false (by omega)) rfl rfl rfl rfl rfl (hk := ?_)))
      | ((with_reducible refine at_d 16 ?_); (refine wl_fld (r := 1) fld34_1 rfl rfl rfl rfl (hk := ?_)))
      | ((with_reducible refine at_d 17 ?_); (refine wl_load1v rfl rfl rfl (hs := sc26) (hk := ?_)))
      | ((with_reducible refine at_d 18 ?_); (refine wl_cmp (p := (H.seq : Int)) (q := 1) (by first | exact decide_eq_true (by omega) | exact decide_eq_false (by omega)) rfl rfl rfl rfl rfl (hk := ?_))))
    go_ret
    exact ⟨_, rfl, by rw [HFF.out]; rfl, hst.none⟩
  by_cases c3 : 1048576 < (H.seq : Int)
  · have HFF : Hid (formed H = false) := by
      show _ = _
      cases q : formed H with
      | false => rfl
      | true => have := formed_nat q; omega
    go_wp2_with (first
      | go_skip
      | ((with_reducible refine at_d 1 ?_); go_loud (refine wl_box rfl rfl rfl (by first | rfl | exact row_one _) hst ?_; clear hst; intro b1 w1 hb1 hst))
      | ((with_reducible refine at_d 7 ?_); go_loud (refine wl_fld (r := 0) fld34_0 rfl rfl rfl rfl (hk := ?_)))
      | ((with_reducible refine at_d 8 ?_); go_loud (refine wl_load1v rfl rfl rfl (hs := sc3) (hk := ?_)))
      | ((with_reducible refine at_d 9 ?_); go_loud (refine wl_cmp (p := H.writer) (q := 1) (by first | exact decide_eq_true (by omega) | exact decide_eq_false (by omega)) rfl rfl rfl rfl rfl (hk := ?_)))
      | ((with_reducible refine at_d 11 ?_); (refine wl_fld (r := 0) fld34_0 rfl rfl rfl rfl (hk := ?_)))
      | ((with_reducible refine at_d 12 ?_); (refine wl_load1v rfl rfl rfl (hs := sc3) (hk := ?_)))
      | ((with_reducible refine at_d 13 ?_); (refine wl_cmp (p := H.writer) (q := 6) (by first | exact decide_eq_true (by omega) | exact decide_eq_false (by omega)) rfl rfl rfl rfl rfl (hk := ?_)))
      | ((with_reducible refine at_d 16 ?_); (refine wl_fld (r := 1) fld34_1 rfl rfl rfl rfl (hk := ?_)))
      | ((with_reducible refine at_d 17 ?_); (refine wl_load1v rfl rfl rfl (hs := sc26) (hk := ?_)))
      | ((with_reducible refine at_d 18 ?_); (refine wl_cmp (p := (H.seq : Int)) (q := 1) (by first | exact decide_eq_true (by omega) | exact decide_eq_false (by omega)) rfl rfl rfl rfl rfl (hk := ?_)))
      | ((with_reducible refine at_d 21 ?_); (refine wl_fld (r := 1) fld34_1 rfl rfl rfl rfl (hk := ?_)))
      | ((with_reducible refine at_d 22 ?_); (refine wl_load1v rfl rfl rfl (hs := sc26) (hk := ?_)))
      | ((with_reducible refine at_d 23 ?_); (refine wl_cmp (p := (H.seq : Int)) (q := 1048576) (by first | exact decide_eq_true (by omega) | exact decide_eq_false (by omega)) rfl rfl rfl rfl rfl (hk := ?_))))
    go_ret
    exact ⟨_, rfl, by rw [HFF.out]; rfl, hst.none⟩
  by_cases c4 : H.epoch < 0
  · have HFF : Hid (formed H = false) := by
      show _ = _
      cases q : formed H with
      | false => rfl
      | true => have := formed_nat q; omega
    go_wp2_with (first
      | go_skip
      | ((with_reducible refine at_d 1 ?_); go_loud (refine wl_box rfl rfl rfl (by first | rfl | exact row_one _) hst ?_; clear hst; intro b1 w1 hb1 hst))
      | ((with_reducible refine at_d 7 ?_); go_loud (refine wl_fld (r := 0) fld34_0 rfl rfl rfl rfl (hk := ?_)))
      | ((with_reducible refine at_d 8 ?_); go_loud (refine wl_load1v rfl rfl rfl (hs := sc3) (hk := ?_)))
      | ((with_reducible refine at_d 9 ?_); go_loud (refine wl_cmp (p := H.writer) (q := 1) (by first | exact decide_eq_true (by omega) | exact decide_eq_false (by omega)) rfl rfl rfl rfl rfl (hk := ?_)))
      | ((with_reducible refine at_d 11 ?_); (refine wl_fld (r := 0) fld34_0 rfl rfl rfl rfl (hk := ?_)))
      | ((with_reducible refine at_d 12 ?_); (refine wl_load1v rfl rfl rfl (hs := sc3) (hk := ?_)))
      | ((with_reducible refine at_d 13 ?_); (refine wl_cmp (p := H.writer) (q := 6) (by first | exact decide_eq_true (by omega) | exact decide_eq_false (by omega)) rfl rfl rfl rfl rfl (hk := ?_)))
      | ((with_reducible refine at_d 16 ?_); (refine wl_fld (r := 1) fld34_1 rfl rfl rfl rfl (hk := ?_)))
      | ((with_reducible refine at_d 17 ?_); (refine wl_load1v rfl rfl rfl (hs := sc26) (hk := ?_)))
      | ((with_reducible refine at_d 18 ?_); (refine wl_cmp (p := (H.seq : Int)) (q := 1) (by first | exact decide_eq_true (by omega) | exact decide_eq_false (by omega)) rfl rfl rfl rfl rfl (hk := ?_)))
      | ((with_reducible refine at_d 21 ?_); (refine wl_fld (r := 1) fld34_1 rfl rfl rfl rfl (hk := ?_)))
      | ((with_reducible refine at_d 22 ?_); (refine wl_load1v rfl rfl rfl (hs := sc26) (hk := ?_)))
      | ((with_reducible refine at_d 23 ?_); (refine wl_cmp (p := (H.seq : Int)) (q := 1048576) (by first | exact decide_eq_true (by omega) | exact decide_eq_false (by omega)) rfl rfl rfl rfl rfl (hk := ?_)))
      | ((with_reducible refine at_d 26 ?_); (refine wl_fld (r := 34) fld34_3 rfl rfl rfl rfl (hk := ?_)))
      | ((with_reducible refine at_d 27 ?_); (refine wl_load1v rfl rfl rfl (hs := sc3) (hk := ?_)))
      | ((with_reducible refine at_d 28 ?_); (refine wl_cmp (p := H.epoch) (q := 0) (by first | exact decide_eq_true (by omega) | exact decide_eq_false (by omega)) rfl rfl rfl rfl rfl (hk := ?_))))
    go_ret
    exact ⟨_, rfl, by rw [HFF.out]; rfl, hst.none⟩
  by_cases c5 : 255 < H.epoch
  · have HFF : Hid (formed H = false) := by
      show _ = _
      cases q : formed H with
      | false => rfl
      | true => have := formed_nat q; omega
    go_wp2_with (first
      | go_skip
      | ((with_reducible refine at_d 1 ?_); go_loud (refine wl_box rfl rfl rfl (by first | rfl | exact row_one _) hst ?_; clear hst; intro b1 w1 hb1 hst))
      | ((with_reducible refine at_d 7 ?_); go_loud (refine wl_fld (r := 0) fld34_0 rfl rfl rfl rfl (hk := ?_)))
      | ((with_reducible refine at_d 8 ?_); go_loud (refine wl_load1v rfl rfl rfl (hs := sc3) (hk := ?_)))
      | ((with_reducible refine at_d 9 ?_); go_loud (refine wl_cmp (p := H.writer) (q := 1) (by first | exact decide_eq_true (by omega) | exact decide_eq_false (by omega)) rfl rfl rfl rfl rfl (hk := ?_)))
      | ((with_reducible refine at_d 11 ?_); (refine wl_fld (r := 0) fld34_0 rfl rfl rfl rfl (hk := ?_)))
      | ((with_reducible refine at_d 12 ?_); (refine wl_load1v rfl rfl rfl (hs := sc3) (hk := ?_)))
      | ((with_reducible refine at_d 13 ?_); (refine wl_cmp (p := H.writer) (q := 6) (by first | exact decide_eq_true (by omega) | exact decide_eq_false (by omega)) rfl rfl rfl rfl rfl (hk := ?_)))
      | ((with_reducible refine at_d 16 ?_); (refine wl_fld (r := 1) fld34_1 rfl rfl rfl rfl (hk := ?_)))
      | ((with_reducible refine at_d 17 ?_); (refine wl_load1v rfl rfl rfl (hs := sc26) (hk := ?_)))
      | ((with_reducible refine at_d 18 ?_); (refine wl_cmp (p := (H.seq : Int)) (q := 1) (by first | exact decide_eq_true (by omega) | exact decide_eq_false (by omega)) rfl rfl rfl rfl rfl (hk := ?_)))
      | ((with_reducible refine at_d 21 ?_); (refine wl_fld (r := 1) fld34_1 rfl rfl rfl rfl (hk := ?_)))
      | ((with_reducible refine at_d 22 ?_); (refine wl_load1v rfl rfl rfl (hs := sc26) (hk := ?_)))
      | ((with_reducible refine at_d 23 ?_); (refine wl_cmp (p := (H.seq : Int)) (q := 1048576) (by first | exact decide_eq_true (by omega) | exact decide_eq_false (by omega)) rfl rfl rfl rfl rfl (hk := ?_)))
      | ((with_reducible refine at_d 26 ?_); (refine wl_fld (r := 34) fld34_3 rfl rfl rfl rfl (hk := ?_)))
      | ((with_reducible refine at_d 27 ?_); (refine wl_load1v rfl rfl rfl (hs := sc3) (hk := ?_)))
      | ((with_reducible refine at_d 28 ?_); (refine wl_cmp (p := H.epoch) (q := 0) (by first | exact decide_eq_true (by omega) | exact decide_eq_false (by omega)) rfl rfl rfl rfl rfl (hk := ?_)))
      | ((with_reducible refine at_d 31 ?_); (refine wl_fld (r := 34) fld34_3 rfl rfl rfl rfl (hk := ?_)))
      | ((with_reducible refine at_d 32 ?_); (refine wl_load1v rfl rfl rfl (hs := sc3) (hk := ?_)))
      | ((with_reducible refine at_d 33 ?_); (refine wl_cmp (p := H.epoch) (q := 255) (by first | exact decide_eq_true (by omega) | exact decide_eq_false (by omega)) rfl rfl rfl rfl rfl (hk := ?_))))
    go_ret
    exact ⟨_, rfl, by rw [HFF.out]; rfl, hst.none⟩
  by_cases c6 : 1099511627776 < (H.time : Int)
  · have HFF : Hid (formed H = false) := by
      show _ = _
      cases q : formed H with
      | false => rfl
      | true => have := formed_nat q; omega
    go_wp2_with (first
      | go_skip
      | ((with_reducible refine at_d 1 ?_); go_loud (refine wl_box rfl rfl rfl (by first | rfl | exact row_one _) hst ?_; clear hst; intro b1 w1 hb1 hst))
      | ((with_reducible refine at_d 7 ?_); go_loud (refine wl_fld (r := 0) fld34_0 rfl rfl rfl rfl (hk := ?_)))
      | ((with_reducible refine at_d 8 ?_); go_loud (refine wl_load1v rfl rfl rfl (hs := sc3) (hk := ?_)))
      | ((with_reducible refine at_d 9 ?_); go_loud (refine wl_cmp (p := H.writer) (q := 1) (by first | exact decide_eq_true (by omega) | exact decide_eq_false (by omega)) rfl rfl rfl rfl rfl (hk := ?_)))
      | ((with_reducible refine at_d 11 ?_); (refine wl_fld (r := 0) fld34_0 rfl rfl rfl rfl (hk := ?_)))
      | ((with_reducible refine at_d 12 ?_); (refine wl_load1v rfl rfl rfl (hs := sc3) (hk := ?_)))
      | ((with_reducible refine at_d 13 ?_); (refine wl_cmp (p := H.writer) (q := 6) (by first | exact decide_eq_true (by omega) | exact decide_eq_false (by omega)) rfl rfl rfl rfl rfl (hk := ?_)))
      | ((with_reducible refine at_d 16 ?_); (refine wl_fld (r := 1) fld34_1 rfl rfl rfl rfl (hk := ?_)))
      | ((with_reducible refine at_d 17 ?_); (refine wl_load1v rfl rfl rfl (hs := sc26) (hk := ?_)))
      | ((with_reducible refine at_d 18 ?_); (refine wl_cmp (p := (H.seq : Int)) (q := 1) (by first | exact decide_eq_true (by omega) | exact decide_eq_false (by omega)) rfl rfl rfl rfl rfl (hk := ?_)))
      | ((with_reducible refine at_d 21 ?_); (refine wl_fld (r := 1) fld34_1 rfl rfl rfl rfl (hk := ?_)))
      | ((with_reducible refine at_d 22 ?_); (refine wl_load1v rfl rfl rfl (hs := sc26) (hk := ?_)))
      | ((with_reducible refine at_d 23 ?_); (refine wl_cmp (p := (H.seq : Int)) (q := 1048576) (by first | exact decide_eq_true (by omega) | exact decide_eq_false (by omega)) rfl rfl rfl rfl rfl (hk := ?_)))
      | ((with_reducible refine at_d 26 ?_); (refine wl_fld (r := 34) fld34_3 rfl rfl rfl rfl (hk := ?_)))
      | ((with_reducible refine at_d 27 ?_); (refine wl_load1v rfl rfl rfl (hs := sc3) (hk := ?_)))
      | ((with_reducible refine at_d 28 ?_); (refine wl_cmp (p := H.epoch) (q := 0) (by first | exact decide_eq_true (by omega) | exact decide_eq_false (by omega)) rfl rfl rfl rfl rfl (hk := ?_)))
      | ((with_reducible refine at_d 31 ?_); (refine wl_fld (r := 34) fld34_3 rfl rfl rfl rfl (hk := ?_)))
      | ((with_reducible refine at_d 32 ?_); (refine wl_load1v rfl rfl rfl (hs := sc3) (hk := ?_)))
      | ((with_reducible refine at_d 33 ?_); (refine wl_cmp (p := H.epoch) (q := 255) (by first | exact decide_eq_true (by omega) | exact decide_eq_false (by omega)) rfl rfl rfl rfl rfl (hk := ?_)))
      | ((with_reducible refine at_d 36 ?_); (refine wl_fld (r := 36) fld34_5 rfl rfl rfl rfl (hk := ?_)))
      | ((with_reducible refine at_d 37 ?_); (refine wl_load1v rfl rfl rfl (hs := sc26) (hk := ?_)))
      | ((with_reducible refine at_d 38 ?_); (refine wl_cmp (p := (H.time : Int)) (q := 1099511627776) (by first | exact decide_eq_true (by omega) | exact decide_eq_false (by omega)) rfl rfl rfl rfl rfl (hk := ?_))))
    go_ret
    exact ⟨_, rfl, by rw [HFF.out]; rfl, hst.none⟩
  by_cases c7 : 8 < (H.toks.length : Int)
  · have HFF : Hid (formed H = false) := by
      show _ = _
      cases q : formed H with
      | false => rfl
      | true => have := formed_nat q; omega
    go_wp2_with (first
      | go_skip
      | ((with_reducible refine at_d 1 ?_); go_loud (refine wl_box rfl rfl rfl (by first | rfl | exact row_one _) hst ?_; clear hst; intro b1 w1 hb1 hst))
      | ((with_reducible refine at_d 7 ?_); go_loud (refine wl_fld (r := 0) fld34_0 rfl rfl rfl rfl (hk := ?_)))
      | ((with_reducible refine at_d 8 ?_); go_loud (refine wl_load1v rfl rfl rfl (hs := sc3) (hk := ?_)))
      | ((with_reducible refine at_d 9 ?_); go_loud (refine wl_cmp (p := H.writer) (q := 1) (by first | exact decide_eq_true (by omega) | exact decide_eq_false (by omega)) rfl rfl rfl rfl rfl (hk := ?_)))
      | ((with_reducible refine at_d 11 ?_); (refine wl_fld (r := 0) fld34_0 rfl rfl rfl rfl (hk := ?_)))
      | ((with_reducible refine at_d 12 ?_); (refine wl_load1v rfl rfl rfl (hs := sc3) (hk := ?_)))
      | ((with_reducible refine at_d 13 ?_); (refine wl_cmp (p := H.writer) (q := 6) (by first | exact decide_eq_true (by omega) | exact decide_eq_false (by omega)) rfl rfl rfl rfl rfl (hk := ?_)))
      | ((with_reducible refine at_d 16 ?_); (refine wl_fld (r := 1) fld34_1 rfl rfl rfl rfl (hk := ?_)))
      | ((with_reducible refine at_d 17 ?_); (refine wl_load1v rfl rfl rfl (hs := sc26) (hk := ?_)))
      | ((with_reducible refine at_d 18 ?_); (refine wl_cmp (p := (H.seq : Int)) (q := 1) (by first | exact decide_eq_true (by omega) | exact decide_eq_false (by omega)) rfl rfl rfl rfl rfl (hk := ?_)))
      | ((with_reducible refine at_d 21 ?_); (refine wl_fld (r := 1) fld34_1 rfl rfl rfl rfl (hk := ?_)))
      | ((with_reducible refine at_d 22 ?_); (refine wl_load1v rfl rfl rfl (hs := sc26) (hk := ?_)))
      | ((with_reducible refine at_d 23 ?_); (refine wl_cmp (p := (H.seq : Int)) (q := 1048576) (by first | exact decide_eq_true (by omega) | exact decide_eq_false (by omega)) rfl rfl rfl rfl rfl (hk := ?_)))
      | ((with_reducible refine at_d 26 ?_); (refine wl_fld (r := 34) fld34_3 rfl rfl rfl rfl (hk := ?_)))
      | ((with_reducible refine at_d 27 ?_); (refine wl_load1v rfl rfl rfl (hs := sc3) (hk := ?_)))
      | ((with_reducible refine at_d 28 ?_); (refine wl_cmp (p := H.epoch) (q := 0) (by first | exact decide_eq_true (by omega) | exact decide_eq_false (by omega)) rfl rfl rfl rfl rfl (hk := ?_)))
      | ((with_reducible refine at_d 31 ?_); (refine wl_fld (r := 34) fld34_3 rfl rfl rfl rfl (hk := ?_)))
      | ((with_reducible refine at_d 32 ?_); (refine wl_load1v rfl rfl rfl (hs := sc3) (hk := ?_)))
      | ((with_reducible refine at_d 33 ?_); (refine wl_cmp (p := H.epoch) (q := 255) (by first | exact decide_eq_true (by omega) | exact decide_eq_false (by omega)) rfl rfl rfl rfl rfl (hk := ?_)))
      | ((with_reducible refine at_d 36 ?_); (refine wl_fld (r := 36) fld34_5 rfl rfl rfl rfl (hk := ?_)))
      | ((with_reducible refine at_d 37 ?_); (refine wl_load1v rfl rfl rfl (hs := sc26) (hk := ?_)))
      | ((with_reducible refine at_d 38 ?_); (refine wl_cmp (p := (H.time : Int)) (q := 1099511627776) (by first | exact decide_eq_true (by omega) | exact decide_eq_false (by omega)) rfl rfl rfl rfl rfl (hk := ?_)))
      | ((with_reducible refine at_d 41 ?_); (refine wl_fld (r := 53) fld34_7 rfl rfl rfl rfl (hk := ?_)))
      | ((with_reducible refine at_d 42 ?_); (refine wl_load1v rfl rfl rfl (hs := sc31) (hk := ?_)))
      | ((with_reducible refine at_d 44 ?_); (refine wl_cmp (p := (H.toks.length : Int)) (q := 8) (by first | exact decide_eq_true (by omega) | exact decide_eq_false (by omega)) rfl rfl rfl rfl rfl (hk := ?_))))
    go_ret
    exact ⟨_, rfl, by rw [HFF.out]; rfl, hst.none⟩
  have hr : rising H.toks = false := HBAD.out ⟨c0, c1, c2, c3, c4, c5, c6, c7⟩
  have HRI := Lib.hid hr
  have HFF : Hid (formed H = false) := by show _ = _; unfold formed; rw [hr]; simp
  clear hr
  go_wp2_with (first
      | go_skip
      | ((with_reducible refine at_d 1 ?_); go_loud (refine wl_box rfl rfl rfl (by first | rfl | exact row_one _) hst ?_; clear hst; intro b1 w1 hb1 hst))
      | ((with_reducible refine at_d 7 ?_); go_loud (refine wl_fld (r := 0) fld34_0 rfl rfl rfl rfl (hk := ?_)))
      | ((with_reducible refine at_d 8 ?_); go_loud (refine wl_load1v rfl rfl rfl (hs := sc3) (hk := ?_)))
      | ((with_reducible refine at_d 9 ?_); go_loud (refine wl_cmp (p := H.writer) (q := 1) (by first | exact decide_eq_true (by omega) | exact decide_eq_false (by omega)) rfl rfl rfl rfl rfl (hk := ?_)))
      | ((with_reducible refine at_d 11 ?_); (refine wl_fld (r := 0) fld34_0 rfl rfl rfl rfl (hk := ?_)))
      | ((with_reducible refine at_d 12 ?_); (refine wl_load1v rfl rfl rfl (hs := sc3) (hk := ?_)))
      | ((with_reducible refine at_d 13 ?_); (refine wl_cmp (p := H.writer) (q := 6) (by first | exact decide_eq_true (by omega) | exact decide_eq_false (by omega)) rfl rfl rfl rfl rfl (hk := ?_)))
      | ((with_reducible refine at_d 16 ?_); (refine wl_fld (r := 1) fld34_1 rfl rfl rfl rfl (hk := ?_)))
      | ((with_reducible refine at_d 17 ?_); (refine wl_load1v rfl rfl rfl (hs := sc26) (hk := ?_)))
      | ((with_reducible refine at_d 18 ?_); (refine wl_cmp (p := (H.seq : Int)) (q := 1) (by first | exact decide_eq_true (by omega) | exact decide_eq_false (by omega)) rfl rfl rfl rfl rfl (hk := ?_)))
      | ((with_reducible refine at_d 21 ?_); (refine wl_fld (r := 1) fld34_1 rfl rfl rfl rfl (hk := ?_)))
      | ((with_reducible refine at_d 22 ?_); (refine wl_load1v rfl rfl rfl (hs := sc26) (hk := ?_)))
      | ((with_reducible refine at_d 23 ?_); (refine wl_cmp (p := (H.seq : Int)) (q := 1048576) (by first | exact decide_eq_true (by omega) | exact decide_eq_false (by omega)) rfl rfl rfl rfl rfl (hk := ?_)))
      | ((with_reducible refine at_d 26 ?_); (refine wl_fld (r := 34) fld34_3 rfl rfl rfl rfl (hk := ?_)))
      | ((with_reducible refine at_d 27 ?_); (refine wl_load1v rfl rfl rfl (hs := sc3) (hk := ?_)))
      | ((with_reducible refine at_d 28 ?_); (refine wl_cmp (p := H.epoch) (q := 0) (by first | exact decide_eq_true (by omega) | exact decide_eq_false (by omega)) rfl rfl rfl rfl rfl (hk := ?_)))
      | ((with_reducible refine at_d 31 ?_); (refine wl_fld (r := 34) fld34_3 rfl rfl rfl rfl (hk := ?_)))
      | ((with_reducible refine at_d 32 ?_); (refine wl_load1v rfl rfl rfl (hs := sc3) (hk := ?_)))
      | ((with_reducible refine at_d 33 ?_); (refine wl_cmp (p := H.epoch) (q := 255) (by first | exact decide_eq_true (by omega) | exact decide_eq_false (by omega)) rfl rfl rfl rfl rfl (hk := ?_)))
      | ((with_reducible refine at_d 36 ?_); (refine wl_fld (r := 36) fld34_5 rfl rfl rfl rfl (hk := ?_)))
      | ((with_reducible refine at_d 37 ?_); (refine wl_load1v rfl rfl rfl (hs := sc26) (hk := ?_)))
      | ((with_reducible refine at_d 38 ?_); (refine wl_cmp (p := (H.time : Int)) (q := 1099511627776) (by first | exact decide_eq_true (by omega) | exact decide_eq_false (by omega)) rfl rfl rfl rfl rfl (hk := ?_)))
      | ((with_reducible refine at_d 41 ?_); (refine wl_fld (r := 53) fld34_7 rfl rfl rfl rfl (hk := ?_)))
      | ((with_reducible refine at_d 42 ?_); (refine wl_load1v rfl rfl rfl (hs := sc31) (hk := ?_)))
      | ((with_reducible refine at_d 44 ?_); (refine wl_cmp (p := (H.toks.length : Int)) (q := 8) (by first | exact decide_eq_true (by omega) | exact decide_eq_false (by omega)) rfl rfl rfl rfl rfl (hk := ?_)))
      | ((with_reducible refine at_d 47 ?_); (refine wl_fld (r := 53) fld34_7 rfl rfl rfl rfl (hk := ?_)))
      | ((with_reducible refine at_d 48 ?_); (refine wl_load1v rfl rfl rfl (hs := sc31) (hk := ?_)))
      | ((with_reducible refine at_d 49 ?_); (refine wl_call pl73 rfl rfl rfl (refsorted_any _ H.toks _ (HT.out _ hst.none)) ?_; rintro v49 w49 ⟨rfl, hst49⟩; replace hst := hst.call hst49; clear hst49; rw [HRI.out])))
  go_ret
  exact ⟨_, rfl, by rw [HFF.out]; rfl, hst.none⟩
end Go.Proofs.YthbobmpeaemdnaaDoor
