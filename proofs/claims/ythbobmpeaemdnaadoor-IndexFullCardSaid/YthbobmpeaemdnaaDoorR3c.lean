/- The walk of jalousieref12.Formed, part c. -/
import Derived.Test.YthbobmpeaemdnaaDoorR3p
namespace Go.Proofs.YthbobmpeaemdnaaDoor
open Go.RowKit Go.Jal

set_option maxRecDepth 100000 in
set_option maxHeartbeats 16000000 in
theorem refformed_part_c (H : Hdr) (tok : Value) (w : World) (hok : H.Ok) (ht : Toks w tok H.toks) (hc : Good H) (hr : rising H.toks = true) (hpart : ¬ H.size < 80 ∧ ¬ 2064 < H.size ∧ isBucket (H.size - 16) = true) : Ret Tryd.prog 50 #[.agg (row 125 (hF H tok))] w fun v' w' => v' = .bool (formed H) ∧ St w [] [] w' := by
  have hs64 := hok.seq
  have ht64 := hok.time
  have hw64 := hok.writer
  have he64 := hok.epoch
  have hz64 := hok.size
  obtain ⟨ad, cap, rfl, hcap, hcm, _⟩ := id ht
  unfold maxLen at hcm
  have HT : Hid (∀ w', St w [] [] w' → Toks w' (.slice ad H.toks.length cap) H.toks) := by show ∀ _, _; exact fun w' h' => ht.keep h'
  clear ht
  go_enter Tryd.func50, Tryd.ntmps50
  have hst := St.refl w
  obtain ⟨c0, c1, c2, c3, c4, c5, c6, c7⟩ := hc
  have HRI := Lib.hid hr
  have HR := Lib.hid hr
  clear hr
  go_wp2_with (first
      | go_skip
      | ((with_reducible refine at_d 1 ?_); go_loud (refine wl_box rfl rfl rfl (by first | rfl | exact row_one _) hst ?_; clear hst; intro b1 w1 hb1 hst))
      | ((with_reducible refine at_d 7 ?_); go_loud (refine wl_fld (r := 0) fld34_0 rfl rfl rfl rfl (hk := ?_)))
      | ((with_reducible refine at_d 8 ?_); go_loud (refine wl_load1v rfl rfl rfl (hs := sc3) (hk := ?_)))
      | ((with_reducible refine at_d 9 ?_); go_loud (refine wl_cmp (p := H.writer) (q := 1) (by first | exact decide_eq_true (by omega) | exact decide_eq_false (by omega)) rfl rfl rfl rfl rfl (hk := ?_)))
      | ((with_reducible refine at_d 11 ?_); (refine wl_fld (r := 0) fld34_0 rfl rfl rfl rfl (hk := ?_)))
      | ((with_reducible refine at_d 12 ?_); (refine wl_load1v rfl rfl rfl (hs := sc3) (hk := ?_)))
      | ((with_reducible refine at_d 13 ?_); (refine wl_cmp (p := H.writer) (q := 6) (by first | exact decide_eq_true (by omega) | exact decide_eq_false (by omega)) rfl rfl rfl rfl rfl (hk := ?_)))
      | ((with_reducible refine at_d 16 ?_); (refine wl_fld (r := 1) fld34_1 rfl rfl rfl rfl (hk := ?_)))
      | ((with_reducible refine at_d 17 ?_); (refine wl_load1v rfl rfl rfl (hs := sc26) (hk := ?_)))
      | ((with_reducible refine at_d 18 ?_); (refine wl_cmp (p := (H.seq : Int)) (q := 1) (by first | exact decide_eq_true (by omega) | exact decide_eq_false (by omega)) rfl rfl rfl rfl rfl (hk := ?_)))
      | ((with_reducible refine at_d 21 ?_); (refine wl_fld (r := 1) fld34_1 rfl rfl rfl rfl (hk := ?_)))
      | ((with_reducible refine at_d 22 ?_); (refine wl_load1v rfl rfl rfl (hs := sc26) (hk := ?_)))
      | ((with_reducible refine at_d 23 ?_); (refine wl_cmp (p := (H.seq : Int)) (q := 1048576) (by first | exact decide_eq_true (by omega) | exact decide_eq_false (by omega)) rfl rfl rfl rfl rfl (hk := ?_)))
      | ((with_reducible refine at_d 26 ?_); (refine wl_fld (r := 34) fld34_3 rfl rfl rfl rfl (hk := ?_)))
      | ((with_reducible refine at_d 27 ?_); (refine wl_load1v rfl rfl rfl (hs := sc3) (hk := ?_)))
      | ((with_reducible refine at_d 28 ?_); (refine wl_cmp (p := H.epoch) (q := 0) (by first | exact decide_eq_true (by omega) | exact decide_eq_false (by omega)) rfl rfl rfl rfl rfl (hk := ?_)))
      | ((with_reducible refine at_d 31 ?_); (refine wl_fld (r := 34) fld34_3 rfl rfl rfl rfl (hk := ?_)))
      | ((with_reducible refine at_d 32 ?_); (refine wl_load1v rfl rfl rfl (hs := sc3) (hk := ?_)))
      | ((with_reducible refine at_d 33 ?_); (refine wl_cmp (p := H.epoch) (q := 255) (by first | exact decide_eq_true (by omega) | exact decide_eq_false (by omega)) rfl rfl rfl rfl rfl (hk := ?_)))
      | ((with_reducible refine at_d 36 ?_); (refine wl_fld (r := 36) fld34_5 rfl rfl rfl rfl (hk := ?_)))
      | ((with_reducible refine at_d 37 ?_); (refine wl_load1v rfl rfl rfl (hs := sc26) (hk := ?_)))
      | ((with_reducible refine at_d 38 ?_); (refine wl_cmp (p := (H.time : Int)) (q := 1099511627776) (by first | exact decide_eq_true (by omega) | exact decide_eq_false (by omega)) rfl rfl rfl rfl rfl (hk := ?_)))
      | ((with_reducible refine at_d 41 ?_); (refine wl_fld (r := 53) fld34_7 rfl rfl rfl rfl (hk := ?_)))
      | ((with_reducible refine at_d 42 ?_); (refine wl_load1v rfl rfl rfl (hs := sc31) (hk := ?_)))
      | ((with_reducible refine at_d 44 ?_); (refine wl_cmp (p := (H.toks.length : Int)) (q := 8) (by first | exact decide_eq_true (by omega) | exact decide_eq_false (by omega)) rfl rfl rfl rfl rfl (hk := ?_)))
      | ((with_reducible refine at_d 47 ?_); (refine wl_fld (r := 53) fld34_7 rfl rfl rfl rfl (hk := ?_)))
      | ((with_reducible refine at_d 48 ?_); (refine wl_load1v rfl rfl rfl (hs := sc31) (hk := ?_)))
      | ((with_reducible refine at_d 49 ?_); (refine wl_call pl73 rfl rfl rfl (refsorted_any _ H.toks _ (HT.out _ hst.none)) ?_; rintro v49 w49 ⟨rfl, hst49⟩; replace hst := hst.call hst49; clear hst49; rw [HRI.out])))
  go_loopw [3] (fun i wr => ∃ k : Nat, k ≤ 6 ∧ i = .int .i64 (k : Int) ∧ (∀ j, j < k → H.knows.getD j 0 ≤ 1048576) ∧ St w [] [(b1, blk 125 (hF H (.slice ad H.toks.length cap)) 34)] wr) (fun i _ => 6 - (intOf i).toNat)
  case atStart => exact ⟨0, by omega, rfl, fun j hj => by omega, hst.sub (by simp)⟩
  case round =>
    clear hst
    obtain ⟨i, hi, rfl, hall, hst⟩ := hrel
    by_cases hi6 : i < 6
    · obtain ⟨x, hx⟩ : ∃ x, x = H.knows.getD i 0 := ⟨_, rfl⟩
      have HX : Hid (hF H (.slice ad H.toks.length cap) (54 + 1 * i) = .int .u64 (x : Int)) := by show _ = _; rw [Nat.one_mul, hF_knows H _ i hi6, kF, hx]
      by_cases hbig : 1048576 < x
      · have hF : formed H = false := by
          cases q : formed H with
          | false => rfl
          | true =>
            have := (formed_nat q).2.2.2.2.2.2.2.2.2.2 x (by rw [hx, List.getD_eq_getElem?_getD, List.getElem?_eq_getElem (by rw [hok.knows.1]; exact hi6)]; exact List.getElem_mem _)
            omega
        have HFF := Lib.hid hF
        clear hF hx hall
        go_wp2_with (first
      | ((with_reducible refine at_d 57 ?_); go_loud (refine wl_fld (r := 54) fld34_8 rfl rfl rfl rfl (hk := ?_)))
      | ((with_reducible refine at_d 58 ?_); go_loud (refine wl_idxA (i := i) Tryd.underlying32 sc12.size hi6 rfl rfl rfl rfl (hk := ?_)))
      | ((with_reducible refine at_d 59 ?_); go_loud (refine wl_load1v rfl rfl rfl (by first | exact St.hasb hst (by repeat (first | exact Pick.head | apply Pick.tail)) | exact St.hasOld hst (by assumption) (by simp) | assumption) HX.out (by omega) sc12 (hk := ?_)))
      | ((with_reducible refine at_d 60 ?_); go_loud (refine wl_cmp (p := (x : Int)) (q := 1048576) (r := true) (by simp [cmpI] <;> omega) rfl rfl rfl rfl rfl (hk := ?_))))
        go_ret
        exact ⟨_, rfl, by rw [HFF.out]; rfl, hst.none⟩
      · have HALL : Hid (∀ j, j < i + 1 → H.knows.getD j 0 ≤ 1048576) := by
          show ∀ j, _
          intro j hj
          by_cases c : j < i
          · exact hall j c
          · obtain rfl : j = i := by omega
            omega
        clear hx hall
        go_wp2_with (first
      | ((with_reducible refine at_d 57 ?_); go_loud (refine wl_fld (r := 54) fld34_8 rfl rfl rfl rfl (hk := ?_)))
      | ((with_reducible refine at_d 58 ?_); go_loud (refine wl_idxA (i := i) Tryd.underlying32 sc12.size hi6 rfl rfl rfl rfl (hk := ?_)))
      | ((with_reducible refine at_d 59 ?_); go_loud (refine wl_load1v rfl rfl rfl (by first | exact St.hasb hst (by repeat (first | exact Pick.head | apply Pick.tail)) | exact St.hasOld hst (by assumption) (by simp) | assumption) HX.out (by omega) sc12 (hk := ?_)))
      | ((with_reducible refine at_d 60 ?_); go_loud (refine wl_cmp (p := (x : Int)) (q := 1048576) (r := false) (by simp [cmpI] <;> omega) rfl rfl rfl rfl rfl (hk := ?_))))
        go_roundw
        case rel => exact ⟨i + 1, by omega, by go_num, HALL.out, hst⟩
        case measure => simp [intOf]; omega
    · obtain rfl : i = 6 := by omega
      have hk6 : H.knows.all (fun k => decide (k ≤ 1048576)) = true := by
        rw [List.all_eq_true]
        intro x hx
        obtain ⟨j, hj, rfl⟩ := List.mem_iff_getElem.1 hx
        have := hall j (by rw [hok.knows.1] at hj; exact hj)
        rw [List.getD_eq_getElem?_getD, List.getElem?_eq_getElem hj] at this
        simpa using this
      obtain ⟨n, hn⟩ : ∃ n : Nat, H.writer = (n : Int) + 1 := ⟨(H.writer - 1).toNat, by omega⟩
      have hn6 : n < 6 := by omega
      obtain ⟨k, hk⟩ : ∃ k, k = H.knows.getD n 0 := ⟨_, rfl⟩
      have hkn : H.knows.getD (H.writer.toNat - 1) 0 = k := by rw [hk, show H.writer.toNat - 1 = n by omega]
      have HK : Hid (hF H (.slice ad H.toks.length cap) (54 + 1 * n) = .int .u64 (k : Int)) := by show _ = _; rw [Nat.one_mul, hF_knows H _ n hn6, kF, hk]
      obtain ⟨cc, hcc⟩ : ∃ cc, cc = H.control := ⟨_, rfl⟩
      have HCC : Hid (hF H (.slice ad H.toks.length cap) 35 = .bool cc) := by rw [hcc]; rfl
      have hform : formed H = (decide (k + 1 = H.seq) && (decide (1 < H.seq) || decide (H.prev = zeros 32)) && isBucket (H.size - 16) && (!cc || (decide (H.toks = []) && decide (H.item = zeros 16)))) := by
        unfold formed placed
        rw [hk6, hkn, HR.out, hcc, decide_eq_true (show 1 ≤ H.writer by omega), decide_eq_true (show H.writer ≤ 6 by omega), decide_eq_true (show 1 ≤ H.seq by omega), decide_eq_true (show H.seq ≤ 1048576 by omega), decide_eq_true (show 0 ≤ H.epoch by omega), decide_eq_true (show H.epoch ≤ 255 by omega), decide_eq_true (show H.time ≤ 1099511627776 by omega), decide_eq_true (show H.toks.length ≤ 8 by omega)]
        simp
      clear hk hkn hcc hk6 hall
      go_wp2_with (fail)
      have hlo : ¬ H.size < 80 := by have := hpart.1; omega
      have hhi : ¬ 2064 < H.size := by have := hpart.2.1; omega
      have hb := hpart.2.2
      have hbi : decide (bucketOf (H.size - 17) = H.size - 16) = isBucket (H.size - 16) := bucket_is (by omega) (by omega) (by congr 1; omega)
      have HBK : Hid (decide (bucketOf (H.size - 17) = H.size - 16) = true) := hbi.trans hb
      clear hbi
      refine rg_start (St w [] [(b1, blk 125 (hF H (.slice ad H.toks.length cap)) 34)]) mixed (hst.drew) ?_
      refine rg_take [0, 1, 2, 3, 4, 5, 6, 7, 8, 9, 10, 11, 12, 13, 14, 15, 16, 17, 18] 0 _ rfl (by kernel_rfl) (by kernel_rfl) rfl (cls_st _ _ _) (fun _ _ _ _ _ h => h) ?_
      refine tk_fld (r := 92) fld34_10 rfl rfl rfl rfl rfl (hk := ?_)
      refine tk_load1 rfl rfl (by rfl) rfl (hs := sc3) (hk := ?_)
      refine tk_cmp (p := H.size) (q := 80) (r := true) (by first | exact decide_eq_true (by omega) | exact decide_eq_false (by omega)) rfl rfl rfl rfl rfl rfl (hk := ?_)
      refine tk_wp (hk := ?_)
      first | (refine tk_skip rfl (by rfl) (hk := ?_)) | (refine tk_fld (r := 92) fld34_10 rfl rfl rfl rfl rfl (hk := ?_))
      first | (refine tk_skip rfl (by rfl) (hk := ?_)) | (refine tk_load1 rfl rfl (by rfl) rfl (hs := sc3) (hk := ?_))
      first | (refine tk_skip rfl (by rfl) (hk := ?_)) | (refine tk_cmp (p := H.size) (q := 2064) (r := true) (by first | exact decide_eq_true (by omega) | exact decide_eq_false (by omega)) rfl rfl rfl rfl rfl rfl (hk := ?_))
      refine tk_wp (hk := ?_)
      refine tk_wp (hk := ?_)
      first | (refine tk_skip rfl (by rfl) (hk := ?_)) | (refine tk_fld (r := 92) fld34_10 rfl rfl rfl rfl rfl (hk := ?_))
      first | (refine tk_skip rfl (by rfl) (hk := ?_)) | (refine tk_load1 rfl rfl (by rfl) rfl (hs := sc3) (hk := ?_))
      first | (refine tk_skip rfl (by rfl) (hk := ?_)) | (refine tk_ari (p := H.size) (q := 17) (r := (H.size - 17)) (k := .i64) (by simp only [ariI] <;> omega) (by show _ ∧ _; omega) rfl rfl rfl rfl rfl rfl (hk := ?_))
      first | (refine tk_skip rfl (by rfl) (hk := ?_)) | (refine tk_call pl74 rfl rfl (by rfl) rfl (fun w hst => refbucket_any (H.size - 17) w (by omega) (by omega)) (fun w u w' hR => ⟨hR.1, hR.2.below⟩) (hk := ?_))
      first | (refine tk_skip rfl (by rfl) (hk := ?_)) | (refine tk_fld (r := 92) fld34_10 rfl rfl rfl rfl rfl (hk := ?_))
      first | (refine tk_skip rfl (by rfl) (hk := ?_)) | (refine tk_load1 rfl rfl (by rfl) rfl (hs := sc3) (hk := ?_))
      first | (refine tk_skip rfl (by rfl) (hk := ?_)) | (refine tk_ari (p := H.size) (q := 16) (r := (H.size - 16)) (k := .i64) (by simp only [ariI] <;> omega) (by show _ ∧ _; omega) rfl rfl rfl rfl rfl rfl (hk := ?_))
      first | (refine tk_skip rfl (by rfl) (hk := ?_)) | (refine tk_cmp (p := bucketOf (H.size - 17)) (q := H.size - 16) (r := true) (show cmpI .eql _ _ = _ from HBK.out) rfl rfl rfl rfl rfl rfl (hk := ?_))
      refine tk_wp (hk := ?_)
      refine tk_wp (hk := ?_)
      refine tk_nil ?_
      refine rg_done (by kernel_rfl) (fun w1 hst1 => ?_) _
      clear hst; have hst := hst1; clear hst1
      by_cases hq0 : 1 < H.seq
      · have hq := hq0
        cases cc with
        | false =>
          have HFF : Hid (formed H = decide (k + 1 = H.seq)) := by
            show _ = _
            rw [hform, hb, decide_eq_true hq]
            simp
          clear hform
          go_wp2_with (first
      | go_skip
      | ((with_reducible refine at_d 79 ?_); go_loud (refine wl_fld (r := 1) fld34_1 rfl rfl rfl rfl (hk := ?_)))
      | ((with_reducible refine at_d 80 ?_); go_loud (refine wl_load1v rfl rfl rfl (hs := sc26) (hk := ?_)))
      | ((with_reducible refine at_d 81 ?_); go_loud (refine wl_cmp (p := (H.seq : Int)) (q := 1) (r := true) (by simp [cmpI] <;> omega) rfl rfl rfl rfl rfl (hk := ?_)))
      | ((with_reducible refine at_d 83 ?_); (refine wl_fld (r := 2) fld34_2 rfl rfl rfl rfl (hk := ?_)))
      | ((with_reducible refine at_d 84 ?_); (refine wl_loadP rfl rfl rfl (hs := agg28) (hv := (by first | exact hF_prev _ _ | exact hF_item _ _ | exact hF_knows _ _ | exact hF_sum _ _ | exact hF_code _ _)) (hk := ?_)))
      | ((with_reducible refine at_d 85 ?_); (refine wl_build0 Tryd.underlying28 zer28 sc5.size (zeros_b _) rfl rfl (hk := ?_)))
      | ((with_reducible refine at_d 86 ?_); (refine wl_eqB rfl rfl eqb28 rfl rfl hok.prev.1 (zeros_len 32) hok.prev.2 (zeros_lt 32) rfl (hk := ?_)))
      | ((with_reducible refine at_d 88 ?_); go_loud (refine wl_fld (r := 35) fld34_4 rfl rfl rfl rfl (hk := ?_)))
      | ((with_reducible refine at_d 89 ?_); go_loud (refine wl_load1v rfl rfl rfl (by first | exact St.hasb hst (by repeat (first | exact Pick.head | apply Pick.tail)) | exact St.hasOld hst (by assumption) (by simp) | assumption) HCC.out (by omega) sc4 (hk := ?_)))
      | ((with_reducible refine at_d 92 ?_); (refine wl_fld (r := 53) fld34_7 rfl rfl rfl rfl (hk := ?_)))
      | ((with_reducible refine at_d 93 ?_); (refine wl_load1v rfl rfl rfl (hs := sc31) (hk := ?_)))
      | ((with_reducible refine at_d 95 ?_); (refine wl_cmp (p := (H.toks.length : Int)) (q := 0) (r := true) (by first | exact decide_eq_true (by omega) | exact decide_eq_false (by omega)) rfl rfl rfl rfl rfl (hk := ?_)))
      | ((with_reducible refine at_d 97 ?_); (refine wl_fld (r := 37) fld34_6 rfl rfl rfl rfl (hk := ?_)))
      | ((with_reducible refine at_d 98 ?_); (refine wl_loadP rfl rfl rfl (hs := agg30) (hv := (by first | exact hF_prev _ _ | exact hF_item _ _ | exact hF_knows _ _ | exact hF_sum _ _ | exact hF_code _ _)) (hk := ?_)))
      | ((with_reducible refine at_d 99 ?_); (refine wl_build0 Tryd.underlying30 zer30 sc5.size (zeros_b _) rfl rfl (hk := ?_)))
      | ((with_reducible refine at_d 100 ?_); (refine wl_eqB rfl rfl eqb30 rfl rfl hok.item.1 (zeros_len 16) hok.item.2 (zeros_lt 16) rfl (hk := ?_))))
          refine rg_start (St w [] [(b1, blk 125 (hF H (.slice ad H.toks.length cap)) 34)]) mixed (hst.drew) ?_
          refine rg_take [0, 1, 2, 3, 4, 5, 6, 7, 8, 9, 10, 11, 12, 13, 14, 15, 16, 17, 18, 19] 0 _ rfl (by kernel_rfl) (by kernel_rfl) rfl (cls_st _ _ _) (fun _ _ _ _ _ h => h) ?_
          refine tk_wp (hk := ?_)
          refine tk_wp (hk := ?_)
          first | (refine tk_skip rfl (by rfl) (hk := ?_)) | (refine tk_wp (hk := ?_))
          refine tk_wp (hk := ?_)
          refine tk_wp (hk := ?_)
          first | (refine tk_skip rfl (by rfl) (hk := ?_)) | (refine tk_wp (hk := ?_))
          refine tk_wp (hk := ?_)
          refine tk_wp (hk := ?_)
          first | (refine tk_skip rfl (by rfl) (hk := ?_)) | (refine tk_fld (r := 0) fld34_0 rfl rfl rfl rfl rfl (hk := ?_))
          first | (refine tk_skip rfl (by rfl) (hk := ?_)) | (refine tk_load1 rfl rfl (by rfl) rfl (hs := sc3) (hk := ?_))
          first | (refine tk_skip rfl (by rfl) (hk := ?_)) | (refine tk_ari (p := H.writer) (q := 1) (r := (n : Int)) (k := .i64) (by simp only [ariI] <;> omega) (by show _ ∧ _; omega) rfl rfl rfl rfl rfl rfl (hk := ?_))
          first | (refine tk_skip rfl (by rfl) (hk := ?_)) | (refine tk_fld (r := 54) fld34_8 rfl rfl rfl rfl rfl (hk := ?_))
          first | (refine tk_skip rfl (by rfl) (hk := ?_)) | (refine tk_idxA (i := n) Tryd.underlying32 sc12.size hn6 rfl rfl rfl rfl rfl (hk := ?_))
          first | (refine tk_skip rfl (by rfl) (hk := ?_)) | (refine tk_load1 rfl rfl (by rfl) rfl (fun w hst => (by first | exact St.hasb hst (by repeat (first | exact Pick.head | apply Pick.tail)) | exact St.hasOld hst (by assumption) (by simp) | assumption)) HK.out (by omega) sc12 (hk := ?_))
          first | (refine tk_skip rfl (by rfl) (hk := ?_)) | (refine tk_fld (r := 1) fld34_1 rfl rfl rfl rfl rfl (hk := ?_))
          first | (refine tk_skip rfl (by rfl) (hk := ?_)) | (refine tk_load1 rfl rfl (by rfl) rfl (hs := sc26) (hk := ?_))
          first | (refine tk_skip rfl (by rfl) (hk := ?_)) | (refine tk_ari (p := (H.seq : Int)) (q := 1) (r := ((H.seq : Int) - 1)) (k := .u64) (by simp only [ariI] <;> omega) (by show _ ∧ _; omega) rfl rfl rfl rfl rfl rfl (hk := ?_))
          first | (refine tk_skip rfl (by rfl) (hk := ?_)) | (refine tk_cmp (p := (k : Int)) (q := (H.seq : Int) - 1) (r := decide (k + 1 = H.seq)) (by simp only [cmpI]; exact decide_eq_decide.2 (by omega)) rfl rfl rfl rfl rfl rfl (hk := ?_))
          refine tk_wp (hk := ?_)
          refine tk_wp (hk := ?_)
          refine tk_nil ?_
          refine rg_done (by kernel_rfl) (fun w1 hst1 => ?_) _
          clear hst; have hst := hst1; clear hst1
          go_wp2_with fail
          go_ret
          exact ⟨_, rfl, by rw [HFF.out]; rfl, hst.none⟩
        | true =>
          by_cases ht0 : H.toks = []
          · have hl0 : H.toks.length = 0 := by rw [ht0]; rfl
            by_cases hi : H.item = zeros 16
            · have HI := Lib.hid hi
              have HFF : Hid (formed H = decide (k + 1 = H.seq)) := by
                show _ = _
                rw [hform, hb, decide_eq_true hq, decide_eq_true ht0, decide_eq_true hi]
                simp
              clear hform
              go_wp2_with (first
      | go_skip
      | ((with_reducible refine at_d 79 ?_); go_loud (refine wl_fld (r := 1) fld34_1 rfl rfl rfl rfl (hk := ?_)))
      | ((with_reducible refine at_d 80 ?_); go_loud (refine wl_load1v rfl rfl rfl (hs := sc26) (hk := ?_)))
      | ((with_reducible refine at_d 81 ?_); go_loud (refine wl_cmp (p := (H.seq : Int)) (q := 1) (r := true) (by simp [cmpI] <;> omega) rfl rfl rfl rfl rfl (hk := ?_)))
      | ((with_reducible refine at_d 83 ?_); (refine wl_fld (r := 2) fld34_2 rfl rfl rfl rfl (hk := ?_)))
      | ((with_reducible refine at_d 84 ?_); (refine wl_loadP rfl rfl rfl (hs := agg28) (hv := (by first | exact hF_prev _ _ | exact hF_item _ _ | exact hF_knows _ _ | exact hF_sum _ _ | exact hF_code _ _)) (hk := ?_)))
      | ((with_reducible refine at_d 85 ?_); (refine wl_build0 Tryd.underlying28 zer28 sc5.size (zeros_b _) rfl rfl (hk := ?_)))
      | ((with_reducible refine at_d 86 ?_); (refine wl_eqB rfl rfl eqb28 rfl rfl hok.prev.1 (zeros_len 32) hok.prev.2 (zeros_lt 32) rfl (hk := ?_)))
      | ((with_reducible refine at_d 88 ?_); go_loud (refine wl_fld (r := 35) fld34_4 rfl rfl rfl rfl (hk := ?_)))
      | ((with_reducible refine at_d 89 ?_); go_loud (refine wl_load1v rfl rfl rfl (by first | exact St.hasb hst (by repeat (first | exact Pick.head | apply Pick.tail)) | exact St.hasOld hst (by assumption) (by simp) | assumption) HCC.out (by omega) sc4 (hk := ?_)))
      | ((with_reducible refine at_d 92 ?_); (refine wl_fld (r := 53) fld34_7 rfl rfl rfl rfl (hk := ?_)))
      | ((with_reducible refine at_d 93 ?_); (refine wl_load1v rfl rfl rfl (hs := sc31) (hk := ?_)))
      | ((with_reducible refine at_d 95 ?_); (refine wl_cmp (p := (H.toks.length : Int)) (q := 0) (r := true) (by first | exact decide_eq_true (by omega) | exact decide_eq_false (by omega)) rfl rfl rfl rfl rfl (hk := ?_)))
      | ((with_reducible refine at_d 97 ?_); (refine wl_fld (r := 37) fld34_6 rfl rfl rfl rfl (hk := ?_)))
      | ((with_reducible refine at_d 98 ?_); (refine wl_loadP rfl rfl rfl (hs := agg30) (hv := (by first | exact hF_prev _ _ | exact hF_item _ _ | exact hF_knows _ _ | exact hF_sum _ _ | exact hF_code _ _)) (hk := ?_)))
      | ((with_reducible refine at_d 99 ?_); (refine wl_build0 Tryd.underlying30 zer30 sc5.size (zeros_b _) rfl rfl (hk := ?_)))
      | ((with_reducible refine at_d 100 ?_); (refine wl_eqB rfl rfl eqb30 rfl rfl hok.item.1 (zeros_len 16) hok.item.2 (zeros_lt 16) (decide_eq_true HI.out) (hk := ?_))))
              refine rg_start (St w [] [(b1, blk 125 (hF H (.slice ad H.toks.length cap)) 34)]) mixed (hst.drew) ?_
              refine rg_take [0, 1, 2, 3, 4, 5, 6, 7, 8, 9, 10, 11, 12, 13, 14, 15, 16, 17, 18, 19] 0 _ rfl (by kernel_rfl) (by kernel_rfl) rfl (cls_st _ _ _) (fun _ _ _ _ _ h => h) ?_
              refine tk_wp (hk := ?_)
              refine tk_wp (hk := ?_)
              first | (refine tk_skip rfl (by rfl) (hk := ?_)) | (refine tk_wp (hk := ?_))
              refine tk_wp (hk := ?_)
              refine tk_wp (hk := ?_)
              first | (refine tk_skip rfl (by rfl) (hk := ?_)) | (refine tk_wp (hk := ?_))
              refine tk_wp (hk := ?_)
              refine tk_wp (hk := ?_)
              first | (refine tk_skip rfl (by rfl) (hk := ?_)) | (refine tk_fld (r := 0) fld34_0 rfl rfl rfl rfl rfl (hk := ?_))
              first | (refine tk_skip rfl (by rfl) (hk := ?_)) | (refine tk_load1 rfl rfl (by rfl) rfl (hs := sc3) (hk := ?_))
              first | (refine tk_skip rfl (by rfl) (hk := ?_)) | (refine tk_ari (p := H.writer) (q := 1) (r := (n : Int)) (k := .i64) (by simp only [ariI] <;> omega) (by show _ ∧ _; omega) rfl rfl rfl rfl rfl rfl (hk := ?_))
              first | (refine tk_skip rfl (by rfl) (hk := ?_)) | (refine tk_fld (r := 54) fld34_8 rfl rfl rfl rfl rfl (hk := ?_))
              first | (refine tk_skip rfl (by rfl) (hk := ?_)) | (refine tk_idxA (i := n) Tryd.underlying32 sc12.size hn6 rfl rfl rfl rfl rfl (hk := ?_))
              first | (refine tk_skip rfl (by rfl) (hk := ?_)) | (refine tk_load1 rfl rfl (by rfl) rfl (fun w hst => (by first | exact St.hasb hst (by repeat (first | exact Pick.head | apply Pick.tail)) | exact St.hasOld hst (by assumption) (by simp) | assumption)) HK.out (by omega) sc12 (hk := ?_))
              first | (refine tk_skip rfl (by rfl) (hk := ?_)) | (refine tk_fld (r := 1) fld34_1 rfl rfl rfl rfl rfl (hk := ?_))
              first | (refine tk_skip rfl (by rfl) (hk := ?_)) | (refine tk_load1 rfl rfl (by rfl) rfl (hs := sc26) (hk := ?_))
              first | (refine tk_skip rfl (by rfl) (hk := ?_)) | (refine tk_ari (p := (H.seq : Int)) (q := 1) (r := ((H.seq : Int) - 1)) (k := .u64) (by simp only [ariI] <;> omega) (by show _ ∧ _; omega) rfl rfl rfl rfl rfl rfl (hk := ?_))
              first | (refine tk_skip rfl (by rfl) (hk := ?_)) | (refine tk_cmp (p := (k : Int)) (q := (H.seq : Int) - 1) (r := decide (k + 1 = H.seq)) (by simp only [cmpI]; exact decide_eq_decide.2 (by omega)) rfl rfl rfl rfl rfl rfl (hk := ?_))
              refine tk_wp (hk := ?_)
              refine tk_wp (hk := ?_)
              refine tk_nil ?_
              refine rg_done (by kernel_rfl) (fun w1 hst1 => ?_) _
              clear hst; have hst := hst1; clear hst1
              go_wp2_with fail
              go_ret
              exact ⟨_, rfl, by rw [HFF.out]; rfl, hst.none⟩
            · have HI := Lib.hid hi
              have HFF : Hid (formed H = false) := by
                show _ = _
                rw [hform, hb, decide_eq_true hq, decide_eq_true ht0, decide_eq_false hi]
                simp
              clear hform
              go_wp2_with (first
      | go_skip
      | ((with_reducible refine at_d 79 ?_); go_loud (refine wl_fld (r := 1) fld34_1 rfl rfl rfl rfl (hk := ?_)))
      | ((with_reducible refine at_d 80 ?_); go_loud (refine wl_load1v rfl rfl rfl (hs := sc26) (hk := ?_)))
      | ((with_reducible refine at_d 81 ?_); go_loud (refine wl_cmp (p := (H.seq : Int)) (q := 1) (r := true) (by simp [cmpI] <;> omega) rfl rfl rfl rfl rfl (hk := ?_)))
      | ((with_reducible refine at_d 83 ?_); (refine wl_fld (r := 2) fld34_2 rfl rfl rfl rfl (hk := ?_)))
      | ((with_reducible refine at_d 84 ?_); (refine wl_loadP rfl rfl rfl (hs := agg28) (hv := (by first | exact hF_prev _ _ | exact hF_item _ _ | exact hF_knows _ _ | exact hF_sum _ _ | exact hF_code _ _)) (hk := ?_)))
      | ((with_reducible refine at_d 85 ?_); (refine wl_build0 Tryd.underlying28 zer28 sc5.size (zeros_b _) rfl rfl (hk := ?_)))
      | ((with_reducible refine at_d 86 ?_); (refine wl_eqB rfl rfl eqb28 rfl rfl hok.prev.1 (zeros_len 32) hok.prev.2 (zeros_lt 32) rfl (hk := ?_)))
      | ((with_reducible refine at_d 88 ?_); go_loud (refine wl_fld (r := 35) fld34_4 rfl rfl rfl rfl (hk := ?_)))
      | ((with_reducible refine at_d 89 ?_); go_loud (refine wl_load1v rfl rfl rfl (by first | exact St.hasb hst (by repeat (first | exact Pick.head | apply Pick.tail)) | exact St.hasOld hst (by assumption) (by simp) | assumption) HCC.out (by omega) sc4 (hk := ?_)))
      | ((with_reducible refine at_d 92 ?_); (refine wl_fld (r := 53) fld34_7 rfl rfl rfl rfl (hk := ?_)))
      | ((with_reducible refine at_d 93 ?_); (refine wl_load1v rfl rfl rfl (hs := sc31) (hk := ?_)))
      | ((with_reducible refine at_d 95 ?_); (refine wl_cmp (p := (H.toks.length : Int)) (q := 0) (r := true) (by first | exact decide_eq_true (by omega) | exact decide_eq_false (by omega)) rfl rfl rfl rfl rfl (hk := ?_)))
      | ((with_reducible refine at_d 97 ?_); (refine wl_fld (r := 37) fld34_6 rfl rfl rfl rfl (hk := ?_)))
      | ((with_reducible refine at_d 98 ?_); (refine wl_loadP rfl rfl rfl (hs := agg30) (hv := (by first | exact hF_prev _ _ | exact hF_item _ _ | exact hF_knows _ _ | exact hF_sum _ _ | exact hF_code _ _)) (hk := ?_)))
      | ((with_reducible refine at_d 99 ?_); (refine wl_build0 Tryd.underlying30 zer30 sc5.size (zeros_b _) rfl rfl (hk := ?_)))
      | ((with_reducible refine at_d 100 ?_); (refine wl_eqB rfl rfl eqb30 rfl rfl hok.item.1 (zeros_len 16) hok.item.2 (zeros_lt 16) (decide_eq_false HI.out) (hk := ?_))))
              refine rg_start (St w [] [(b1, blk 125 (hF H (.slice ad H.toks.length cap)) 34)]) mixed (hst.drew) ?_
              refine rg_take [0, 1, 2, 3, 4, 5, 6, 7, 8, 9, 10, 11, 12, 13, 14, 15, 16, 17, 18, 19] 0 _ rfl (by kernel_rfl) (by kernel_rfl) rfl (cls_st _ _ _) (fun _ _ _ _ _ h => h) ?_
              refine tk_wp (hk := ?_)
              refine tk_wp (hk := ?_)
              first | (refine tk_skip rfl (by rfl) (hk := ?_)) | (refine tk_wp (hk := ?_))
              refine tk_wp (hk := ?_)
              refine tk_wp (hk := ?_)
              first | (refine tk_skip rfl (by rfl) (hk := ?_)) | (refine tk_wp (hk := ?_))
              refine tk_wp (hk := ?_)
              refine tk_wp (hk := ?_)
              first | (refine tk_skip rfl (by rfl) (hk := ?_)) | (refine tk_fld (r := 0) fld34_0 rfl rfl rfl rfl rfl (hk := ?_))
              first | (refine tk_skip rfl (by rfl) (hk := ?_)) | (refine tk_load1 rfl rfl (by rfl) rfl (hs := sc3) (hk := ?_))
              first | (refine tk_skip rfl (by rfl) (hk := ?_)) | (refine tk_ari (p := H.writer) (q := 1) (r := (n : Int)) (k := .i64) (by simp only [ariI] <;> omega) (by show _ ∧ _; omega) rfl rfl rfl rfl rfl rfl (hk := ?_))
              first | (refine tk_skip rfl (by rfl) (hk := ?_)) | (refine tk_fld (r := 54) fld34_8 rfl rfl rfl rfl rfl (hk := ?_))
              first | (refine tk_skip rfl (by rfl) (hk := ?_)) | (refine tk_idxA (i := n) Tryd.underlying32 sc12.size hn6 rfl rfl rfl rfl rfl (hk := ?_))
              first | (refine tk_skip rfl (by rfl) (hk := ?_)) | (refine tk_load1 rfl rfl (by rfl) rfl (fun w hst => (by first | exact St.hasb hst (by repeat (first | exact Pick.head | apply Pick.tail)) | exact St.hasOld hst (by assumption) (by simp) | assumption)) HK.out (by omega) sc12 (hk := ?_))
              first | (refine tk_skip rfl (by rfl) (hk := ?_)) | (refine tk_fld (r := 1) fld34_1 rfl rfl rfl rfl rfl (hk := ?_))
              first | (refine tk_skip rfl (by rfl) (hk := ?_)) | (refine tk_load1 rfl rfl (by rfl) rfl (hs := sc26) (hk := ?_))
              first | (refine tk_skip rfl (by rfl) (hk := ?_)) | (refine tk_ari (p := (H.seq : Int)) (q := 1) (r := ((H.seq : Int) - 1)) (k := .u64) (by simp only [ariI] <;> omega) (by show _ ∧ _; omega) rfl rfl rfl rfl rfl rfl (hk := ?_))
              first | (refine tk_skip rfl (by rfl) (hk := ?_)) | (refine tk_cmp (p := (k : Int)) (q := (H.seq : Int) - 1) (r := decide (k + 1 = H.seq)) (by simp only [cmpI]; exact decide_eq_decide.2 (by omega)) rfl rfl rfl rfl rfl rfl (hk := ?_))
              refine tk_wp (hk := ?_)
              refine tk_wp (hk := ?_)
              refine tk_nil ?_
              refine rg_done (by kernel_rfl) (fun w1 hst1 => ?_) _
              clear hst; have hst := hst1; clear hst1
              go_wp2_with fail
              go_ret
              exact ⟨_, rfl, by rw [HFF.out]; rfl, hst.none⟩
          · have hl0 : 0 < H.toks.length := List.length_pos_iff.2 ht0
            have HFF : Hid (formed H = false) := by
              show _ = _
              rw [hform, hb, decide_eq_true hq, decide_eq_false ht0]
              simp
            clear hform
            go_wp2_with (first
      | go_skip
      | ((with_reducible refine at_d 79 ?_); go_loud (refine wl_fld (r := 1) fld34_1 rfl rfl rfl rfl (hk := ?_)))
      | ((with_reducible refine at_d 80 ?_); go_loud (refine wl_load1v rfl rfl rfl (hs := sc26) (hk := ?_)))
      | ((with_reducible refine at_d 81 ?_); go_loud (refine wl_cmp (p := (H.seq : Int)) (q := 1) (r := true) (by simp [cmpI] <;> omega) rfl rfl rfl rfl rfl (hk := ?_)))
      | ((with_reducible refine at_d 83 ?_); (refine wl_fld (r := 2) fld34_2 rfl rfl rfl rfl (hk := ?_)))
      | ((with_reducible refine at_d 84 ?_); (refine wl_loadP rfl rfl rfl (hs := agg28) (hv := (by first | exact hF_prev _ _ | exact hF_item _ _ | exact hF_knows _ _ | exact hF_sum _ _ | exact hF_code _ _)) (hk := ?_)))
      | ((with_reducible refine at_d 85 ?_); (refine wl_build0 Tryd.underlying28 zer28 sc5.size (zeros_b _) rfl rfl (hk := ?_)))
      | ((with_reducible refine at_d 86 ?_); (refine wl_eqB rfl rfl eqb28 rfl rfl hok.prev.1 (zeros_len 32) hok.prev.2 (zeros_lt 32) rfl (hk := ?_)))
      | ((with_reducible refine at_d 88 ?_); go_loud (refine wl_fld (r := 35) fld34_4 rfl rfl rfl rfl (hk := ?_)))
      | ((with_reducible refine at_d 89 ?_); go_loud (refine wl_load1v rfl rfl rfl (by first | exact St.hasb hst (by repeat (first | exact Pick.head | apply Pick.tail)) | exact St.hasOld hst (by assumption) (by simp) | assumption) HCC.out (by omega) sc4 (hk := ?_)))
      | ((with_reducible refine at_d 92 ?_); (refine wl_fld (r := 53) fld34_7 rfl rfl rfl rfl (hk := ?_)))
      | ((with_reducible refine at_d 93 ?_); (refine wl_load1v rfl rfl rfl (hs := sc31) (hk := ?_)))
      | ((with_reducible refine at_d 95 ?_); (refine wl_cmp (p := (H.toks.length : Int)) (q := 0) (r := false) (by first | exact decide_eq_true (by omega) | exact decide_eq_false (by omega)) rfl rfl rfl rfl rfl (hk := ?_)))
      | ((with_reducible refine at_d 97 ?_); (refine wl_fld (r := 37) fld34_6 rfl rfl rfl rfl (hk := ?_)))
      | ((with_reducible refine at_d 98 ?_); (refine wl_loadP rfl rfl rfl (hs := agg30) (hv := (by first | exact hF_prev _ _ | exact hF_item _ _ | exact hF_knows _ _ | exact hF_sum _ _ | exact hF_code _ _)) (hk := ?_)))
      | ((with_reducible refine at_d 99 ?_); (refine wl_build0 Tryd.underlying30 zer30 sc5.size (zeros_b _) rfl rfl (hk := ?_)))
      | ((with_reducible refine at_d 100 ?_); (refine wl_eqB rfl rfl eqb30 rfl rfl hok.item.1 (zeros_len 16) hok.item.2 (zeros_lt 16) rfl (hk := ?_))))
            refine rg_start (St w [] [(b1, blk 125 (hF H (.slice ad H.toks.length cap)) 34)]) mixed (hst.drew) ?_
            refine rg_take [0, 1, 2, 3, 4, 5, 6, 7, 8, 9, 10, 11, 12, 13, 14, 15, 16, 17, 18, 19] 0 _ rfl (by kernel_rfl) (by kernel_rfl) rfl (cls_st _ _ _) (fun _ _ _ _ _ h => h) ?_
            refine tk_wp (hk := ?_)
            refine tk_wp (hk := ?_)
            first | (refine tk_skip rfl (by rfl) (hk := ?_)) | (refine tk_wp (hk := ?_))
            refine tk_wp (hk := ?_)
            refine tk_wp (hk := ?_)
            first | (refine tk_skip rfl (by rfl) (hk := ?_)) | (refine tk_wp (hk := ?_))
            refine tk_wp (hk := ?_)
            refine tk_wp (hk := ?_)
            first | (refine tk_skip rfl (by rfl) (hk := ?_)) | (refine tk_fld (r := 0) fld34_0 rfl rfl rfl rfl rfl (hk := ?_))
            first | (refine tk_skip rfl (by rfl) (hk := ?_)) | (refine tk_load1 rfl rfl (by rfl) rfl (hs := sc3) (hk := ?_))
            first | (refine tk_skip rfl (by rfl) (hk := ?_)) | (refine tk_ari (p := H.writer) (q := 1) (r := (n : Int)) (k := .i64) (by simp only [ariI] <;> omega) (by show _ ∧ _; omega) rfl rfl rfl rfl rfl rfl (hk := ?_))
            first | (refine tk_skip rfl (by rfl) (hk := ?_)) | (refine tk_fld (r := 54) fld34_8 rfl rfl rfl rfl rfl (hk := ?_))
            first | (refine tk_skip rfl (by rfl) (hk := ?_)) | (refine tk_idxA (i := n) Tryd.underlying32 sc12.size hn6 rfl rfl rfl rfl rfl (hk := ?_))
            first | (refine tk_skip rfl (by rfl) (hk := ?_)) | (refine tk_load1 rfl rfl (by rfl) rfl (fun w hst => (by first | exact St.hasb hst (by repeat (first | exact Pick.head | apply Pick.tail)) | exact St.hasOld hst (by assumption) (by simp) | assumption)) HK.out (by omega) sc12 (hk := ?_))
            first | (refine tk_skip rfl (by rfl) (hk := ?_)) | (refine tk_fld (r := 1) fld34_1 rfl rfl rfl rfl rfl (hk := ?_))
            first | (refine tk_skip rfl (by rfl) (hk := ?_)) | (refine tk_load1 rfl rfl (by rfl) rfl (hs := sc26) (hk := ?_))
            first | (refine tk_skip rfl (by rfl) (hk := ?_)) | (refine tk_ari (p := (H.seq : Int)) (q := 1) (r := ((H.seq : Int) - 1)) (k := .u64) (by simp only [ariI] <;> omega) (by show _ ∧ _; omega) rfl rfl rfl rfl rfl rfl (hk := ?_))
            first | (refine tk_skip rfl (by rfl) (hk := ?_)) | (refine tk_cmp (p := (k : Int)) (q := (H.seq : Int) - 1) (r := decide (k + 1 = H.seq)) (by simp only [cmpI]; exact decide_eq_decide.2 (by omega)) rfl rfl rfl rfl rfl rfl (hk := ?_))
            refine tk_wp (hk := ?_)
            refine tk_wp (hk := ?_)
            refine tk_nil ?_
            refine rg_done (by kernel_rfl) (fun w1 hst1 => ?_) _
            clear hst; have hst := hst1; clear hst1
            go_wp2_with fail
            go_ret
            exact ⟨_, rfl, by rw [HFF.out]; rfl, hst.none⟩
      · by_cases hq : H.prev = zeros 32
        · have HQ := Lib.hid hq
          cases cc with
          | false =>
            have HFF : Hid (formed H = decide (k + 1 = H.seq)) := by
              show _ = _
              rw [hform, hb, decide_eq_false hq0, decide_eq_true hq]
              simp
            clear hform
            go_wp2_with (first
      | go_skip
      | ((with_reducible refine at_d 79 ?_); go_loud (refine wl_fld (r := 1) fld34_1 rfl rfl rfl rfl (hk := ?_)))
      | ((with_reducible refine at_d 80 ?_); go_loud (refine wl_load1v rfl rfl rfl (hs := sc26) (hk := ?_)))
      | ((with_reducible refine at_d 81 ?_); go_loud (refine wl_cmp (p := (H.seq : Int)) (q := 1) (r := false) (by simp [cmpI] <;> omega) rfl rfl rfl rfl rfl (hk := ?_)))
      | ((with_reducible refine at_d 83 ?_); (refine wl_fld (r := 2) fld34_2 rfl rfl rfl rfl (hk := ?_)))
      | ((with_reducible refine at_d 84 ?_); (refine wl_loadP rfl rfl rfl (hs := agg28) (hv := (by first | exact hF_prev _ _ | exact hF_item _ _ | exact hF_knows _ _ | exact hF_sum _ _ | exact hF_code _ _)) (hk := ?_)))
      | ((with_reducible refine at_d 85 ?_); (refine wl_build0 Tryd.underlying28 zer28 sc5.size (zeros_b _) rfl rfl (hk := ?_)))
      | ((with_reducible refine at_d 86 ?_); (refine wl_eqB rfl rfl eqb28 rfl rfl hok.prev.1 (zeros_len 32) hok.prev.2 (zeros_lt 32) (decide_eq_true HQ.out) (hk := ?_)))
      | ((with_reducible refine at_d 88 ?_); go_loud (refine wl_fld (r := 35) fld34_4 rfl rfl rfl rfl (hk := ?_)))
      | ((with_reducible refine at_d 89 ?_); go_loud (refine wl_load1v rfl rfl rfl (by first | exact St.hasb hst (by repeat (first | exact Pick.head | apply Pick.tail)) | exact St.hasOld hst (by assumption) (by simp) | assumption) HCC.out (by omega) sc4 (hk := ?_)))
      | ((with_reducible refine at_d 92 ?_); (refine wl_fld (r := 53) fld34_7 rfl rfl rfl rfl (hk := ?_)))
      | ((with_reducible refine at_d 93 ?_); (refine wl_load1v rfl rfl rfl (hs := sc31) (hk := ?_)))
      | ((with_reducible refine at_d 95 ?_); (refine wl_cmp (p := (H.toks.length : Int)) (q := 0) (r := true) (by first | exact decide_eq_true (by omega) | exact decide_eq_false (by omega)) rfl rfl rfl rfl rfl (hk := ?_)))
      | ((with_reducible refine at_d 97 ?_); (refine wl_fld (r := 37) fld34_6 rfl rfl rfl rfl (hk := ?_)))
      | ((with_reducible refine at_d 98 ?_); (refine wl_loadP rfl rfl rfl (hs := agg30) (hv := (by first | exact hF_prev _ _ | exact hF_item _ _ | exact hF_knows _ _ | exact hF_sum _ _ | exact hF_code _ _)) (hk := ?_)))
      | ((with_reducible refine at_d 99 ?_); (refine wl_build0 Tryd.underlying30 zer30 sc5.size (zeros_b _) rfl rfl (hk := ?_)))
      | ((with_reducible refine at_d 100 ?_); (refine wl_eqB rfl rfl eqb30 rfl rfl hok.item.1 (zeros_len 16) hok.item.2 (zeros_lt 16) rfl (hk := ?_))))
            refine rg_start (St w [] [(b1, blk 125 (hF H (.slice ad H.toks.length cap)) 34)]) mixed (hst.drew) ?_
            refine rg_take [0, 1, 2, 3, 4, 5, 6, 7, 8, 9, 10, 11, 12, 13, 14, 15, 16, 17, 18, 19] 0 _ rfl (by kernel_rfl) (by kernel_rfl) rfl (cls_st _ _ _) (fun _ _ _ _ _ h => h) ?_
            refine tk_wp (hk := ?_)
            refine tk_wp (hk := ?_)
            first | (refine tk_skip rfl (by rfl) (hk := ?_)) | (refine tk_wp (hk := ?_))
            refine tk_wp (hk := ?_)
            refine tk_wp (hk := ?_)
            first | (refine tk_skip rfl (by rfl) (hk := ?_)) | (refine tk_wp (hk := ?_))
            refine tk_wp (hk := ?_)
            refine tk_wp (hk := ?_)
            first | (refine tk_skip rfl (by rfl) (hk := ?_)) | (refine tk_fld (r := 0) fld34_0 rfl rfl rfl rfl rfl (hk := ?_))
            first | (refine tk_skip rfl (by rfl) (hk := ?_)) | (refine tk_load1 rfl rfl (by rfl) rfl (hs := sc3) (hk := ?_))
            first | (refine tk_skip rfl (by rfl) (hk := ?_)) | (refine tk_ari (p := H.writer) (q := 1) (r := (n : Int)) (k := .i64) (by simp only [ariI] <;> omega) (by show _ ∧ _; omega) rfl rfl rfl rfl rfl rfl (hk := ?_))
            first | (refine tk_skip rfl (by rfl) (hk := ?_)) | (refine tk_fld (r := 54) fld34_8 rfl rfl rfl rfl rfl (hk := ?_))
            first | (refine tk_skip rfl (by rfl) (hk := ?_)) | (refine tk_idxA (i := n) Tryd.underlying32 sc12.size hn6 rfl rfl rfl rfl rfl (hk := ?_))
            first | (refine tk_skip rfl (by rfl) (hk := ?_)) | (refine tk_load1 rfl rfl (by rfl) rfl (fun w hst => (by first | exact St.hasb hst (by repeat (first | exact Pick.head | apply Pick.tail)) | exact St.hasOld hst (by assumption) (by simp) | assumption)) HK.out (by omega) sc12 (hk := ?_))
            first | (refine tk_skip rfl (by rfl) (hk := ?_)) | (refine tk_fld (r := 1) fld34_1 rfl rfl rfl rfl rfl (hk := ?_))
            first | (refine tk_skip rfl (by rfl) (hk := ?_)) | (refine tk_load1 rfl rfl (by rfl) rfl (hs := sc26) (hk := ?_))
            first | (refine tk_skip rfl (by rfl) (hk := ?_)) | (refine tk_ari (p := (H.seq : Int)) (q := 1) (r := ((H.seq : Int) - 1)) (k := .u64) (by simp only [ariI] <;> omega) (by show _ ∧ _; omega) rfl rfl rfl rfl rfl rfl (hk := ?_))
            first | (refine tk_skip rfl (by rfl) (hk := ?_)) | (refine tk_cmp (p := (k : Int)) (q := (H.seq : Int) - 1) (r := decide (k + 1 = H.seq)) (by simp only [cmpI]; exact decide_eq_decide.2 (by omega)) rfl rfl rfl rfl rfl rfl (hk := ?_))
            refine tk_wp (hk := ?_)
            refine tk_wp (hk := ?_)
            refine tk_nil ?_
            refine rg_done (by kernel_rfl) (fun w1 hst1 => ?_) _
            clear hst; have hst := hst1; clear hst1
            go_wp2_with fail
            go_ret
            exact ⟨_, rfl, by rw [HFF.out]; rfl, hst.none⟩
          | true =>
            by_cases ht0 : H.toks = []
            · have hl0 : H.toks.length = 0 := by rw [ht0]; rfl
              by_cases hi : H.item = zeros 16
              · have HI := Lib.hid hi
                have HFF : Hid (formed H = decide (k + 1 = H.seq)) := by
                  show _ = _
                  rw [hform, hb, decide_eq_false hq0, decide_eq_true hq, decide_eq_true ht0, decide_eq_true hi]
                  simp
                clear hform
                go_wp2_with (first
      | go_skip
      | ((with_reducible refine at_d 79 ?_); go_loud (refine wl_fld (r := 1) fld34_1 rfl rfl rfl rfl (hk := ?_)))
      | ((with_reducible refine at_d 80 ?_); go_loud (refine wl_load1v rfl rfl rfl (hs := sc26) (hk := ?_)))
      | ((with_reducible refine at_d 81 ?_); go_loud (refine wl_cmp (p := (H.seq : Int)) (q := 1) (r := false) (by simp [cmpI] <;> omega) rfl rfl rfl rfl rfl (hk := ?_)))
      | ((with_reducible refine at_d 83 ?_); (refine wl_fld (r := 2) fld34_2 rfl rfl rfl rfl (hk := ?_)))
      | ((with_reducible refine at_d 84 ?_); (refine wl_loadP rfl rfl rfl (hs := agg28) (hv := (by first | exact hF_prev _ _ | exact hF_item _ _ | exact hF_knows _ _ | exact hF_sum _ _ | exact hF_code _ _)) (hk := ?_)))
      | ((with_reducible refine at_d 85 ?_); (refine wl_build0 Tryd.underlying28 zer28 sc5.size (zeros_b _) rfl rfl (hk := ?_)))
      | ((with_reducible refine at_d 86 ?_); (refine wl_eqB rfl rfl eqb28 rfl rfl hok.prev.1 (zeros_len 32) hok.prev.2 (zeros_lt 32) (decide_eq_true HQ.out) (hk := ?_)))
      | ((with_reducible refine at_d 88 ?_); go_loud (refine wl_fld (r := 35) fld34_4 rfl rfl rfl rfl (hk := ?_)))
      | ((with_reducible refine at_d 89 ?_); go_loud (refine wl_load1v rfl rfl rfl (by first | exact St.hasb hst (by repeat (first | exact Pick.head | apply Pick.tail)) | exact St.hasOld hst (by assumption) (by simp) | assumption) HCC.out (by omega) sc4 (hk := ?_)))
      | ((with_reducible refine at_d 92 ?_); (refine wl_fld (r := 53) fld34_7 rfl rfl rfl rfl (hk := ?_)))
      | ((with_reducible refine at_d 93 ?_); (refine wl_load1v rfl rfl rfl (hs := sc31) (hk := ?_)))
      | ((with_reducible refine at_d 95 ?_); (refine wl_cmp (p := (H.toks.length : Int)) (q := 0) (r := true) (by first | exact decide_eq_true (by omega) | exact decide_eq_false (by omega)) rfl rfl rfl rfl rfl (hk := ?_)))
      | ((with_reducible refine at_d 97 ?_); (refine wl_fld (r := 37) fld34_6 rfl rfl rfl rfl (hk := ?_)))
      | ((with_reducible refine at_d 98 ?_); (refine wl_loadP rfl rfl rfl (hs := agg30) (hv := (by first | exact hF_prev _ _ | exact hF_item _ _ | exact hF_knows _ _ | exact hF_sum _ _ | exact hF_code _ _)) (hk := ?_)))
      | ((with_reducible refine at_d 99 ?_); (refine wl_build0 Tryd.underlying30 zer30 sc5.size (zeros_b _) rfl rfl (hk := ?_)))
      | ((with_reducible refine at_d 100 ?_); (refine wl_eqB rfl rfl eqb30 rfl rfl hok.item.1 (zeros_len 16) hok.item.2 (zeros_lt 16) (decide_eq_true HI.out) (hk := ?_))))
                refine rg_start (St w [] [(b1, blk 125 (hF H (.slice ad H.toks.length cap)) 34)]) mixed (hst.drew) ?_
                refine rg_take [0, 1, 2, 3, 4, 5, 6, 7, 8, 9, 10, 11, 12, 13, 14, 15, 16, 17, 18, 19] 0 _ rfl (by kernel_rfl) (by kernel_rfl) rfl (cls_st _ _ _) (fun _ _ _ _ _ h => h) ?_
                refine tk_wp (hk := ?_)
                refine tk_wp (hk := ?_)
                first | (refine tk_skip rfl (by rfl) (hk := ?_)) | (refine tk_wp (hk := ?_))
                refine tk_wp (hk := ?_)
                refine tk_wp (hk := ?_)
                first | (refine tk_skip rfl (by rfl) (hk := ?_)) | (refine tk_wp (hk := ?_))
                refine tk_wp (hk := ?_)
                refine tk_wp (hk := ?_)
                first | (refine tk_skip rfl (by rfl) (hk := ?_)) | (refine tk_fld (r := 0) fld34_0 rfl rfl rfl rfl rfl (hk := ?_))
                first | (refine tk_skip rfl (by rfl) (hk := ?_)) | (refine tk_load1 rfl rfl (by rfl) rfl (hs := sc3) (hk := ?_))
                first | (refine tk_skip rfl (by rfl) (hk := ?_)) | (refine tk_ari (p := H.writer) (q := 1) (r := (n : Int)) (k := .i64) (by simp only [ariI] <;> omega) (by show _ ∧ _; omega) rfl rfl rfl rfl rfl rfl (hk := ?_))
                first | (refine tk_skip rfl (by rfl) (hk := ?_)) | (refine tk_fld (r := 54) fld34_8 rfl rfl rfl rfl rfl (hk := ?_))
                first | (refine tk_skip rfl (by rfl) (hk := ?_)) | (refine tk_idxA (i := n) Tryd.underlying32 sc12.size hn6 rfl rfl rfl rfl rfl (hk := ?_))
                first | (refine tk_skip rfl (by rfl) (hk := ?_)) | (refine tk_load1 rfl rfl (by rfl) rfl (fun w hst => (by first | exact St.hasb hst (by repeat (first | exact Pick.head | apply Pick.tail)) | exact St.hasOld hst (by assumption) (by simp) | assumption)) HK.out (by omega) sc12 (hk := ?_))
                first | (refine tk_skip rfl (by rfl) (hk := ?_)) | (refine tk_fld (r := 1) fld34_1 rfl rfl rfl rfl rfl (hk := ?_))
                first | (refine tk_skip rfl (by rfl) (hk := ?_)) | (refine tk_load1 rfl rfl (by rfl) rfl (hs := sc26) (hk := ?_))
                first | (refine tk_skip rfl (by rfl) (hk := ?_)) | (refine tk_ari (p := (H.seq : Int)) (q := 1) (r := ((H.seq : Int) - 1)) (k := .u64) (by simp only [ariI] <;> omega) (by show _ ∧ _; omega) rfl rfl rfl rfl rfl rfl (hk := ?_))
                first | (refine tk_skip rfl (by rfl) (hk := ?_)) | (refine tk_cmp (p := (k : Int)) (q := (H.seq : Int) - 1) (r := decide (k + 1 = H.seq)) (by simp only [cmpI]; exact decide_eq_decide.2 (by omega)) rfl rfl rfl rfl rfl rfl (hk := ?_))
                refine tk_wp (hk := ?_)
                refine tk_wp (hk := ?_)
                refine tk_nil ?_
                refine rg_done (by kernel_rfl) (fun w1 hst1 => ?_) _
                clear hst; have hst := hst1; clear hst1
                go_wp2_with fail
                go_ret
                exact ⟨_, rfl, by rw [HFF.out]; rfl, hst.none⟩
              · have HI := Lib.hid hi
                have HFF : Hid (formed H = false) := by
                  show _ = _
                  rw [hform, hb, decide_eq_false hq0, decide_eq_true hq, decide_eq_true ht0, decide_eq_false hi]
                  simp
                clear hform
                go_wp2_with (first
      | go_skip
      | ((with_reducible refine at_d 79 ?_); go_loud (refine wl_fld (r := 1) fld34_1 rfl rfl rfl rfl (hk := ?_)))
      | ((with_reducible refine at_d 80 ?_); go_loud (refine wl_load1v rfl rfl rfl (hs := sc26) (hk := ?_)))
      | ((with_reducible refine at_d 81 ?_); go_loud (refine wl_cmp (p := (H.seq : Int)) (q := 1) (r := false) (by simp [cmpI] <;> omega) rfl rfl rfl rfl rfl (hk := ?_)))
      | ((with_reducible refine at_d 83 ?_); (refine wl_fld (r := 2) fld34_2 rfl rfl rfl rfl (hk := ?_)))
      | ((with_reducible refine at_d 84 ?_); (refine wl_loadP rfl rfl rfl (hs := agg28) (hv := (by first | exact hF_prev _ _ | exact hF_item _ _ | exact hF_knows _ _ | exact hF_sum _ _ | exact hF_code _ _)) (hk := ?_)))
      | ((with_reducible refine at_d 85 ?_); (refine wl_build0 Tryd.underlying28 zer28 sc5.size (zeros_b _) rfl rfl (hk := ?_)))
      | ((with_reducible refine at_d 86 ?_); (refine wl_eqB rfl rfl eqb28 rfl rfl hok.prev.1 (zeros_len 32) hok.prev.2 (zeros_lt 32) (decide_eq_true HQ.out) (hk := ?_)))
      | ((with_reducible refine at_d 88 ?_); go_loud (refine wl_fld (r := 35) fld34_4 rfl rfl rfl rfl (hk := ?_)))
      | ((with_reducible refine at_d 89 ?_); go_loud (refine wl_load1v rfl rfl rfl (by first | exact St.hasb hst (by repeat (first | exact Pick.head | apply Pick.tail)) | exact St.hasOld hst (by assumption) (by simp) | assumption) HCC.out (by omega) sc4 (hk := ?_)))
      | ((with_reducible refine at_d 92 ?_); (refine wl_fld (r := 53) fld34_7 rfl rfl rfl rfl (hk := ?_)))
      | ((with_reducible refine at_d 93 ?_); (refine wl_load1v rfl rfl rfl (hs := sc31) (hk := ?_)))
      | ((with_reducible refine at_d 95 ?_); (refine wl_cmp (p := (H.toks.length : Int)) (q := 0) (r := true) (by first | exact decide_eq_true (by omega) | exact decide_eq_false (by omega)) rfl rfl rfl rfl rfl (hk := ?_)))
      | ((with_reducible refine at_d 97 ?_); (refine wl_fld (r := 37) fld34_6 rfl rfl rfl rfl (hk := ?_)))
      | ((with_reducible refine at_d 98 ?_); (refine wl_loadP rfl rfl rfl (hs := agg30) (hv := (by first | exact hF_prev _ _ | exact hF_item _ _ | exact hF_knows _ _ | exact hF_sum _ _ | exact hF_code _ _)) (hk := ?_)))
      | ((with_reducible refine at_d 99 ?_); (refine wl_build0 Tryd.underlying30 zer30 sc5.size (zeros_b _) rfl rfl (hk := ?_)))
      | ((with_reducible refine at_d 100 ?_); (refine wl_eqB rfl rfl eqb30 rfl rfl hok.item.1 (zeros_len 16) hok.item.2 (zeros_lt 16) (decide_eq_false HI.out) (hk := ?_))))
                refine rg_start (St w [] [(b1, blk 125 (hF H (.slice ad H.toks.length cap)) 34)]) mixed (hst.drew) ?_
                refine rg_take [0, 1, 2, 3, 4, 5, 6, 7, 8, 9, 10, 11, 12, 13, 14, 15, 16, 17, 18, 19] 0 _ rfl (by kernel_rfl) (by kernel_rfl) rfl (cls_st _ _ _) (fun _ _ _ _ _ h => h) ?_
                refine tk_wp (hk := ?_)
                refine tk_wp (hk := ?_)
                first | (refine tk_skip rfl (by rfl) (hk := ?_)) | (refine tk_wp (hk := ?_))
                refine tk_wp (hk := ?_)
                refine tk_wp (hk := ?_)
                first | (refine tk_skip rfl (by rfl) (hk := ?_)) | (refine tk_wp (hk := ?_))
                refine tk_wp (hk := ?_)
                refine tk_wp (hk := ?_)
                first | (refine tk_skip rfl (by rfl) (hk := ?_)) | (refine tk_fld (r := 0) fld34_0 rfl rfl rfl rfl rfl (hk := ?_))
                first | (refine tk_skip rfl (by rfl) (hk := ?_)) | (refine tk_load1 rfl rfl (by rfl) rfl (hs := sc3) (hk := ?_))
                first | (refine tk_skip rfl (by rfl) (hk := ?_)) | (refine tk_ari (p := H.writer) (q := 1) (r := (n : Int)) (k := .i64) (by simp only [ariI] <;> omega) (by show _ ∧ _; omega) rfl rfl rfl rfl rfl rfl (hk := ?_))
                first | (refine tk_skip rfl (by rfl) (hk := ?_)) | (refine tk_fld (r := 54) fld34_8 rfl rfl rfl rfl rfl (hk := ?_))
                first | (refine tk_skip rfl (by rfl) (hk := ?_)) | (refine tk_idxA (i := n) Tryd.underlying32 sc12.size hn6 rfl rfl rfl rfl rfl (hk := ?_))
                first | (refine tk_skip rfl (by rfl) (hk := ?_)) | (refine tk_load1 rfl rfl (by rfl) rfl (fun w hst => (by first | exact St.hasb hst (by repeat (first | exact Pick.head | apply Pick.tail)) | exact St.hasOld hst (by assumption) (by simp) | assumption)) HK.out (by omega) sc12 (hk := ?_))
                first | (refine tk_skip rfl (by rfl) (hk := ?_)) | (refine tk_fld (r := 1) fld34_1 rfl rfl rfl rfl rfl (hk := ?_))
                first | (refine tk_skip rfl (by rfl) (hk := ?_)) | (refine tk_load1 rfl rfl (by rfl) rfl (hs := sc26) (hk := ?_))
                first | (refine tk_skip rfl (by rfl) (hk := ?_)) | (refine tk_ari (p := (H.seq : Int)) (q := 1) (r := ((H.seq : Int) - 1)) (k := .u64) (by simp only [ariI] <;> omega) (by show _ ∧ _; omega) rfl rfl rfl rfl rfl rfl (hk := ?_))
                first | (refine tk_skip rfl (by rfl) (hk := ?_)) | (refine tk_cmp (p := (k : Int)) (q := (H.seq : Int) - 1) (r := decide (k + 1 = H.seq)) (by simp only [cmpI]; exact decide_eq_decide.2 (by omega)) rfl rfl rfl rfl rfl rfl (hk := ?_))
                refine tk_wp (hk := ?_)
                refine tk_wp (hk := ?_)
                refine tk_nil ?_
                refine rg_done (by kernel_rfl) (fun w1 hst1 => ?_) _
                clear hst; have hst := hst1; clear hst1
                go_wp2_with fail
                go_ret
                exact ⟨_, rfl, by rw [HFF.out]; rfl, hst.none⟩
            · have hl0 : 0 < H.toks.length := List.length_pos_iff.2 ht0
              have HFF : Hid (formed H = false) := by
                show _ = _
                rw [hform, hb, decide_eq_false hq0, decide_eq_true hq, decide_eq_false ht0]
                simp
              clear hform
              go_wp2_with (first
      | go_skip
      | ((with_reducible refine at_d 79 ?_); go_loud (refine wl_fld (r := 1) fld34_1 rfl rfl rfl rfl (hk := ?_)))
      | ((with_reducible refine at_d 80 ?_); go_loud (refine wl_load1v rfl rfl rfl (hs := sc26) (hk := ?_)))
      | ((with_reducible refine at_d 81 ?_); go_loud (refine wl_cmp (p := (H.seq : Int)) (q := 1) (r := false) (by simp [cmpI] <;> omega) rfl rfl rfl rfl rfl (hk := ?_)))
      | ((with_reducible refine at_d 83 ?_); (refine wl_fld (r := 2) fld34_2 rfl rfl rfl rfl (hk := ?_)))
      | ((with_reducible refine at_d 84 ?_); (refine wl_loadP rfl rfl rfl (hs := agg28) (hv := (by first | exact hF_prev _ _ | exact hF_item _ _ | exact hF_knows _ _ | exact hF_sum _ _ | exact hF_code _ _)) (hk := ?_)))
      | ((with_reducible refine at_d 85 ?_); (refine wl_build0 Tryd.underlying28 zer28 sc5.size (zeros_b _) rfl rfl (hk := ?_)))
      | ((with_reducible refine at_d 86 ?_); (refine wl_eqB rfl rfl eqb28 rfl rfl hok.prev.1 (zeros_len 32) hok.prev.2 (zeros_lt 32) (decide_eq_true HQ.out) (hk := ?_)))
      | ((with_reducible refine at_d 88 ?_); go_loud (refine wl_fld (r := 35) fld34_4 rfl rfl rfl rfl (hk := ?_)))
      | ((with_reducible refine at_d 89 ?_); go_loud (refine wl_load1v rfl rfl rfl (by first | exact St.hasb hst (by repeat (first | exact Pick.head | apply Pick.tail)) | exact St.hasOld hst (by assumption) (by simp) | assumption) HCC.out (by omega) sc4 (hk := ?_)))
      | ((with_reducible refine at_d 92 ?_); (refine wl_fld (r := 53) fld34_7 rfl rfl rfl rfl (hk := ?_)))
      | ((with_reducible refine at_d 93 ?_); (refine wl_load1v rfl rfl rfl (hs := sc31) (hk := ?_)))
      | ((with_reducible refine at_d 95 ?_); (refine wl_cmp (p := (H.toks.length : Int)) (q := 0) (r := false) (by first | exact decide_eq_true (by omega) | exact decide_eq_false (by omega)) rfl rfl rfl rfl rfl (hk := ?_)))
      | ((with_reducible refine at_d 97 ?_); (refine wl_fld (r := 37) fld34_6 rfl rfl rfl rfl (hk := ?_)))
      | ((with_reducible refine at_d 98 ?_); (refine wl_loadP rfl rfl rfl (hs := agg30) (hv := (by first | exact hF_prev _ _ | exact hF_item _ _ | exact hF_knows _ _ | exact hF_sum _ _ | exact hF_code _ _)) (hk := ?_)))
      | ((with_reducible refine at_d 99 ?_); (refine wl_build0 Tryd.underlying30 zer30 sc5.size (zeros_b _) rfl rfl (hk := ?_)))
      | ((with_reducible refine at_d 100 ?_); (refine wl_eqB rfl rfl eqb30 rfl rfl hok.item.1 (zeros_len 16) hok.item.2 (zeros_lt 16) rfl (hk := ?_))))
              refine rg_start (St w [] [(b1, blk 125 (hF H (.slice ad H.toks.length cap)) 34)]) mixed (hst.drew) ?_
              refine rg_take [0, 1, 2, 3, 4, 5, 6, 7, 8, 9, 10, 11, 12, 13, 14, 15, 16, 17, 18, 19] 0 _ rfl (by kernel_rfl) (by kernel_rfl) rfl (cls_st _ _ _) (fun _ _ _ _ _ h => h) ?_
              refine tk_wp (hk := ?_)
              refine tk_wp (hk := ?_)
              first | (refine tk_skip rfl (by rfl) (hk := ?_)) | (refine tk_wp (hk := ?_))
              refine tk_wp (hk := ?_)
              refine tk_wp (hk := ?_)
              first | (refine tk_skip rfl (by rfl) (hk := ?_)) | (refine tk_wp (hk := ?_))
              refine tk_wp (hk := ?_)
              refine tk_wp (hk := ?_)
              first | (refine tk_skip rfl (by rfl) (hk := ?_)) | (refine tk_fld (r := 0) fld34_0 rfl rfl rfl rfl rfl (hk := ?_))
              first | (refine tk_skip rfl (by rfl) (hk := ?_)) | (refine tk_load1 rfl rfl (by rfl) rfl (hs := sc3) (hk := ?_))
              first | (refine tk_skip rfl (by rfl) (hk := ?_)) | (refine tk_ari (p := H.writer) (q := 1) (r := (n : Int)) (k := .i64) (by simp only [ariI] <;> omega) (by show _ ∧ _; omega) rfl rfl rfl rfl rfl rfl (hk := ?_))
              first | (refine tk_skip rfl (by rfl) (hk := ?_)) | (refine tk_fld (r := 54) fld34_8 rfl rfl rfl rfl rfl (hk := ?_))
              first | (refine tk_skip rfl (by rfl) (hk := ?_)) | (refine tk_idxA (i := n) Tryd.underlying32 sc12.size hn6 rfl rfl rfl rfl rfl (hk := ?_))
              first | (refine tk_skip rfl (by rfl) (hk := ?_)) | (refine tk_load1 rfl rfl (by rfl) rfl (fun w hst => (by first | exact St.hasb hst (by repeat (first | exact Pick.head | apply Pick.tail)) | exact St.hasOld hst (by assumption) (by simp) | assumption)) HK.out (by omega) sc12 (hk := ?_))
              first | (refine tk_skip rfl (by rfl) (hk := ?_)) | (refine tk_fld (r := 1) fld34_1 rfl rfl rfl rfl rfl (hk := ?_))
              first | (refine tk_skip rfl (by rfl) (hk := ?_)) | (refine tk_load1 rfl rfl (by rfl) rfl (hs := sc26) (hk := ?_))
              first | (refine tk_skip rfl (by rfl) (hk := ?_)) | (refine tk_ari (p := (H.seq : Int)) (q := 1) (r := ((H.seq : Int) - 1)) (k := .u64) (by simp only [ariI] <;> omega) (by show _ ∧ _; omega) rfl rfl rfl rfl rfl rfl (hk := ?_))
              first | (refine tk_skip rfl (by rfl) (hk := ?_)) | (refine tk_cmp (p := (k : Int)) (q := (H.seq : Int) - 1) (r := decide (k + 1 = H.seq)) (by simp only [cmpI]; exact decide_eq_decide.2 (by omega)) rfl rfl rfl rfl rfl rfl (hk := ?_))
              refine tk_wp (hk := ?_)
              refine tk_wp (hk := ?_)
              refine tk_nil ?_
              refine rg_done (by kernel_rfl) (fun w1 hst1 => ?_) _
              clear hst; have hst := hst1; clear hst1
              go_wp2_with fail
              go_ret
              exact ⟨_, rfl, by rw [HFF.out]; rfl, hst.none⟩
        · have HQ := Lib.hid hq
          cases cc with
          | false =>
            have HFF : Hid (formed H = false) := by
              show _ = _
              rw [hform, hb, decide_eq_false hq0, decide_eq_false hq]
              simp
            clear hform
            go_wp2_with (first
      | go_skip
      | ((with_reducible refine at_d 79 ?_); go_loud (refine wl_fld (r := 1) fld34_1 rfl rfl rfl rfl (hk := ?_)))
      | ((with_reducible refine at_d 80 ?_); go_loud (refine wl_load1v rfl rfl rfl (hs := sc26) (hk := ?_)))
      | ((with_reducible refine at_d 81 ?_); go_loud (refine wl_cmp (p := (H.seq : Int)) (q := 1) (r := false) (by simp [cmpI] <;> omega) rfl rfl rfl rfl rfl (hk := ?_)))
      | ((with_reducible refine at_d 83 ?_); (refine wl_fld (r := 2) fld34_2 rfl rfl rfl rfl (hk := ?_)))
      | ((with_reducible refine at_d 84 ?_); (refine wl_loadP rfl rfl rfl (hs := agg28) (hv := (by first | exact hF_prev _ _ | exact hF_item _ _ | exact hF_knows _ _ | exact hF_sum _ _ | exact hF_code _ _)) (hk := ?_)))
      | ((with_reducible refine at_d 85 ?_); (refine wl_build0 Tryd.underlying28 zer28 sc5.size (zeros_b _) rfl rfl (hk := ?_)))
      | ((with_reducible refine at_d 86 ?_); (refine wl_eqB rfl rfl eqb28 rfl rfl hok.prev.1 (zeros_len 32) hok.prev.2 (zeros_lt 32) (decide_eq_false HQ.out) (hk := ?_)))
      | ((with_reducible refine at_d 88 ?_); go_loud (refine wl_fld (r := 35) fld34_4 rfl rfl rfl rfl (hk := ?_)))
      | ((with_reducible refine at_d 89 ?_); go_loud (refine wl_load1v rfl rfl rfl (by first | exact St.hasb hst (by repeat (first | exact Pick.head | apply Pick.tail)) | exact St.hasOld hst (by assumption) (by simp) | assumption) HCC.out (by omega) sc4 (hk := ?_)))
      | ((with_reducible refine at_d 92 ?_); (refine wl_fld (r := 53) fld34_7 rfl rfl rfl rfl (hk := ?_)))
      | ((with_reducible refine at_d 93 ?_); (refine wl_load1v rfl rfl rfl (hs := sc31) (hk := ?_)))
      | ((with_reducible refine at_d 95 ?_); (refine wl_cmp (p := (H.toks.length : Int)) (q := 0) (r := true) (by first | exact decide_eq_true (by omega) | exact decide_eq_false (by omega)) rfl rfl rfl rfl rfl (hk := ?_)))
      | ((with_reducible refine at_d 97 ?_); (refine wl_fld (r := 37) fld34_6 rfl rfl rfl rfl (hk := ?_)))
      | ((with_reducible refine at_d 98 ?_); (refine wl_loadP rfl rfl rfl (hs := agg30) (hv := (by first | exact hF_prev _ _ | exact hF_item _ _ | exact hF_knows _ _ | exact hF_sum _ _ | exact hF_code _ _)) (hk := ?_)))
      | ((with_reducible refine at_d 99 ?_); (refine wl_build0 Tryd.underlying30 zer30 sc5.size (zeros_b _) rfl rfl (hk := ?_)))
      | ((with_reducible refine at_d 100 ?_); (refine wl_eqB rfl rfl eqb30 rfl rfl hok.item.1 (zeros_len 16) hok.item.2 (zeros_lt 16) rfl (hk := ?_))))
            refine rg_start (St w [] [(b1, blk 125 (hF H (.slice ad H.toks.length cap)) 34)]) mixed (hst.drew) ?_
            refine rg_take [0, 1, 2, 3, 4, 5, 6, 7, 8, 9, 10, 11, 12, 13, 14, 15, 16, 17, 18, 19] 0 _ rfl (by kernel_rfl) (by kernel_rfl) rfl (cls_st _ _ _) (fun _ _ _ _ _ h => h) ?_
            refine tk_wp (hk := ?_)
            refine tk_wp (hk := ?_)
            first | (refine tk_skip rfl (by rfl) (hk := ?_)) | (refine tk_wp (hk := ?_))
            refine tk_wp (hk := ?_)
            refine tk_wp (hk := ?_)
            first | (refine tk_skip rfl (by rfl) (hk := ?_)) | (refine tk_wp (hk := ?_))
            refine tk_wp (hk := ?_)
            refine tk_wp (hk := ?_)
            first | (refine tk_skip rfl (by rfl) (hk := ?_)) | (refine tk_fld (r := 0) fld34_0 rfl rfl rfl rfl rfl (hk := ?_))
            first | (refine tk_skip rfl (by rfl) (hk := ?_)) | (refine tk_load1 rfl rfl (by rfl) rfl (hs := sc3) (hk := ?_))
            first | (refine tk_skip rfl (by rfl) (hk := ?_)) | (refine tk_ari (p := H.writer) (q := 1) (r := (n : Int)) (k := .i64) (by simp only [ariI] <;> omega) (by show _ ∧ _; omega) rfl rfl rfl rfl rfl rfl (hk := ?_))
            first | (refine tk_skip rfl (by rfl) (hk := ?_)) | (refine tk_fld (r := 54) fld34_8 rfl rfl rfl rfl rfl (hk := ?_))
            first | (refine tk_skip rfl (by rfl) (hk := ?_)) | (refine tk_idxA (i := n) Tryd.underlying32 sc12.size hn6 rfl rfl rfl rfl rfl (hk := ?_))
            first | (refine tk_skip rfl (by rfl) (hk := ?_)) | (refine tk_load1 rfl rfl (by rfl) rfl (fun w hst => (by first | exact St.hasb hst (by repeat (first | exact Pick.head | apply Pick.tail)) | exact St.hasOld hst (by assumption) (by simp) | assumption)) HK.out (by omega) sc12 (hk := ?_))
            first | (refine tk_skip rfl (by rfl) (hk := ?_)) | (refine tk_fld (r := 1) fld34_1 rfl rfl rfl rfl rfl (hk := ?_))
            first | (refine tk_skip rfl (by rfl) (hk := ?_)) | (refine tk_load1 rfl rfl (by rfl) rfl (hs := sc26) (hk := ?_))
            first | (refine tk_skip rfl (by rfl) (hk := ?_)) | (refine tk_ari (p := (H.seq : Int)) (q := 1) (r := ((H.seq : Int) - 1)) (k := .u64) (by simp only [ariI] <;> omega) (by show _ ∧ _; omega) rfl rfl rfl rfl rfl rfl (hk := ?_))
            first | (refine tk_skip rfl (by rfl) (hk := ?_)) | (refine tk_cmp (p := (k : Int)) (q := (H.seq : Int) - 1) (r := decide (k + 1 = H.seq)) (by simp only [cmpI]; exact decide_eq_decide.2 (by omega)) rfl rfl rfl rfl rfl rfl (hk := ?_))
            refine tk_wp (hk := ?_)
            refine tk_wp (hk := ?_)
            refine tk_nil ?_
            refine rg_done (by kernel_rfl) (fun w1 hst1 => ?_) _
            clear hst; have hst := hst1; clear hst1
            go_wp2_with fail
            go_ret
            exact ⟨_, rfl, by rw [HFF.out]; rfl, hst.none⟩
          | true =>
            by_cases ht0 : H.toks = []
            · have hl0 : H.toks.length = 0 := by rw [ht0]; rfl
              have HFF : Hid (formed H = false) := by
                show _ = _
                rw [hform, hb, decide_eq_false hq0, decide_eq_false hq]
                simp
              clear hform
              go_wp2_with (first
      | go_skip
      | ((with_reducible refine at_d 79 ?_); go_loud (refine wl_fld (r := 1) fld34_1 rfl rfl rfl rfl (hk := ?_)))
      | ((with_reducible refine at_d 80 ?_); go_loud (refine wl_load1v rfl rfl rfl (hs := sc26) (hk := ?_)))
      | ((with_reducible refine at_d 81 ?_); go_loud (refine wl_cmp (p := (H.seq : Int)) (q := 1) (r := false) (by simp [cmpI] <;> omega) rfl rfl rfl rfl rfl (hk := ?_)))
      | ((with_reducible refine at_d 83 ?_); (refine wl_fld (r := 2) fld34_2 rfl rfl rfl rfl (hk := ?_)))
      | ((with_reducible refine at_d 84 ?_); (refine wl_loadP rfl rfl rfl (hs := agg28) (hv := (by first | exact hF_prev _ _ | exact hF_item _ _ | exact hF_knows _ _ | exact hF_sum _ _ | exact hF_code _ _)) (hk := ?_)))
      | ((with_reducible refine at_d 85 ?_); (refine wl_build0 Tryd.underlying28 zer28 sc5.size (zeros_b _) rfl rfl (hk := ?_)))
      | ((with_reducible refine at_d 86 ?_); (refine wl_eqB rfl rfl eqb28 rfl rfl hok.prev.1 (zeros_len 32) hok.prev.2 (zeros_lt 32) (decide_eq_false HQ.out) (hk := ?_)))
      | ((with_reducible refine at_d 88 ?_); go_loud (refine wl_fld (r := 35) fld34_4 rfl rfl rfl rfl (hk := ?_)))
      | ((with_reducible refine at_d 89 ?_); go_loud (refine wl_load1v rfl rfl rfl (by first | exact St.hasb hst (by repeat (first | exact Pick.head | apply Pick.tail)) | exact St.hasOld hst (by assumption) (by simp) | assumption) HCC.out (by omega) sc4 (hk := ?_)))
      | ((with_reducible refine at_d 92 ?_); (refine wl_fld (r := 53) fld34_7 rfl rfl rfl rfl (hk := ?_)))
      | ((with_reducible refine at_d 93 ?_); (refine wl_load1v rfl rfl rfl (hs := sc31) (hk := ?_)))
      | ((with_reducible refine at_d 95 ?_); (refine wl_cmp (p := (H.toks.length : Int)) (q := 0) (r := true) (by first | exact decide_eq_true (by omega) | exact decide_eq_false (by omega)) rfl rfl rfl rfl rfl (hk := ?_)))
      | ((with_reducible refine at_d 97 ?_); (refine wl_fld (r := 37) fld34_6 rfl rfl rfl rfl (hk := ?_)))
      | ((with_reducible refine at_d 98 ?_); (refine wl_loadP rfl rfl rfl (hs := agg30) (hv := (by first | exact hF_prev _ _ | exact hF_item _ _ | exact hF_knows _ _ | exact hF_sum _ _ | exact hF_code _ _)) (hk := ?_)))
      | ((with_reducible refine at_d 99 ?_); (refine wl_build0 Tryd.underlying30 zer30 sc5.size (zeros_b _) rfl rfl (hk := ?_)))
      | ((with_reducible refine at_d 100 ?_); (refine wl_eqB rfl rfl eqb30 rfl rfl hok.item.1 (zeros_len 16) hok.item.2 (zeros_lt 16) rfl (hk := ?_))))
              refine rg_start (St w [] [(b1, blk 125 (hF H (.slice ad H.toks.length cap)) 34)]) mixed (hst.drew) ?_
              refine rg_take [0, 1, 2, 3, 4, 5, 6, 7, 8, 9, 10, 11, 12, 13, 14, 15, 16, 17, 18, 19] 0 _ rfl (by kernel_rfl) (by kernel_rfl) rfl (cls_st _ _ _) (fun _ _ _ _ _ h => h) ?_
              refine tk_wp (hk := ?_)
              refine tk_wp (hk := ?_)
              first | (refine tk_skip rfl (by rfl) (hk := ?_)) | (refine tk_wp (hk := ?_))
              refine tk_wp (hk := ?_)
              refine tk_wp (hk := ?_)
              first | (refine tk_skip rfl (by rfl) (hk := ?_)) | (refine tk_wp (hk := ?_))
              refine tk_wp (hk := ?_)
              refine tk_wp (hk := ?_)
              first | (refine tk_skip rfl (by rfl) (hk := ?_)) | (refine tk_fld (r := 0) fld34_0 rfl rfl rfl rfl rfl (hk := ?_))
              first | (refine tk_skip rfl (by rfl) (hk := ?_)) | (refine tk_load1 rfl rfl (by rfl) rfl (hs := sc3) (hk := ?_))
              first | (refine tk_skip rfl (by rfl) (hk := ?_)) | (refine tk_ari (p := H.writer) (q := 1) (r := (n : Int)) (k := .i64) (by simp only [ariI] <;> omega) (by show _ ∧ _; omega) rfl rfl rfl rfl rfl rfl (hk := ?_))
              first | (refine tk_skip rfl (by rfl) (hk := ?_)) | (refine tk_fld (r := 54) fld34_8 rfl rfl rfl rfl rfl (hk := ?_))
              first | (refine tk_skip rfl (by rfl) (hk := ?_)) | (refine tk_idxA (i := n) Tryd.underlying32 sc12.size hn6 rfl rfl rfl rfl rfl (hk := ?_))
              first | (refine tk_skip rfl (by rfl) (hk := ?_)) | (refine tk_load1 rfl rfl (by rfl) rfl (fun w hst => (by first | exact St.hasb hst (by repeat (first | exact Pick.head | apply Pick.tail)) | exact St.hasOld hst (by assumption) (by simp) | assumption)) HK.out (by omega) sc12 (hk := ?_))
              first | (refine tk_skip rfl (by rfl) (hk := ?_)) | (refine tk_fld (r := 1) fld34_1 rfl rfl rfl rfl rfl (hk := ?_))
              first | (refine tk_skip rfl (by rfl) (hk := ?_)) | (refine tk_load1 rfl rfl (by rfl) rfl (hs := sc26) (hk := ?_))
              first | (refine tk_skip rfl (by rfl) (hk := ?_)) | (refine tk_ari (p := (H.seq : Int)) (q := 1) (r := ((H.seq : Int) - 1)) (k := .u64) (by simp only [ariI] <;> omega) (by show _ ∧ _; omega) rfl rfl rfl rfl rfl rfl (hk := ?_))
              first | (refine tk_skip rfl (by rfl) (hk := ?_)) | (refine tk_cmp (p := (k : Int)) (q := (H.seq : Int) - 1) (r := decide (k + 1 = H.seq)) (by simp only [cmpI]; exact decide_eq_decide.2 (by omega)) rfl rfl rfl rfl rfl rfl (hk := ?_))
              refine tk_wp (hk := ?_)
              refine tk_wp (hk := ?_)
              refine tk_nil ?_
              refine rg_done (by kernel_rfl) (fun w1 hst1 => ?_) _
              clear hst; have hst := hst1; clear hst1
              go_wp2_with fail
              go_ret
              exact ⟨_, rfl, by rw [HFF.out]; rfl, hst.none⟩
            · have hl0 : 0 < H.toks.length := List.length_pos_iff.2 ht0
              have HFF : Hid (formed H = false) := by
                show _ = _
                rw [hform, hb, decide_eq_false hq0, decide_eq_false hq, decide_eq_false ht0]
                simp
              clear hform
              go_wp2_with (first
      | go_skip
      | ((with_reducible refine at_d 79 ?_); go_loud (refine wl_fld (r := 1) fld34_1 rfl rfl rfl rfl (hk := ?_)))
      | ((with_reducible refine at_d 80 ?_); go_loud (refine wl_load1v rfl rfl rfl (hs := sc26) (hk := ?_)))
      | ((with_reducible refine at_d 81 ?_); go_loud (refine wl_cmp (p := (H.seq : Int)) (q := 1) (r := false) (by simp [cmpI] <;> omega) rfl rfl rfl rfl rfl (hk := ?_)))
      | ((with_reducible refine at_d 83 ?_); (refine wl_fld (r := 2) fld34_2 rfl rfl rfl rfl (hk := ?_)))
      | ((with_reducible refine at_d 84 ?_); (refine wl_loadP rfl rfl rfl (hs := agg28) (hv := (by first | exact hF_prev _ _ | exact hF_item _ _ | exact hF_knows _ _ | exact hF_sum _ _ | exact hF_code _ _)) (hk := ?_)))
      | ((with_reducible refine at_d 85 ?_); (refine wl_build0 Tryd.underlying28 zer28 sc5.size (zeros_b _) rfl rfl (hk := ?_)))
      | ((with_reducible refine at_d 86 ?_); (refine wl_eqB rfl rfl eqb28 rfl rfl hok.prev.1 (zeros_len 32) hok.prev.2 (zeros_lt 32) (decide_eq_false HQ.out) (hk := ?_)))
      | ((with_reducible refine at_d 88 ?_); go_loud (refine wl_fld (r := 35) fld34_4 rfl rfl rfl rfl (hk := ?_)))
      | ((with_reducible refine at_d 89 ?_); go_loud (refine wl_load1v rfl rfl rfl (by first | exact St.hasb hst (by repeat (first | exact Pick.head | apply Pick.tail)) | exact St.hasOld hst (by assumption) (by simp) | assumption) HCC.out (by omega) sc4 (hk := ?_)))
      | ((with_reducible refine at_d 92 ?_); (refine wl_fld (r := 53) fld34_7 rfl rfl rfl rfl (hk := ?_)))
      | ((with_reducible refine at_d 93 ?_); (refine wl_load1v rfl rfl rfl (hs := sc31) (hk := ?_)))
      | ((with_reducible refine at_d 95 ?_); (refine wl_cmp (p := (H.toks.length : Int)) (q := 0) (r := false) (by first | exact decide_eq_true (by omega) | exact decide_eq_false (by omega)) rfl rfl rfl rfl rfl (hk := ?_)))
      | ((with_reducible refine at_d 97 ?_); (refine wl_fld (r := 37) fld34_6 rfl rfl rfl rfl (hk := ?_)))
      | ((with_reducible refine at_d 98 ?_); (refine wl_loadP rfl rfl rfl (hs := agg30) (hv := (by first | exact hF_prev _ _ | exact hF_item _ _ | exact hF_knows _ _ | exact hF_sum _ _ | exact hF_code _ _)) (hk := ?_)))
      | ((with_reducible refine at_d 99 ?_); (refine wl_build0 Tryd.underlying30 zer30 sc5.size (zeros_b _) rfl rfl (hk := ?_)))
      | ((with_reducible refine at_d 100 ?_); (refine wl_eqB rfl rfl eqb30 rfl rfl hok.item.1 (zeros_len 16) hok.item.2 (zeros_lt 16) rfl (hk := ?_))))
              refine rg_start (St w [] [(b1, blk 125 (hF H (.slice ad H.toks.length cap)) 34)]) mixed (hst.drew) ?_
              refine rg_take [0, 1, 2, 3, 4, 5, 6, 7, 8, 9, 10, 11, 12, 13, 14, 15, 16, 17, 18, 19] 0 _ rfl (by kernel_rfl) (by kernel_rfl) rfl (cls_st _ _ _) (fun _ _ _ _ _ h => h) ?_
              refine tk_wp (hk := ?_)
              refine tk_wp (hk := ?_)
              first | (refine tk_skip rfl (by rfl) (hk := ?_)) | (refine tk_wp (hk := ?_))
              refine tk_wp (hk := ?_)
              refine tk_wp (hk := ?_)
              first | (refine tk_skip rfl (by rfl) (hk := ?_)) | (refine tk_wp (hk := ?_))
              refine tk_wp (hk := ?_)
              refine tk_wp (hk := ?_)
              first | (refine tk_skip rfl (by rfl) (hk := ?_)) | (refine tk_fld (r := 0) fld34_0 rfl rfl rfl rfl rfl (hk := ?_))
              first | (refine tk_skip rfl (by rfl) (hk := ?_)) | (refine tk_load1 rfl rfl (by rfl) rfl (hs := sc3) (hk := ?_))
              first | (refine tk_skip rfl (by rfl) (hk := ?_)) | (refine tk_ari (p := H.writer) (q := 1) (r := (n : Int)) (k := .i64) (by simp only [ariI] <;> omega) (by show _ ∧ _; omega) rfl rfl rfl rfl rfl rfl (hk := ?_))
              first | (refine tk_skip rfl (by rfl) (hk := ?_)) | (refine tk_fld (r := 54) fld34_8 rfl rfl rfl rfl rfl (hk := ?_))
              first | (refine tk_skip rfl (by rfl) (hk := ?_)) | (refine tk_idxA (i := n) Tryd.underlying32 sc12.size hn6 rfl rfl rfl rfl rfl (hk := ?_))
              first | (refine tk_skip rfl (by rfl) (hk := ?_)) | (refine tk_load1 rfl rfl (by rfl) rfl (fun w hst => (by first | exact St.hasb hst (by repeat (first | exact Pick.head | apply Pick.tail)) | exact St.hasOld hst (by assumption) (by simp) | assumption)) HK.out (by omega) sc12 (hk := ?_))
              first | (refine tk_skip rfl (by rfl) (hk := ?_)) | (refine tk_fld (r := 1) fld34_1 rfl rfl rfl rfl rfl (hk := ?_))
              first | (refine tk_skip rfl (by rfl) (hk := ?_)) | (refine tk_load1 rfl rfl (by rfl) rfl (hs := sc26) (hk := ?_))
              first | (refine tk_skip rfl (by rfl) (hk := ?_)) | (refine tk_ari (p := (H.seq : Int)) (q := 1) (r := ((H.seq : Int) - 1)) (k := .u64) (by simp only [ariI] <;> omega) (by show _ ∧ _; omega) rfl rfl rfl rfl rfl rfl (hk := ?_))
              first | (refine tk_skip rfl (by rfl) (hk := ?_)) | (refine tk_cmp (p := (k : Int)) (q := (H.seq : Int) - 1) (r := decide (k + 1 = H.seq)) (by simp only [cmpI]; exact decide_eq_decide.2 (by omega)) rfl rfl rfl rfl rfl rfl (hk := ?_))
              refine tk_wp (hk := ?_)
              refine tk_wp (hk := ?_)
              refine tk_nil ?_
              refine rg_done (by kernel_rfl) (fun w1 hst1 => ?_) _
              clear hst; have hst := hst1; clear hst1
              go_wp2_with fail
              go_ret
              exact ⟨_, rfl, by rw [HFF.out]; rfl, hst.none⟩
end Go.Proofs.YthbobmpeaemdnaaDoor
