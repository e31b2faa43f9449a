/- The walks of law13's helpers: New, few, awake. -/
import Derived.Test.YtmegpfjlijphoaaDoorAdd1
namespace Go.Proofs.YtmegpfjlijphoaaDoor
open Go.RowKit Go.Jal
/-- awake's header -/
def aH : Hdr := { zH with writer := 1, seq := 1, size := 80 }
def FewR (hs : List Hdr) (n : Nat) (v : Value) : Prop := ∃ r : Bool, v = .bool r ∧ (r = true → hs.length ≤ n ∧ ∀ H ∈ hs, H.toks.length ≤ 20)
theorem aH_ok : aH.Ok := by
  constructor <;> simp [aH, zH, isB, zeros] <;> decide
set_option maxRecDepth 100000 in
theorem new_any (wr : Int) (h1 : -9223372036854775808 ≤ wr) (h2 : wr ≤ 9223372036854775807) (w : World) :
    Ret Tryd.prog 10 #[.int .i64 wr] w fun v' w' => ∃ b E, v' = .pointer (some ⟨b, 0, none⟩) ∧ ChainO b wr [] E ∧ St w [] E w' := by
  have hb : Tryd.prog.built 56 [(0, .int .i64 wr)] = some (row 34 (cF wr (.slice none 0 0) (zeros 32))) := by kernel_rfl
  have HB := Lib.hid hb
  clear hb
  go_enter Tryd.func10, Tryd.ntmps10
  have hst := St.refl w
  go_wp2_with (first
      | ((with_reducible refine at_d 4 ?_); go_loud (refine wl_buildC (f := cF wr (.slice none 0 0) (zeros 32)) HB.out rfl rfl rfl (hk := ?_)))
      | ((with_reducible refine at_d 5 ?_); go_loud (refine wl_box rfl rfl rfl (by first | rfl | exact row_one _) hst ?_; clear hst; intro b5 w5 hb5 hst)))
  go_ret
  have hc : ChainO b5 wr [] [(b5, blk 34 (cF wr (.slice none 0 0) (zeros 32)) 56)] := by
    refine ⟨.slice none 0 0, fun _ => nB 0, [], [], rfl, Own.nil, ?_, by simp, h1, h2⟩
    intro i H h
    simp at h
  exact ⟨_, rfl, _, _, rfl, hc, hst⟩
set_option maxRecDepth 100000 in
theorem few_any (v : Value) (hs : List Hdr) (n : Nat) (hn : n < 100) (w : World) (h : Hds w v hs) :
    Ret Tryd.prog 9 #[v, .int .i64 (n : Int)] w fun v' w' => FewR hs n v' ∧ w = w' := by
  obtain ⟨ad, c, rfl, hcap, hcm, _⟩ := id h
  have HH := Lib.hid h
  unfold maxLen at hcm
  clear h
  go_enter Tryd.func9, Tryd.ntmps9
  go_wp2_with fail
  go_loop [5] (fun i => ∃ k : Nat, k ≤ min hs.length 100 ∧ i = .int .i64 (k : Int) ∧ Hid (∀ j G, j < k → hs[j]? = some G → G.toks.length ≤ 20)) (fun i => 100 - (intOf i).toNat)
  case atStart => exact ⟨0, by omega, rfl, by intro j G hj; omega⟩
  case round =>
    obtain ⟨k, hk, rfl, hall⟩ := hrel
    by_cases hkl : k < min hs.length 100
    · obtain ⟨G, hG⟩ : ∃ G, hs[k]? = some G := ⟨_, List.getElem?_eq_getElem (by omega)⟩
      obtain ⟨b, off, N, f, tok, rfl, hN, hbd, hlt, _, gok, gt, hcell⟩ := Hds.get HH.out hG
      have hc53 := hcell 53 (by omega)
      obtain ⟨tad, tc, rfl, htc, htm, _⟩ := gt
      unfold maxLen at htm
      have HN := Lib.hid hN
      have HC : Hid (f (off + 125 * k + 53) = .slice tad G.toks.length tc) := hc53
      have HG := Lib.hid hG
      clear hcell hc53 hG hN
      by_cases h20 : G.toks.length ≤ 20
      · go_wp2_with (first
      | go_skip
      | ((with_reducible refine at_d 18 ?_); go_loud (refine wl_idx (i := k) Tryd.underlying22 siz35 (by omega) rfl rfl rfl rfl (hk := ?_)))
      | ((with_reducible refine at_d 19 ?_); go_loud (refine wl_fld fld35_7 rfl rfl rfl rfl (hk := ?_)))
      | ((with_reducible refine at_d 20 ?_); go_loud (refine wl_load1v rfl rfl rfl HN.out HC.out (by omega) sc32 (hk := ?_)))
      | ((with_reducible refine at_d 22 ?_); go_loud ((first | (refine wl_cmp (p := (G.toks.length : Int)) (q := 20) (r := true) (by simp only [cmpI, decide_eq_true_eq, decide_eq_false_iff_not]; omega) rfl rfl rfl rfl rfl (hk := ?_)) | (refine wl_cmp (p := (G.toks.length : Int)) (q := 20) (r := false) (by simp only [cmpI, decide_eq_true_eq, decide_eq_false_iff_not]; omega) rfl rfl rfl rfl rfl (hk := ?_))))))
        go_round
        case rel =>
          refine ⟨k + 1, by omega, by go_num, ?_⟩
          show ∀ j G, _
          intro j G' hj hG'
          by_cases c : j = k
          · subst c
            have := HG.out.symm.trans hG'
            cases this
            exact h20
          · exact hall.out j G' (by omega) hG'
        case measure => simp [intOf]; omega
      · go_wp2_with (first
      | go_skip
      | ((with_reducible refine at_d 18 ?_); go_loud (refine wl_idx (i := k) Tryd.underlying22 siz35 (by omega) rfl rfl rfl rfl (hk := ?_)))
      | ((with_reducible refine at_d 19 ?_); go_loud (refine wl_fld fld35_7 rfl rfl rfl rfl (hk := ?_)))
      | ((with_reducible refine at_d 20 ?_); go_loud (refine wl_load1v rfl rfl rfl HN.out HC.out (by omega) sc32 (hk := ?_)))
      | ((with_reducible refine at_d 22 ?_); go_loud ((first | (refine wl_cmp (p := (G.toks.length : Int)) (q := 20) (r := true) (by simp only [cmpI, decide_eq_true_eq, decide_eq_false_iff_not]; omega) rfl rfl rfl rfl rfl (hk := ?_)) | (refine wl_cmp (p := (G.toks.length : Int)) (q := 20) (r := false) (by simp only [cmpI, decide_eq_true_eq, decide_eq_false_iff_not]; omega) rfl rfl rfl rfl rfl (hk := ?_))))))
        go_ret
        exact ⟨_, rfl, ⟨false, rfl, by intro h; cases h⟩, rfl⟩
    · by_cases hln : hs.length ≤ n
      · have hkk : k = hs.length := by omega
        go_wp2_with (first
      | go_skip
      | ((with_reducible refine at_d 9 ?_); go_loud ((first | (refine wl_cmp (p := (k : Int)) (q := (hs.length : Int)) (r := true) (by simp only [cmpI, decide_eq_true_eq, decide_eq_false_iff_not]; omega) rfl rfl rfl rfl rfl (hk := ?_)) | (refine wl_cmp (p := (k : Int)) (q := (hs.length : Int)) (r := false) (by simp only [cmpI, decide_eq_true_eq, decide_eq_false_iff_not]; omega) rfl rfl rfl rfl rfl (hk := ?_)))))
      | ((with_reducible refine at_d 12 ?_); ((first | (refine wl_cmp (p := (k : Int)) (q := 100) (r := true) (by simp only [cmpI, decide_eq_true_eq, decide_eq_false_iff_not]; omega) rfl rfl rfl rfl rfl (hk := ?_)) | (refine wl_cmp (p := (k : Int)) (q := 100) (r := false) (by simp only [cmpI, decide_eq_true_eq, decide_eq_false_iff_not]; omega) rfl rfl rfl rfl rfl (hk := ?_)))))
      | ((with_reducible refine at_d 26 ?_); go_loud ((first | (refine wl_cmp (p := (hs.length : Int)) (q := (n : Int)) (r := true) (by simp only [cmpI, decide_eq_true_eq, decide_eq_false_iff_not]; omega) rfl rfl rfl rfl rfl (hk := ?_)) | (refine wl_cmp (p := (hs.length : Int)) (q := (n : Int)) (r := false) (by simp only [cmpI, decide_eq_true_eq, decide_eq_false_iff_not]; omega) rfl rfl rfl rfl rfl (hk := ?_))))))
        go_ret
        exact ⟨_, rfl, ⟨true, rfl, fun _ => ⟨hln, fun H hH => by obtain ⟨i, hi⟩ := List.getElem?_of_mem hH; exact hall.out i H (by have := (List.getElem?_eq_some_iff.1 hi).1; omega) hi⟩⟩, rfl⟩
      · by_cases hkk : k < hs.length
        · go_wp2_with (first
      | go_skip
      | ((with_reducible refine at_d 9 ?_); go_loud ((first | (refine wl_cmp (p := (k : Int)) (q := (hs.length : Int)) (r := true) (by simp only [cmpI, decide_eq_true_eq, decide_eq_false_iff_not]; omega) rfl rfl rfl rfl rfl (hk := ?_)) | (refine wl_cmp (p := (k : Int)) (q := (hs.length : Int)) (r := false) (by simp only [cmpI, decide_eq_true_eq, decide_eq_false_iff_not]; omega) rfl rfl rfl rfl rfl (hk := ?_)))))
      | ((with_reducible refine at_d 12 ?_); ((first | (refine wl_cmp (p := (k : Int)) (q := 100) (r := true) (by simp only [cmpI, decide_eq_true_eq, decide_eq_false_iff_not]; omega) rfl rfl rfl rfl rfl (hk := ?_)) | (refine wl_cmp (p := (k : Int)) (q := 100) (r := false) (by simp only [cmpI, decide_eq_true_eq, decide_eq_false_iff_not]; omega) rfl rfl rfl rfl rfl (hk := ?_)))))
      | ((with_reducible refine at_d 26 ?_); go_loud ((first | (refine wl_cmp (p := (hs.length : Int)) (q := (n : Int)) (r := true) (by simp only [cmpI, decide_eq_true_eq, decide_eq_false_iff_not]; omega) rfl rfl rfl rfl rfl (hk := ?_)) | (refine wl_cmp (p := (hs.length : Int)) (q := (n : Int)) (r := false) (by simp only [cmpI, decide_eq_true_eq, decide_eq_false_iff_not]; omega) rfl rfl rfl rfl rfl (hk := ?_))))))
          go_ret
          exact ⟨_, rfl, ⟨false, rfl, by intro h; cases h⟩, rfl⟩
        · go_wp2_with (first
      | go_skip
      | ((with_reducible refine at_d 9 ?_); go_loud ((first | (refine wl_cmp (p := (k : Int)) (q := (hs.length : Int)) (r := true) (by simp only [cmpI, decide_eq_true_eq, decide_eq_false_iff_not]; omega) rfl rfl rfl rfl rfl (hk := ?_)) | (refine wl_cmp (p := (k : Int)) (q := (hs.length : Int)) (r := false) (by simp only [cmpI, decide_eq_true_eq, decide_eq_false_iff_not]; omega) rfl rfl rfl rfl rfl (hk := ?_)))))
      | ((with_reducible refine at_d 12 ?_); ((first | (refine wl_cmp (p := (k : Int)) (q := 100) (r := true) (by simp only [cmpI, decide_eq_true_eq, decide_eq_false_iff_not]; omega) rfl rfl rfl rfl rfl (hk := ?_)) | (refine wl_cmp (p := (k : Int)) (q := 100) (r := false) (by simp only [cmpI, decide_eq_true_eq, decide_eq_false_iff_not]; omega) rfl rfl rfl rfl rfl (hk := ?_)))))
      | ((with_reducible refine at_d 26 ?_); go_loud ((first | (refine wl_cmp (p := (hs.length : Int)) (q := (n : Int)) (r := true) (by simp only [cmpI, decide_eq_true_eq, decide_eq_false_iff_not]; omega) rfl rfl rfl rfl rfl (hk := ?_)) | (refine wl_cmp (p := (hs.length : Int)) (q := (n : Int)) (r := false) (by simp only [cmpI, decide_eq_true_eq, decide_eq_false_iff_not]; omega) rfl rfl rfl rfl rfl (hk := ?_))))))
          go_ret
          exact ⟨_, rfl, ⟨false, rfl, by intro h; cases h⟩, rfl⟩
set_option maxRecDepth 100000 in
set_option maxHeartbeats 4000000 in
theorem awake_any (w : World) (hK : Has w 1 64 (wF Sha.K)) : Ret Tryd.prog 8 #[] w fun v' w' => v' = .bool true ∧ St w [] [] w' := by
  have hb : Tryd.prog.built 35 [(0, .int .i64 1), (1, .int .u64 1), (10, .int .i64 80)] = some (row 125 (hF aH (.slice none 0 0))) := by kernel_rfl
  have HB := Lib.hid hb
  have HK : Hid (∀ L w', St w [] L w' → Has w' 1 64 (wF Sha.K)) := by show ∀ _ _ _, _; exact fun L w' h => hK.keep h
  have HA : Hid (askOf 1 [] aH = 0) := by show _ = _; decide +kernel
  clear hb hK
  go_enter Tryd.func8, Tryd.ntmps8
  have hst := St.refl w
  go_wp2_with (first
      | go_skip
      | ((with_reducible refine at_d 2 ?_); go_loud (refine wl_call pl10 rfl rfl rfl (new_any 1 (by decide) (by decide) _) ?_; rintro v2 w2 ⟨b, E, rfl, hch, hst2⟩; replace hst := hst.call hst2; clear hst2))
      | ((with_reducible refine at_d 7 ?_); (refine wl_buildC (f := hF aH (.slice none 0 0)) HB.out rfl rfl rfl (hk := ?_)))
      | ((with_reducible refine at_d 8 ?_); (refine wl_call pl16 rfl rfl rfl (add_any b 1 [] aH (.slice none 0 0) _ E hch (fun p hp => hst.own p (by simp [hp])) (by simpa using hst.nodup) aH_ok (fun L w' _ => ⟨none, 0, rfl, Nat.le_refl _, by simp [maxLen], (by intro t h; cases h), fun _ => rfl, fun h => absurd rfl h⟩) (fun L w' h => HK.out _ _ (hst.callE h)) (by simp)) ?_; rintro v8 w8 ⟨rfl, E8, hch8, hst8⟩; replace hst := hst.callE hst8; clear hst8; rw [HA.out] at hch8; replace hch8 : ChainO b 1 [aH] E8 := hch8; rw [HA.out]))
      | ((with_reducible refine at_d 13 ?_); (refine wl_call pl13 rfl rfl rfl (head_any b 1 [aH] _ (hch8.read (fun p hp => hst.own p (by simp [hp])))) ?_; rintro v13 w13 ⟨rfl, rfl⟩; rw [show ((([aH] : List Hdr).length : Nat) : Int) = 1 from rfl]))
      | ((with_reducible refine at_d 18 ?_); (refine wl_call pl18 rfl rfl rfl (writer_any b 1 [aH] _ (hch8.read (fun p hp => hst.own p (by simp [hp])))) ?_; rintro v18 w18 ⟨rfl, rfl⟩)))
  go_ret
  exact ⟨_, rfl, rfl, hst.none⟩
end Go.Proofs.YtmegpfjlijphoaaDoor
