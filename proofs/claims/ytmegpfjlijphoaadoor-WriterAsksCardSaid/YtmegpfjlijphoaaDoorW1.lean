/- The walks of law13's helpers: ref Tip, Behind. -/
import Derived.Test.YtmegpfjlijphoaaDoorW0
import Derived.Test.YtmegpfjlijphoaaDoorR5
namespace Go.Jal
open Go.RowKit
def Hdr.setW (H : Hdr) (x : Int) : Hdr := { H with writer := x }
def Hdr.setS (H : Hdr) (x : Nat) : Hdr := { H with seq := x }
def Hdr.setP (H : Hdr) (l : List Nat) : Hdr := { H with prev := l }
def Hdr.setK (H : Hdr) (m x : Nat) : Hdr := { H with knows := H.knows.set m x }
/-- a header behind others of writer m + 1 -/
def behind (hs : List Hdr) (m : Nat) (H : Hdr) : Hdr := (((H.setW ((m : Int) + 1)).setS (hs.length + 1)).setP (tipOf hs)).setK m hs.length
theorem hF_w (H : Hdr) (t : Value) (x : Int) (T : TypeId) : blk 125 (upd (hF H t) 0 (.int .i64 x)) T = blk 125 (hF (H.setW x) t) T := blk_congr fun j hj => by
  unfold upd hF Hdr.setW
  by_cases c : j = 0
  · subst c; rfl
  · rw [if_neg c]
    by_cases e : j < 34
    · rw [blt_t e, blt_f (show 1 ≤ j by omega)]; rfl
    · rw [blt_f (show 34 ≤ j by omega)]; rfl
theorem hF_s (H : Hdr) (t : Value) (x : Nat) (z : Int) (hz : z = x) (T : TypeId) : blk 125 (upd (hF H t) 1 (.int .u64 z)) T = blk 125 (hF (H.setS x) t) T := blk_congr fun j hj => by
  subst hz
  unfold upd hF Hdr.setS
  by_cases c : j = 1
  · subst c; rfl
  · rw [if_neg c]
    by_cases e : j < 34
    · rw [blt_t e]
      by_cases d : j < 1
      · rw [blt_t d]; rfl
      · rw [blt_f (show 1 ≤ j by omega), blt_f (show 2 ≤ j by omega)]; rfl
    · rw [blt_f (show 34 ≤ j by omega)]; rfl
theorem hF_p (H : Hdr) (t : Value) (l : List Nat) (T : TypeId) : blk 125 (blit (hF H t) 2 32 (bF l)) T = blk 125 (hF (H.setP l) t) T := blk_congr fun j hj => by
  unfold blit hF Hdr.setP
  by_cases e : j < 34
  · rw [blt_t e]
    by_cases d : j < 1
    · rw [blt_t d, if_neg (by omega)]; rfl
    · rw [blt_f (show 1 ≤ j by omega)]
      by_cases g : j < 2
      · rw [blt_t g, if_neg (by omega)]; rfl
      · rw [blt_f (show 2 ≤ j by omega), if_pos (by omega)]; rfl
  · rw [blt_f (show 34 ≤ j by omega), if_neg (by omega)]; rfl
theorem hF_k (H : Hdr) (t : Value) (m x : Nat) (hm : m < 6) (hk : H.knows.length = 6) (T : TypeId) : blk 125 (upd (hF H t) (54 + 1 * m) (.int .u64 (x : Int))) T = blk 125 (hF (H.setK m x) t) T := blk_congr fun j hj => by
  unfold upd hF Hdr.setK
  by_cases e : j < 53
  · rw [if_neg (by omega)]
    by_cases d : j < 34
    · rw [blt_t d]; rfl
    · rw [blt_f (show 34 ≤ j by omega), blt_t e]; rfl
  · rw [blt_f (show 34 ≤ j by omega), blt_f (show 53 ≤ j by omega)]
    by_cases g : j < 54
    · rw [blt_t g, if_neg (by omega)]; rfl
    · rw [blt_f (show 54 ≤ j by omega)]
      by_cases i : j < 60
      · rw [blt_t i]
        simp only [cond_false, cond_true]
        by_cases q : j = 54 + 1 * m
        · rw [if_pos q, show j - 54 = m by omega, List.getD_eq_getElem?_getD, List.getElem?_set_self (by omega)]; rfl
        · rw [if_neg q, List.getD_eq_getElem?_getD, List.getD_eq_getElem?_getD, List.getElem?_set_ne (by omega)]
      · rw [blt_f (show 60 ≤ j by omega), if_neg (by omega)]; rfl
end Go.Jal
namespace Go.Proofs.YtmegpfjlijphoaaDoor
open Go.RowKit Go.Jal
set_option maxRecDepth 100000 in
theorem reftip_any (v : Value) (hs : List Hdr) (w : World) (h : Hds w v hs) (hK : Has w 0 64 (wF Sha.K)) :
    Ret Tryd.prog 15 #[v] w fun v' w' => v' = .agg (row 32 (bF (tipOf hs))) ∧ St w [] [] w' := by
  obtain ⟨ad, c, rfl, hcap, hcm, _⟩ := id h
  unfold maxLen at hcm
  by_cases hz : hs = []
  · subst hz
    clear h
    go_enter Tryd.func15, Tryd.ntmps15
    have hst := St.refl w
    go_wp2_with (first
      | ((with_reducible refine at_d 2 ?_); go_loud (refine wl_alloc rfl rfl hst zer29 ?_; clear hst; intro b2 w2 hb2 hst))
      | ((with_reducible refine at_d 6 ?_); go_loud (refine wl_build0 Tryd.underlying29 zer29 sc5.size (zeros_b _) rfl rfl (hk := ?_)))
      | ((with_reducible refine at_n (.store 29 (.tmp 2) (.tmp 6)) ?_); go_loud ((first | (refine wl_storeAll rfl rfl rfl rfl (hs := agg29) (hk := ?_)) | (refine wl_storeN rfl rfl rfl rfl (hs := agg29) (hk := ?_))); clear hst; intro w1 hst)))
    exact ret_cellN rfl rfl (St.hasb hst Pick.head) agg29 rfl ⟨_, rfl, rfl, hst.none⟩
  · obtain ⟨m, hm⟩ : ∃ m, hs.length = m + 1 := ⟨hs.length - 1, by have := List.length_pos_iff.2 hz; omega⟩
    obtain ⟨G, hG⟩ : ∃ G, hs[m]? = some G := ⟨_, List.getElem?_eq_getElem (by omega)⟩
    have hT : tipOf hs = hashB G := by
      unfold tipOf
      rw [List.getLast?_eq_getElem?, show hs.length - 1 = m by omega, hG]
    rw [hT]
    obtain ⟨b, off, N, f, tok, rfl, hN, hbd, hlt, _, gok, gt, hcell⟩ := Hds.get h hG
    have HA := Lib.hid hcell
    rw [hm] at hbd hlt hcap
    have HM := Lib.hid hm
    have HN := Lib.hid hN
    have HT : Hid (∀ w', St w [] [] w' → Toks w' tok G.toks) := by show ∀ _, _; exact fun w' h' => gt.keep h'
    have HKK : Hid (∀ w', St w [] [] w' → Has w' 0 64 (wF Sha.K)) := by show ∀ _, _; exact fun w' h' => hK.keep h'
    clear hz h hG hcell hm hT gt hK hN
    rw [HM.out]
    go_enter Tryd.func15, Tryd.ntmps15
    have hst := St.refl w
    go_wp2_with (first
      | ((with_reducible refine at_d 2 ?_); go_loud (refine wl_alloc rfl rfl hst zer29 ?_; clear hst; intro b2 w2 hb2 hst))
      | ((with_reducible refine at_d 5 ?_); go_loud ((first | (refine wl_cmp (p := (m : Int) + 1) (q := 0) (r := true) (by simp only [cmpI, decide_eq_true_eq, decide_eq_false_iff_not]; omega) rfl rfl rfl rfl rfl (hk := ?_)) | (refine wl_cmp (p := (m : Int) + 1) (q := 0) (r := false) (by simp only [cmpI, decide_eq_true_eq, decide_eq_false_iff_not]; omega) rfl rfl rfl rfl rfl (hk := ?_)))))
      | ((with_reducible refine at_d 10 ?_); go_loud (refine wl_ari (p := (m : Int) + 1) (q := 1) (r := (m : Int)) (k := .i64) (by simp only [ariI] <;> omega) (by show _ ∧ _; omega) rfl rfl rfl rfl rfl (hk := ?_)))
      | ((with_reducible refine at_d 11 ?_); go_loud (refine wl_idx (i := m) Tryd.underlying22 siz35 (by omega) rfl rfl rfl rfl (hk := ?_)))
      | ((with_reducible refine at_d 12 ?_); go_loud (refine wl_loadP rfl rfl rfl (HN.out.keep hst.none) agg35 (by omega) HA.out (hk := ?_)))
      | ((with_reducible refine at_d 13 ?_); go_loud (refine wl_call pl23 rfl rfl rfl (refhash_any G _ _ gok (HT.out _ hst.none) (HKK.out _ hst.none)) ?_; rintro v13 w13 ⟨rfl, hst13⟩; replace hst := hst.call hst13; clear hst13))
      | ((with_reducible refine at_n (.store 29 (.tmp 2) (.tmp 13)) ?_); go_loud ((first | (refine wl_storeAll rfl rfl rfl rfl (hs := agg29) (hk := ?_)) | (refine wl_storeN rfl rfl rfl rfl (hs := agg29) (hk := ?_))); clear hst; intro w1 hst)))
    exact ret_cellN rfl rfl (St.hasb hst Pick.head) agg29 rfl ⟨_, rfl, rfl, hst.none⟩
set_option maxRecDepth 100000 in
theorem behind_any (v : Value) (hs : List Hdr) (m : Nat) (H : Hdr) (tok : Value) (w : World) (h : Hds w v hs) (hm : m < 6) (hok : H.Ok) (hl : hs.length < 1000) (ht : tok.oneCell' = true) (hK : Has w 0 64 (wF Sha.K)) :
    Ret Tryd.prog 11 #[v, .int .i64 ((m : Int) + 1), .agg (row 125 (hF H tok))] w fun v' w' => v' = .agg (row 125 (hF (behind hs m H) tok)) ∧ St w [] [] w' := by
  obtain ⟨ad, c, rfl, hcap, hcm, _⟩ := id h
  have HH : Hid (∀ w', St w [] [] w' → Hds w' (.slice ad hs.length c) hs) := by show ∀ _, _; exact fun w' h' => h.keep h'
  have HKK : Hid (∀ w', St w [] [] w' → Has w' 0 64 (wF Sha.K)) := by show ∀ _, _; exact fun w' h' => hK.keep h'
  have hk6 := hok.knows.1
  have HK6 := Lib.hid hk6
  have HHT := Lib.hid ht
  clear h hK hk6 hok ht
  go_enter Tryd.func11, Tryd.ntmps11
  have hst := St.refl w
  go_wp2_with (first
      | ((with_reducible refine at_d 5 ?_); go_loud (refine wl_box rfl rfl rfl (by first | rfl | exact row_one _) hst ?_; clear hst; intro b5 w5 hb5 hst))
      | ((with_reducible refine at_d 6 ?_); go_loud (refine wl_alloc rfl rfl hst zer35 ?_; clear hst; intro b6 w6 hb6 hst))
      | ((with_reducible refine at_d 8 ?_); go_loud (refine wl_fld (r := 0) fld35_0 rfl rfl rfl rfl (hk := ?_)))
      | ((with_reducible refine at_n (.store 3 (.tmp 8) (.tmp 7)) ?_); go_loud (refine wl_store1 rfl rfl rfl (by (conv => lhs; whnf) <;> rfl) hst (by repeat (first | exact Pick.head | apply Pick.tail)) (by omega) sc3 (by rfl) (hk := ?_); intro w1 hst1; rw [hF_w] at hst1; clear hst; have hst := hst1; clear hst1))
      | ((with_reducible refine at_d 11 ?_); go_loud (refine wl_ari (p := (hs.length : Int)) (q := 1) (r := ((hs.length + 1 : Nat) : Int)) (k := .i64) (by simp only [ariI] <;> omega) (by show _ ∧ _; omega) rfl rfl rfl rfl rfl (hk := ?_)))
      | ((with_reducible refine at_d 13 ?_); go_loud (refine wl_fld (r := 1) fld35_1 rfl rfl rfl rfl (hk := ?_)))
      | ((with_reducible refine at_n (.store 27 (.tmp 13) (.tmp 12)) ?_); go_loud (refine wl_store1 rfl rfl rfl (by (conv => lhs; whnf) <;> rfl) hst (by repeat (first | exact Pick.head | apply Pick.tail)) (by omega) sc12 (by rfl) (hk := ?_); intro w1 hst1; rw [hF_s _ _ (hs.length + 1) ((hs.length : Int) + 1) (by omega)] at hst1; clear hst; have hst := hst1; clear hst1))
      | ((with_reducible refine at_d 15 ?_); go_loud (refine wl_call pl15 rfl rfl rfl (reftip_any _ hs _ (HH.out _ hst.none) (HKK.out _ hst.none)) ?_; rintro v15 w15 ⟨rfl, hst15⟩; replace hst := hst.call hst15; clear hst15))
      | ((with_reducible refine at_d 16 ?_); go_loud (refine wl_fld (r := 2) fld35_2 rfl rfl rfl rfl (hk := ?_)))
      | ((with_reducible refine at_n (.store 29 (.tmp 16) (.tmp 15)) ?_); go_loud (refine wl_storeN rfl rfl rfl rfl hst (by repeat (first | exact Pick.head | apply Pick.tail)) (by omega) agg29 (by intro j hj; rfl) (hk := ?_); intro w1 hst1; (try simp only [List.nil_append] at hst1); rw [hF_p] at hst1; clear hst; have hst := hst1; clear hst1))
      | ((with_reducible refine at_d 18 ?_); go_loud (refine wl_ari (p := (m : Int) + 1) (q := 1) (r := (m : Int)) (k := .i64) (by simp only [ariI] <;> omega) (by show _ ∧ _; omega) rfl rfl rfl rfl rfl (hk := ?_)))
      | ((with_reducible refine at_d 22 ?_); go_loud (refine wl_fld (r := 54) fld35_8 rfl rfl rfl rfl (hk := ?_)))
      | ((with_reducible refine at_d 23 ?_); go_loud (refine wl_idxA (i := m) Tryd.underlying33 sc12.size hm rfl rfl rfl rfl (hk := ?_)))
      | ((with_reducible refine at_n (.store 27 (.tmp 23) (.tmp 21)) ?_); go_loud (refine wl_store1 rfl rfl rfl (by (conv => lhs; whnf) <;> rfl) hst (by repeat (first | exact Pick.head | apply Pick.tail)) (by omega) sc12 (by rfl) (hk := ?_); intro w1 hst1; rw [hF_k _ _ _ _ hm (show (((H.setW ((m : Int) + 1)).setS (hs.length + 1)).setP (tipOf hs)).knows.length = 6 from HK6.out)] at hst1; clear hst; have hst := hst1; clear hst1))
      | ((with_reducible refine at_d 24 ?_); go_loud ((first | (refine wl_loadAll rfl rfl rfl (hs := agg35) (hk := ?_)) | (refine wl_loadN rfl rfl rfl (hs := agg35) (hk := ?_)))))
      | ((with_reducible refine at_n (.store 35 (.tmp 6) (.tmp 24)) ?_); go_loud (refine wl_storeAll rfl rfl rfl rfl hst (by repeat (first | exact Pick.head | apply Pick.tail)) agg35 (fun j _ => hF_one _ _ HHT.out j) (hk := ?_); intro w1 hst1; clear hst; have hst := hst1; clear hst1)))
  exact ret_cellN rfl rfl (St.hasb hst Pick.head) agg35 rfl ⟨_, rfl, rfl, hst.none⟩
end Go.Proofs.YtmegpfjlijphoaaDoor
