/- Chains: New; ref Tip, Behind; headers gathered, calls on a chain beside them. -/
import Derived.Test.YthbobmpeaemdnaaDoorAdd1
import Derived.Test.YthbobmpeaemdnaaDoorR5
namespace Go.Proofs.YthbobmpeaemdnaaDoor
open Go.RowKit Go.Jal
set_option maxRecDepth 100000 in
theorem new_any (wr : Int) (h1 : -9223372036854775808 ≤ wr) (h2 : wr ≤ 9223372036854775807) (w : World) :
    Ret Tryd.prog 23 #[.int .i64 wr] w fun v' w' => ∃ b E, v' = .pointer (some ⟨b, 0, none⟩) ∧ ChainO b wr [] E ∧ St w [] E w' := by
  have hb : Tryd.prog.built 92 [(0, .int .i64 wr)] = some (row 34 (cF wr (.slice none 0 0) (zeros 32))) := by kernel_rfl
  have HB := Lib.hid hb
  clear hb
  go_enter Tryd.func23, Tryd.ntmps23
  have hst := St.refl w
  go_wp2_with (first
      | ((with_reducible refine at_d 4 ?_); go_loud (refine wl_buildC (f := cF wr (.slice none 0 0) (zeros 32)) HB.out rfl rfl rfl (hk := ?_)))
      | ((with_reducible refine at_d 5 ?_); go_loud (refine wl_box rfl rfl rfl (by first | rfl | exact row_one _) hst ?_; clear hst; intro b5 w5 hb5 hst)))
  go_ret
  have hc : ChainO b5 wr [] [(b5, blk 34 (cF wr (.slice none 0 0) (zeros 32)) 92)] := by
    refine ⟨.slice none 0 0, fun _ => nB 0, [], [], rfl, Own.nil, ?_, by simp, h1, h2⟩
    intro i H h
    simp at h
  exact ⟨_, rfl, _, _, rfl, hc, hst⟩
end Go.Proofs.YthbobmpeaemdnaaDoor
namespace Go.Jal
open Go.RowKit
def Hdr.setW (H : Hdr) (x : Int) : Hdr := { H with writer := x }
def Hdr.setS (H : Hdr) (x : Nat) : Hdr := { H with seq := x }
def Hdr.setP (H : Hdr) (l : List Nat) : Hdr := { H with prev := l }
def Hdr.setK (H : Hdr) (m x : Nat) : Hdr := { H with knows := H.knows.set m x }
/-- a header behind others of writer m + 1 -/
def behind (hs : List Hdr) (m : Nat) (H : Hdr) : Hdr := (((H.setW ((m : Int) + 1)).setS (hs.length + 1)).setP (tipOf hs)).setK m hs.length
theorem hF_w (H : Hdr) (t : Value) (x : Int) (T : TypeId) : blk 125 (upd (hF H t) 0 (.int .i64 x)) T = blk 125 (hF (H.setW x) t) T := blk_congr fun j hj => by
  unfold upd hF Hdr.setW
  by_cases c : j = 0
  · subst c; rfl
  · rw [if_neg c]
    by_cases e : j < 34
    · rw [blt_t e, blt_f (show 1 ≤ j by omega)]; rfl
    · rw [blt_f (show 34 ≤ j by omega)]; rfl
theorem hF_s (H : Hdr) (t : Value) (x : Nat) (z : Int) (hz : z = x) (T : TypeId) : blk 125 (upd (hF H t) 1 (.int .u64 z)) T = blk 125 (hF (H.setS x) t) T := blk_congr fun j hj => by
  subst hz
  unfold upd hF Hdr.setS
  by_cases c : j = 1
  · subst c; rfl
  · rw [if_neg c]
    by_cases e : j < 34
    · rw [blt_t e]
      by_cases d : j < 1
      · rw [blt_t d]; rfl
      · rw [blt_f (show 1 ≤ j by omega), blt_f (show 2 ≤ j by omega)]; rfl
    · rw [blt_f (show 34 ≤ j by omega)]; rfl
theorem hF_p (H : Hdr) (t : Value) (l : List Nat) (T : TypeId) : blk 125 (blit (hF H t) 2 32 (bF l)) T = blk 125 (hF (H.setP l) t) T := blk_congr fun j hj => by
  unfold blit hF Hdr.setP
  by_cases e : j < 34
  · rw [blt_t e]
    by_cases d : j < 1
    · rw [blt_t d, if_neg (by omega)]; rfl
    · rw [blt_f (show 1 ≤ j by omega)]
      by_cases g : j < 2
      · rw [blt_t g, if_neg (by omega)]; rfl
      · rw [blt_f (show 2 ≤ j by omega), if_pos (by omega)]; rfl
  · rw [blt_f (show 34 ≤ j by omega), if_neg (by omega)]; rfl
theorem hF_k (H : Hdr) (t : Value) (m x : Nat) (hm : m < 6) (hk : H.knows.length = 6) (T : TypeId) : blk 125 (upd (hF H t) (54 + 1 * m) (.int .u64 (x : Int))) T = blk 125 (hF (H.setK m x) t) T := blk_congr fun j hj => by
  unfold upd hF Hdr.setK
  by_cases e : j < 53
  · rw [if_neg (by omega)]
    by_cases d : j < 34
    · rw [blt_t d]; rfl
    · rw [blt_f (show 34 ≤ j by omega), blt_t e]; rfl
  · rw [blt_f (show 34 ≤ j by omega), blt_f (show 53 ≤ j by omega)]
    by_cases g : j < 54
    · rw [blt_t g, if_neg (by omega)]; rfl
    · rw [blt_f (show 54 ≤ j by omega)]
      by_cases i : j < 60
      · rw [blt_t i]
        simp only [cond_false, cond_true]
        by_cases q : j = 54 + 1 * m
        · rw [if_pos q, show j - 54 = m by omega, List.getD_eq_getElem?_getD, List.getElem?_set_self (by omega)]; rfl
        · rw [if_neg q, List.getD_eq_getElem?_getD, List.getD_eq_getElem?_getD, List.getElem?_set_ne (by omega)]
      · rw [blt_f (show 60 ≤ j by omega), if_neg (by omega)]; rfl
end Go.Jal
namespace Go.Proofs.YthbobmpeaemdnaaDoor
open Go.RowKit Go.Jal
set_option maxRecDepth 100000 in
theorem reftip_any (v : Value) (hs : List Hdr) (w : World) (h : Hds w v hs) (hK : Has w 0 64 (wF Sha.K)) :
    Ret Tryd.prog 59 #[v] w fun v' w' => v' = .agg (row 32 (bF (tipOf hs))) ∧ St w [] [] w' := by
  obtain ⟨ad, c, rfl, hcap, hcm, _⟩ := id h
  unfold maxLen at hcm
  by_cases hz : hs = []
  · subst hz
    clear h
    go_enter Tryd.func59, Tryd.ntmps59
    have hst := St.refl w
    go_wp2_with (first
      | ((with_reducible refine at_d 2 ?_); go_loud (refine wl_alloc rfl rfl hst zer28 ?_; clear hst; intro b2 w2 hb2 hst))
      | ((with_reducible refine at_d 6 ?_); go_loud (refine wl_build0 Tryd.underlying28 zer28 sc5.size (zeros_b _) rfl rfl (hk := ?_)))
      | ((with_reducible refine at_n (.store 28 (.tmp 2) (.tmp 6)) ?_); go_loud ((first | (refine wl_storeAll rfl rfl rfl rfl (hs := agg28) (hk := ?_)) | (refine wl_storeN rfl rfl rfl rfl (hs := agg28) (hk := ?_))); clear hst; intro w1 hst)))
    exact ret_cellN rfl rfl (St.hasb hst Pick.head) agg28 rfl ⟨_, rfl, rfl, hst.none⟩
  · obtain ⟨m, hm⟩ : ∃ m, hs.length = m + 1 := ⟨hs.length - 1, by have := List.length_pos_iff.2 hz; omega⟩
    obtain ⟨G, hG⟩ : ∃ G, hs[m]? = some G := ⟨_, List.getElem?_eq_getElem (by omega)⟩
    have hT : tipOf hs = hashB G := by
      unfold tipOf
      rw [List.getLast?_eq_getElem?, show hs.length - 1 = m by omega, hG]
    rw [hT]
    obtain ⟨b, off, N, f, tok, rfl, hN, hbd, hlt, _, gok, gt, hcell⟩ := Hds.get h hG
    have HA := Lib.hid hcell
    rw [hm] at hbd hlt hcap
    have HM := Lib.hid hm
    have HN := Lib.hid hN
    have HT : Hid (∀ w', St w [] [] w' → Toks w' tok G.toks) := by show ∀ _, _; exact fun w' h' => gt.keep h'
    have HKK : Hid (∀ w', St w [] [] w' → Has w' 0 64 (wF Sha.K)) := by show ∀ _, _; exact fun w' h' => hK.keep h'
    clear hz h hG hcell hm hT gt hK hN
    rw [HM.out]
    go_enter Tryd.func59, Tryd.ntmps59
    have hst := St.refl w
    go_wp2_with (first
      | ((with_reducible refine at_d 2 ?_); go_loud (refine wl_alloc rfl rfl hst zer28 ?_; clear hst; intro b2 w2 hb2 hst))
      | ((with_reducible refine at_d 5 ?_); go_loud (refine wl_cmp (p := (m : Int) + 1) (q := 0) (by first | exact decide_eq_true (by omega) | exact decide_eq_false (by omega)) rfl rfl rfl rfl rfl (hk := ?_)))
      | ((with_reducible refine at_d 10 ?_); go_loud (refine wl_ari (p := (m : Int) + 1) (q := 1) (r := (m : Int)) (k := .i64) (by simp only [ariI] <;> omega) (by show _ ∧ _; omega) rfl rfl rfl rfl rfl (hk := ?_)))
      | ((with_reducible refine at_d 11 ?_); go_loud (refine wl_idx (i := m) Tryd.underlying90 siz34 (by omega) rfl rfl rfl rfl (hk := ?_)))
      | ((with_reducible refine at_d 12 ?_); go_loud (refine wl_loadP rfl rfl rfl (HN.out.keep hst.none) agg34 (by omega) HA.out (hk := ?_)))
      | ((with_reducible refine at_d 13 ?_); go_loud (refine wl_call pl79 rfl rfl rfl (refhash_any G _ _ gok (HT.out _ hst.none) (HKK.out _ hst.none)) ?_; rintro v13 w13 ⟨rfl, hst13⟩; replace hst := hst.call hst13; clear hst13))
      | ((with_reducible refine at_n (.store 28 (.tmp 2) (.tmp 13)) ?_); go_loud ((first | (refine wl_storeAll rfl rfl rfl rfl (hs := agg28) (hk := ?_)) | (refine wl_storeN rfl rfl rfl rfl (hs := agg28) (hk := ?_))); clear hst; intro w1 hst)))
    exact ret_cellN rfl rfl (St.hasb hst Pick.head) agg28 rfl ⟨_, rfl, rfl, hst.none⟩
set_option maxRecDepth 100000 in
theorem behind_any (v : Value) (hs : List Hdr) (m : Nat) (H : Hdr) (tok : Value) (w : World) (h : Hds w v hs) (hm : m < 6) (hok : H.Ok) (hl : hs.length < 1000) (ht : tok.oneCell' = true) (hK : Has w 0 64 (wF Sha.K)) :
    Ret Tryd.prog 39 #[v, .int .i64 ((m : Int) + 1), .agg (row 125 (hF H tok))] w fun v' w' => v' = .agg (row 125 (hF (behind hs m H) tok)) ∧ St w [] [] w' := by
  obtain ⟨ad, c, rfl, hcap, hcm, _⟩ := id h
  have HH : Hid (∀ w', St w [] [] w' → Hds w' (.slice ad hs.length c) hs) := by show ∀ _, _; exact fun w' h' => h.keep h'
  have HKK : Hid (∀ w', St w [] [] w' → Has w' 0 64 (wF Sha.K)) := by show ∀ _, _; exact fun w' h' => hK.keep h'
  have hk6 := hok.knows.1
  have HK6 := Lib.hid hk6
  have HHT := Lib.hid ht
  clear h hK hk6 hok ht
  go_enter Tryd.func39, Tryd.ntmps39
  have hst := St.refl w
  go_wp2_with (first
      | ((with_reducible refine at_d 5 ?_); go_loud (refine wl_box rfl rfl rfl (by first | rfl | exact row_one _) hst ?_; clear hst; intro b5 w5 hb5 hst))
      | ((with_reducible refine at_d 6 ?_); go_loud (refine wl_alloc rfl rfl hst zer34 ?_; clear hst; intro b6 w6 hb6 hst))
      | ((with_reducible refine at_d 8 ?_); go_loud (refine wl_fld (r := 0) fld34_0 rfl rfl rfl rfl (hk := ?_)))
      | ((with_reducible refine at_n (.store 3 (.tmp 8) (.tmp 7)) ?_); go_loud (refine wl_store1 rfl rfl rfl (by (conv => lhs; whnf) <;> rfl) hst (by repeat (first | exact Pick.head | apply Pick.tail)) (by omega) sc3 (by rfl) (hk := ?_); intro w1 hst1; rw [hF_w] at hst1; clear hst; have hst := hst1; clear hst1))
      | ((with_reducible refine at_d 11 ?_); go_loud (refine wl_ari (p := (hs.length : Int)) (q := 1) (r := ((hs.length + 1 : Nat) : Int)) (k := .i64) (by simp only [ariI] <;> omega) (by show _ ∧ _; omega) rfl rfl rfl rfl rfl (hk := ?_)))
      | ((with_reducible refine at_d 13 ?_); go_loud (refine wl_fld (r := 1) fld34_1 rfl rfl rfl rfl (hk := ?_)))
      | ((with_reducible refine at_n (.store 26 (.tmp 13) (.tmp 12)) ?_); go_loud (refine wl_store1 rfl rfl rfl (by (conv => lhs; whnf) <;> rfl) hst (by repeat (first | exact Pick.head | apply Pick.tail)) (by omega) sc12 (by rfl) (hk := ?_); intro w1 hst1; rw [hF_s _ _ (hs.length + 1) ((hs.length : Int) + 1) (by omega)] at hst1; clear hst; have hst := hst1; clear hst1))
      | ((with_reducible refine at_d 15 ?_); go_loud (refine wl_call pl59 rfl rfl rfl (reftip_any _ hs _ (HH.out _ hst.none) (HKK.out _ hst.none)) ?_; rintro v15 w15 ⟨rfl, hst15⟩; replace hst := hst.call hst15; clear hst15))
      | ((with_reducible refine at_d 16 ?_); go_loud (refine wl_fld (r := 2) fld34_2 rfl rfl rfl rfl (hk := ?_)))
      | ((with_reducible refine at_n (.store 28 (.tmp 16) (.tmp 15)) ?_); go_loud (refine wl_storeN rfl rfl rfl rfl hst (by repeat (first | exact Pick.head | apply Pick.tail)) (by omega) agg28 (by intro j hj; rfl) (hk := ?_); intro w1 hst1; (try simp only [List.nil_append] at hst1); rw [hF_p] at hst1; clear hst; have hst := hst1; clear hst1))
      | ((with_reducible refine at_d 18 ?_); go_loud (refine wl_ari (p := (m : Int) + 1) (q := 1) (r := (m : Int)) (k := .i64) (by simp only [ariI] <;> omega) (by show _ ∧ _; omega) rfl rfl rfl rfl rfl (hk := ?_)))
      | ((with_reducible refine at_d 22 ?_); go_loud (refine wl_fld (r := 54) fld34_8 rfl rfl rfl rfl (hk := ?_)))
      | ((with_reducible refine at_d 23 ?_); go_loud (refine wl_idxA (i := m) Tryd.underlying32 sc12.size hm rfl rfl rfl rfl (hk := ?_)))
      | ((with_reducible refine at_n (.store 26 (.tmp 23) (.tmp 21)) ?_); go_loud (refine wl_store1 rfl rfl rfl (by (conv => lhs; whnf) <;> rfl) hst (by repeat (first | exact Pick.head | apply Pick.tail)) (by omega) sc12 (by rfl) (hk := ?_); intro w1 hst1; rw [hF_k _ _ _ _ hm (show (((H.setW ((m : Int) + 1)).setS (hs.length + 1)).setP (tipOf hs)).knows.length = 6 from HK6.out)] at hst1; clear hst; have hst := hst1; clear hst1))
      | ((with_reducible refine at_d 24 ?_); go_loud ((first | (refine wl_loadAll rfl rfl rfl (hs := agg34) (hk := ?_)) | (refine wl_loadN rfl rfl rfl (hs := agg34) (hk := ?_)))))
      | ((with_reducible refine at_n (.store 34 (.tmp 6) (.tmp 24)) ?_); go_loud (refine wl_storeAll rfl rfl rfl rfl hst (by repeat (first | exact Pick.head | apply Pick.tail)) agg34 (fun j _ => hF_one _ _ HHT.out j) (hk := ?_); intro w1 hst1; clear hst; have hst := hst1; clear hst1)))
  exact ret_cellN rfl rfl (St.hasb hst Pick.head) agg34 rfl ⟨_, rfl, rfl, hst.none⟩
end Go.Proofs.YthbobmpeaemdnaaDoor
namespace Go.Jal
open Go.RowKit
theorem ask_seq {wr : Int} {hs : List Hdr} {H : Hdr} (h : askOf wr hs H = 0) : H.seq = hs.length + 1 ∧ H.writer = wr ∧ formed H = true ∧ H.prev = tipOf hs := by
  unfold askOf at h
  split at h
  · rename_i c
    have hs1 := (formed_nat c.1).2.2.2.2.2.2.2.1
    cases hm : hs[H.seq - 1]? with
    | some G => rw [hm] at h; simp only at h; split at h <;> cases h
    | none =>
      rw [hm] at h
      simp only at h
      have := List.getElem?_eq_none_iff.1 hm
      split at h
      · cases h
      · split at h
        · rename_i h1 h2
          exact ⟨by omega, c.2, c.1, h2⟩
        · cases h
  · cases h
theorem ask_again {wr : Int} {hs : List Hdr} {H : Hdr} (h : askOf wr hs H = 0) : askOf wr (hs ++ [H]) H = 13 := by
  obtain ⟨h1, h2, h3, h4⟩ := ask_seq h
  unfold askOf
  rw [if_pos ⟨h3, h2⟩, show H.seq - 1 = hs.length by omega, List.getElem?_append_right (Nat.le_refl _)]
  simp
end Go.Jal
namespace Go.Proofs.YthbobmpeaemdnaaDoor
open Go.RowKit Go.Jal
theorem tip_is (hs : List Hdr) : isB 32 (tipOf hs) := tip_ok ⟨fun _ => sha_len _, fun _ => sha_lt _⟩
theorem behind_ok {hs : List Hdr} {m : Nat} {H : Hdr} (h : H.Ok) (hm : m < 6) (hl : hs.length < 1000) : (behind hs m H).Ok := by
  refine ⟨?_, ?_, tip_is hs, h.epoch, h.time, h.item, h.toks, ?_, h.sum, h.size, h.code⟩
  · show -9223372036854775808 ≤ (m : Int) + 1 ∧ (m : Int) + 1 ≤ 9223372036854775807
    omega
  · show hs.length + 1 < 18446744073709551616
    omega
  · show (H.knows.set m hs.length).length = 6 ∧ ∀ x ∈ H.knows.set m hs.length, x < 18446744073709551616
    refine ⟨by rw [List.length_set]; exact h.knows.1, fun x hx => ?_⟩
    rcases List.mem_or_eq_of_mem_set hx with hx | rfl
    · exact h.knows.2 x hx
    · omega
/-- headers gathered: an array of one's own, the tokens the world's -/
def HaveO (W : World) (v : Value) (hs : List Hdr) (E : List (Nat × Obj)) : Prop :=
  ∃ g, Own 125 34 v hs.length g E ∧ ∀ i H, hs[i]? = some H → H.Ok ∧ ∃ tok, (∀ c, c < 125 → g (125 * i + c) = hF H tok c) ∧ Toks W tok H.toks
theorem HaveO.nil {W : World} : HaveO W (.slice none 0 0) [] [] := ⟨fun _ => nB 0, Own.nil, by intro i H h; simp at h⟩
theorem HaveO.hds {W w : World} {v : Value} {hs : List Hdr} {E L : List (Nat × Obj)} (h : HaveO W v hs E) (hst : St W [] L w) (hE : ∀ p ∈ E, w.heap[p.1]? = some p.2) : Hds w v hs := by
  obtain ⟨g, hown, hel⟩ := h
  rcases hown with ⟨rfl, hz, rfl⟩ | ⟨b, cap, f, rfl, hc, hm, rfl, hf⟩
  · have : hs = [] := List.length_eq_zero_iff.1 hz
    subst this
    exact ⟨none, 0, rfl, Nat.le_refl _, by simp [maxLen], (by intro H h; cases h), fun _ => rfl, fun h => absurd rfl h⟩
  · refine ⟨_, cap, rfl, hc, hm, fun H hH => ?_, (by intro e; cases e), fun _ => ⟨b, 0, cap * 125, f, rfl, ⟨_, _, hE (b, blk (cap * 125) f 34) (by simp)⟩, by omega, fun i H hi => ?_⟩⟩
    · obtain ⟨i, hi⟩ := List.getElem?_of_mem hH
      exact (hel i H hi).1
    · obtain ⟨hok, tok, hc1, hto⟩ := hel i H hi
      have hlt : i < hs.length := (List.getElem?_eq_some_iff.1 hi).1
      refine ⟨tok, hto.keep hst.none, fun c hc' => ?_⟩
      rw [show 0 + 125 * i + c = 125 * i + c by omega, hf _ (by omega), hc1 c hc']
theorem HaveO.slice {W : World} {v : Value} {hs : List Hdr} {E : List (Nat × Obj)} (h : HaveO W v hs E) : ∃ ad c, v = .slice ad hs.length c ∧ hs.length ≤ c ∧ c ≤ maxLen := by
  obtain ⟨g, hown, _⟩ := h
  obtain ⟨ad, c, e, h1, h2, _⟩ := hown.slice
  exact ⟨ad, c, e, h1, h2⟩
theorem HaveO.snoc {W : World} {v : Value} {hs : List Hdr} {H : Hdr} {tok : Value} {g : Nat → Value} {E : List (Nat × Obj)} (hown : Own 125 34 v (hs.length + 1) (glue (hs.length * 125) g (hF H tok)) E)
    (hel : ∀ i H, hs[i]? = some H → H.Ok ∧ ∃ tok, (∀ c, c < 125 → g (125 * i + c) = hF H tok c) ∧ Toks W tok H.toks) (hok : H.Ok) (ht : Toks W tok H.toks) : HaveO W v (hs ++ [H]) E := by
  refine ⟨_, by rw [List.length_append]; exact hown, fun i G hi => ?_⟩
  by_cases c : i < hs.length
  · rw [List.getElem?_append_left c] at hi
    obtain ⟨k1, tok', k3, k4⟩ := hel i G hi
    exact ⟨k1, tok', fun j hj => by rw [← k3 j hj]; unfold glue; rw [if_pos (by omega)], k4⟩
  · have hi2 : i < (hs ++ [H]).length := (List.getElem?_eq_some_iff.1 hi).1
    obtain rfl : i = hs.length := by simp at hi2; omega
    obtain rfl : H = G := by simpa using hi
    exact ⟨hok, tok, fun j hj => by unfold glue; rw [if_neg (by omega)]; congr 1; omega, ht⟩
theorem tok_one {w : World} {tok : Value} {ts : List (List Nat)} (h : Toks w tok ts) : tok.oneCell' = true := by
  obtain ⟨ad, c, rfl, _⟩ := h
  rfl
theorem add_law {W w : World} {b : Nat} {wr : Int} {hs : List Hdr} {H : Hdr} {tok : Value} {Ec L : List (Nat × Obj)} (hch : ChainO b wr hs Ec) (hst : St W [] (Ec ++ L) w) (hok : H.Ok) (ht : Toks W tok H.toks) (hK : Has W 1 64 (wF Sha.K)) (hlen : hs.length < 1000) :
    Ret Tryd.prog 29 #[.pointer (some ⟨b, 0, none⟩), .agg (row 125 (hF H tok))] w fun v' w' => v' = .int .i64 (askOf wr hs H) ∧ ∃ E', ChainO b wr (if askOf wr hs H = 0 then hs ++ [H] else hs) E' ∧ St W [] (E' ++ L) w' :=
  Ret.mono (add_any b wr hs H tok w Ec hch (fun p hp => hst.own p (List.mem_append_left _ hp)) (by have := hst.nodup; rw [List.map_append] at this; exact (List.nodup_append.1 this).1) hok
    (fun _ _ h => ht.keep (hst.callE h).none) (fun _ _ h => hK.keep (hst.callE h).none) hlen) fun v w' ⟨h1, E', h2, h3⟩ => ⟨h1, E', h2, hst.callE h3⟩
end Go.Proofs.YthbobmpeaemdnaaDoor
