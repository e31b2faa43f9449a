/- The walk of law13's WriterFrom. WriterFrom: for every list of headers that lies readable in memory, every number and every limit, and both tables of words laid as the program's text lays them, the law returns true and leaves what was handed in. The row, and its card, tied to the text. -/
import Derived.Test.YtmegpfjlijphoaaDoorFr1
import Derived.Test.YtmegpfjlijphoaaDoorLk2
import Derived.Test.YtmegpfjlijphoaaDoorOpen3
namespace Go.Jal
open Go.RowKit
/-- what stands in a chain of writer wr -/
def Chn (wr : Int) (hs : List Hdr) : Prop := lkTo hs hs.length ∧ ∀ i H, hs[i]? = some H → H.seq = i + 1 ∧ H.writer = wr
theorem Chn.nil (wr : Int) : Chn wr [] := ⟨fun j hj => by simp at hj, fun i H h => by simp at h⟩
theorem Chn.snoc {wr : Int} {hs : List Hdr} {H : Hdr} (h : Chn wr hs) (ha : askOf wr hs H = 0) : Chn wr (hs ++ [H]) := by
  obtain ⟨e1, e2, e3, e4⟩ := ask_seq ha
  have hlast : (hs ++ [H])[hs.length]? = some H := by simp
  have hsame : ∀ i, i < hs.length → (hs ++ [H])[i]? = hs[i]? := fun i hi => List.getElem?_append_left hi
  refine ⟨?_, fun i G hi => ?_⟩
  · have h1 : lkTo (hs ++ [H]) hs.length := by
      intro j hj G hG
      rw [hsame j hj] at hG
      obtain ⟨k1, k2⟩ := h.1 j hj G hG
      exact ⟨k1, fun i G' e hG' => k2 i G' e (by rw [← hsame i (by omega)]; exact hG')⟩
    have h2 := h1.step hlast e3 (fun i G e hG => by
      have hG' : hs[i]? = some G := by rw [← hsame i (by omega)]; exact hG
      obtain ⟨s1, s2⟩ := h.2 i G hG'
      refine ⟨by rw [e2, s2], by omega, ?_⟩
      rw [e4]
      unfold tipOf
      rw [List.getLast?_eq_getElem?, show hs.length - 1 = i by omega, hG'])
    rw [List.length_append]
    exact h2
  · by_cases c : i < hs.length
    · exact h.2 i G (by rw [← hsame i c]; exact hi)
    · have hi2 : i < (hs ++ [H]).length := (List.getElem?_eq_some_iff.1 hi).1
      obtain rfl : i = hs.length := by simp at hi2; omega
      obtain rfl : H = G := by simpa using hi
      exact ⟨e1, e2⟩
theorem lkTo.part {hs : List Hdr} (h : lkTo hs hs.length) (s k : Nat) : linkedB (fromL hs s k) = true := by
  refine linked_yes fun j hj H hH => ?_
  have hjk : j < k := by
    have : (fromL hs s k).length ≤ k := by unfold fromL; rw [List.length_take]; omega
    omega
  rw [fromL_get hs hjk] at hH
  obtain ⟨k1, k2⟩ := h (s - 1 + j) (List.getElem?_eq_some_iff.1 hH).1 H hH
  refine ⟨k1, fun i G e hG => k2 (s - 1 + i) G (by omega) ?_⟩
  rw [fromL_get hs (by omega)] at hG
  exact hG
end Go.Jal
namespace Go.Proofs.YtmegpfjlijphoaaDoor
open Go.RowKit Go.Jal
set_option maxRecDepth 100000 in
set_option maxHeartbeats 4000000 in
theorem writerFrom_any (v : Value) (s0 : Nat) (most : Int) (ls : List Hdr) (W : World) (h : Hds W v ls) (hs64 : s0 < 18446744073709551616) (hK0 : Has W 0 64 (wF Sha.K)) (hK1 : Has W 1 64 (wF Sha.K)) :
    Ret Tryd.prog 7 #[v, .int .u64 (s0 : Int), .int .i64 most] W fun v' w' => v' = .bool true ∧ St W [] [] w' := by
  obtain ⟨ad, c, rfl, hcap, hcm, _⟩ := id h
  unfold maxLen at hcm
  go_enter Tryd.func7, Tryd.ntmps7
  have hst := St.refl W
  go_wp2_with (first
      | go_skip
      | ((with_reducible refine at_d 15 ?_); go_loud (refine wl_call pl8 rfl rfl rfl (awake_any _ (hK1.keep hst.none)) ?_; rintro v15 w15 ⟨rfl, hst15⟩; replace hst := hst.call hst15; clear hst15))
      | ((with_reducible refine at_d 19 ?_); (refine wl_call pl9 rfl rfl rfl (few_any _ ls 25 (by omega) _ (h.keep hst.none)) ?_; rintro v19 w19 ⟨⟨r, rfl, hr⟩, rfl⟩))
      | ((with_reducible refine at_d 22 ?_); go_loud (refine wl_call pl8 rfl rfl rfl (awake_any _ (hK1.keep hst.none)) ?_; rintro v22 w22 ⟨rfl, hst22⟩; replace hst := hst.call hst22; clear hst22))
      | ((with_reducible refine at_d 23 ?_); go_loud (refine wl_call pl10 rfl rfl rfl (new_any 2 (by decide) (by decide) _) ?_; rintro v23 w23 ⟨b, E, rfl, hch, hst23⟩; replace hst := hst.call hst23; clear hst23)))
  · clear hr
    go_ret
    exact ⟨_, rfl, rfl, hst.none⟩
  · obtain ⟨hl20, h20⟩ := hr (by simpa using ‹(!r) = false›)
    clear hr
    simp only [List.append_nil] at hst
    go_loopw [8, 9] (fun v8 i wr => ∃ (k : Nat) (hs : List Hdr) (Ec Eh : List (Nat × Obj)), k ≤ ls.length ∧ hs.length ≤ k ∧ i = .int .i64 (k : Int) ∧ ChainO b 2 hs Ec ∧ HaveO W v8 hs Eh ∧ Chn 2 hs ∧ St W [] (Ec ++ Eh) wr) (fun _ i _ => ls.length - (intOf i).toNat)
    case atStart => exact ⟨0, [], E, [], by omega, by simp, rfl, hch, HaveO.nil, Chn.nil 2, by simpa using hst⟩
    case round =>
      clear hst hch
      obtain ⟨k, hs, Ec, Eh, hk, hsk, rfl, hch, hhv, hchn, hst⟩ := hrel
      obtain ⟨ad4, c4, rfl, hc4, hm4⟩ := hhv.slice
      unfold maxLen at hm4
      have HCHN := Lib.hid hchn
      clear hchn
      by_cases hkl : k < ls.length
      · obtain ⟨G0, hG0⟩ : ∃ G0, ls[k]? = some G0 := ⟨_, List.getElem?_eq_getElem hkl⟩
        obtain ⟨bl, off, N, f, tok, rfl, hN, hbd, hlt, _, gok, gt, hcell⟩ := Hds.get h hG0
        have HN := Lib.hid hN
        have HA := Lib.hid hcell
        have HGO : Hid (behind hs 1 G0).Ok := behind_ok gok (by omega) (by omega)
        have HONE : Hid (tok.oneCell' = true) := tok_one gt
        obtain ⟨G, hG⟩ : ∃ G, G = behind hs 1 G0 := ⟨_, rfl⟩
        rw [← hG] at HGO
        have HT : Hid (∀ L w', St W [] L w' → Toks w' tok G.toks) := by
          show ∀ _ _ _, _
          rw [hG]
          exact fun L w' h' => gt.keep h'.none
        have HGE := Lib.hid hG
        have HH : Hid (∀ L w', (∀ p ∈ Eh, w'.heap[p.1]? = some p.2) → St W [] L w' → Hds w' (.slice ad4 hs.length c4) hs) := by
          show ∀ _ _ _ _, _
          exact fun L w' h1 h2 => hhv.hds h2 h1
        obtain ⟨z, hz⟩ : ∃ z, z = askOf 2 hs G := ⟨_, rfl⟩
        have HZ : Hid (askOf 2 hs G = z) := hz.symm
        clear hG hG0 hN hcell h hz gt
        go_wp2_with (first
      | ((with_reducible refine at_d 33 ?_); go_loud (refine wl_idx (i := k) Tryd.underlying22 siz35 (by omega) rfl rfl rfl rfl (hk := ?_)))
      | ((with_reducible refine at_d 34 ?_); go_loud (refine wl_loadP rfl rfl rfl (HN.out.keep hst.none) agg35 (by omega) HA.out (hk := ?_)))
      | ((with_reducible refine at_d 35 ?_); go_loud (refine wl_call pl11 rfl rfl rfl (behind_any _ hs 1 G0 tok _ (HH.out _ _ (fun p hp => hst.own p (by simp [hp])) hst) (by omega) gok (by omega) HONE.out (hK0.keep hst.none)) ?_; rintro v35 w35 ⟨rfl, hst35⟩; replace hst := hst.call hst35; clear hst35; rw [← HGE.out]))
      | ((with_reducible refine at_d 10 ?_); go_loud (refine wl_alloc rfl rfl hst zer35 ?_; clear hst; intro b10 w10 hb10 hst))
      | ((with_reducible refine at_n (.store 35 (.tmp 10) (.tmp 35)) ?_); go_loud (refine wl_storeAll rfl rfl rfl rfl (hs := agg35) (hv := fun j _ => hF_one _ _ HONE.out j) (hk := ?_); clear hst; intro w1 hst; (try simp only [List.nil_append] at hst)))
      | ((with_reducible refine at_d 37 ?_); go_loud ((first | (refine wl_loadAll rfl rfl rfl (hs := agg35) (hk := ?_)) | (refine wl_loadN rfl rfl rfl (hs := agg35) (hk := ?_)))))
      | ((with_reducible refine at_d 38 ?_); go_loud (refine wl_call pl16 rfl rfl rfl (add_val hch (hst.perm List.perm_middle.symm) HGO.out (HT.out _ _ (St.refl _)) hK1 (by omega) HZ.out) ?_; rintro v38 w38 ⟨rfl, Ec7, hch7, hst38⟩; clear hst; have hst := hst38.perm List.perm_middle; clear hst38))
      | ((with_reducible refine at_d 41 ?_); go_loud ((first | (refine wl_loadAll rfl rfl rfl (hs := agg35) (hk := ?_)) | (refine wl_loadN rfl rfl rfl (hs := agg35) (hk := ?_)))))
      | ((with_reducible refine at_d 42 ?_); go_loud (refine wl_buildSlice1 rfl rfl elt22 (by decide) (by (conv => lhs; whnf) <;> rfl) (by first | exact row_one _ | rfl) hst ?_; clear hst; intro b42 w42 hb42 hst))
      | ((with_reducible refine at_d 43 ?_); go_loud (obtain ⟨g, hown, hel⟩ := hhv; refine wl_append rfl rfl elt22 rfl rfl hown (L := (b42, blk 125 (hF G tok) 35) :: (b10, blk 125 (hF G tok) 35) :: Ec7) (h := hF G tok) (hst.perm (List.perm_append_comm (l₁ := (b42, blk 125 (hF G tok) 35) :: (b10, blk 125 (hF G tok) 35) :: Ec7) (l₂ := Eh))) (.inr ⟨b42, 0, 125, _, rfl, hst.hasb Pick.head, by omega, fun j _ => by rw [Nat.zero_add]⟩) (by intro h; cases h) (fun j _ => hF_one G _ HONE.out j) (by omega) (by unfold maxLen; omega) ?_; intro v43 w43 E43 hown43 hst43 _; clear hst; have hst : St W [] ((b42, blk 125 (hF G tok) 35) :: (b10, blk 125 (hF G tok) 35) :: (Ec7 ++ E43)) w43 := hst43.perm List.perm_append_comm; clear hst43; have hhv43 := HaveO.snoc hown43 hel HGO.out (HT.out _ _ (St.refl _)))))
        · have hz0 : z = 0 := eq_of_beq ‹(z == 0) = true›
          rw [if_pos hz0] at hch7
          have HCH2 : Hid (Chn 2 (hs ++ [G])) := HCHN.out.snoc (HZ.out.trans hz0)
          go_roundw
          case rel => exact ⟨k + 1, hs ++ [G], Ec7, E43, by omega, by rw [List.length_append]; simp; omega, by go_num, hch7, hhv43, HCH2.out, hst.sub (.cons _ (.cons _ (List.Sublist.refl _)))⟩
          case measure => simp [intOf]; omega
        · have hz0 : z ≠ 0 := by simpa using ‹(z == 0) = false›
          rw [if_neg hz0] at hch7
          go_roundw
          case rel => exact ⟨k + 1, hs, Ec7, Eh, by omega, by omega, by go_num, hch7, hhv, HCHN.out, hst.drop⟩
          case measure => simp [intOf]; omega
      · obtain ⟨s, hs'⟩ : ∃ s, s = max s0 1 := ⟨_, rfl⟩
        obtain ⟨mn, hmn⟩ : ∃ mn, mn = min s0 1000 := ⟨_, rfl⟩
        obtain ⟨at_, hat⟩ : ∃ a, a = max mn 1 := ⟨_, rfl⟩
        have HMN : Hid ((if (1000 : Int) < (s0 : Int) then (1000 : Int) else (s0 : Int)) = (mn : Int)) := by show _ = _; rw [hmn]; split <;> omega
        have HMX : Hid ((if (1 : Int) > (mn : Int) then (1 : Int) else (mn : Int)) = (at_ : Int)) := by show _ = _; rw [hat]; split <;> omega
        have hmn1 : mn ≤ 1000 := by omega
        have hat1 : 1 ≤ at_ := by omega
        have hat2 : at_ ≤ 1000 := by omega
        have hs1 : 1 ≤ s := by omega
        have hcase : (at_ ≤ s ∧ s ≤ at_) ∨ (hs.length + 1 < s ∧ hs.length + 1 < at_) := by omega
        have HS := Lib.hid hs'
        have hfl : ∀ i, i < fromN hs s most → ∃ G, hs[s - 1 + i]? = some G ∧ (fromL hs s (fromN hs s most))[i]? = some G := fun i hi => by
          have hlt : s - 1 + i < hs.length := by unfold fromN at hi; omega
          exact ⟨hs[s - 1 + i], List.getElem?_eq_getElem hlt, by rw [fromL_get hs hi]; exact List.getElem?_eq_getElem hlt⟩
        have hfn : (fromL hs s (fromN hs s most)).length = fromN hs s most := by
          by_cases c : fromN hs s most + (s - 1) ≤ hs.length
          · exact fromL_len hs c
          · have : fromN hs s most = 0 := by unfold fromN at c ⊢; omega
            rw [this]; unfold fromL; simp
        have HLK : Hid (linkedB (fromL hs s (fromN hs s most)) = true) := HCHN.out.1.part s _
        obtain ⟨n, hn⟩ : ∃ n, n = fromN hs s most := ⟨_, rfl⟩
        obtain ⟨gs, hgs⟩ : ∃ gs, gs = fromL hs s n := ⟨_, rfl⟩
        have hn1 : n ≤ hs.length + 1 - s := by rw [hn]; unfold fromN; omega
        have hn2 : n ≤ most.toNat := by rw [hn]; unfold fromN; omega
        have hn3 : hs.length + 1 - s ≤ n ∨ most.toNat ≤ n := by rw [hn]; unfold fromN; omega
        have HFE : Hid (fromL hs s (fromN hs s most) = gs) := by show _ = _; rw [hgs, hn]
        rw [← hn, ← hgs] at hfl hfn HLK
        have HFL := Lib.hid hfl
        have hgn1 : gs.length ≤ n := by omega
        have hgn2 : n ≤ gs.length := by omega
        have HHV := Lib.hid hhv
        clear hs' hmn hat hfl hfn hn hgs hhv h
        go_wp2_with (first
      | ((with_reducible refine at_d 47 ?_); go_loud (refine wl_call pl22 rfl rfl rfl (from_any b 2 hs s0 s most _ (hch.read (fun p hp => hst.own p (by simp [hp]))) HS.out hs64) ?_; rintro v47 w47 ⟨Eg, hgot, hst47⟩; replace hst := hst.call hst47; clear hst47; rw [HFE.out] at hgot; obtain ⟨ad47, c47, rfl, hc47, hm47⟩ := hgot.slice))
      | ((with_reducible refine at_d 49 ?_); go_loud (refine wl_min (p := (s0 : Int)) (r := (mn : Int)) HMN.out rfl rfl rfl rfl (hk := ?_)))
      | ((with_reducible refine at_d 51 ?_); go_loud (refine wl_max (p := (mn : Int)) (r := (at_ : Int)) HMX.out rfl rfl rfl rfl (hk := ?_))))
        unfold maxLen at hm47
        have HGT : Hid (∀ x : Nat, x < gs.length → ∃ G, Hid (gs[x]? = some G) ∧ Hid (hs[s - 1 + x]? = some G) ∧ ∃ bg Ng fg tokg, ad47 = some ⟨bg, 0, none⟩ ∧ Hid ((bg, blk Ng fg 35) ∈ Eg) ∧ 125 * gs.length ≤ Ng ∧ G.Ok ∧ Hid (∀ w : World, (∀ p ∈ Eg, w.heap[p.1]? = some p.2) → Toks w tokg G.toks) ∧ Hid (∀ j, j < 125 → fg (0 + 125 * x + j) = hF G tokg j)) := by
          show ∀ x : Nat, _
          intro x hx
          obtain ⟨G, e1, e2⟩ := HFL.out x (by omega)
          obtain ⟨bg, Ng, fg, tokg, g1, g2, g3, _, g5, g6, g7⟩ := hgot.get e2
          exact ⟨G, e2, e1, bg, Ng, fg, tokg, g1, g2, g3, g5, g6, g7⟩
        have HGOT := Lib.hid hgot
        clear hgot
        go_loopw [13, 14] (fun n1 i wr => ∃ j : Nat, n1 = .int .i64 (j : Int) ∧ i = .int .i64 ((at_ : Int) + (j : Int)) ∧ (at_ + j ≤ hs.length + 1 ∨ j = 0) ∧ ((j : Int) ≤ most ∨ j = 0) ∧ St W [] (Eg ++ (Ec ++ Eh)) wr) (fun _ i _ => hs.length + 1 - (intOf i).toNat)
        case atStart => exact ⟨0, rfl, by simp, .inr rfl, .inr rfl, hst⟩
        case round =>
          clear hst
          obtain ⟨j, rfl, rfl, hj1, hj2, hst⟩ := hrel
          by_cases hin : at_ + j ≤ hs.length ∧ (j : Int) < most
          · obtain ⟨hin1, hin2⟩ := hin
            have hjg : j < gs.length := by omega
            obtain ⟨G, hG1, hG2, bg, Ng, fg, tokg, rfl, HMG, hNg, gok, HTG, HAG⟩ := HGT.out j hjg
            obtain ⟨y, hy⟩ : ∃ y, y = s - 1 + j := ⟨_, rfl⟩
            have hy1 : y + 1 ≤ at_ + j := by omega
            have hy2 : at_ + j ≤ y + 1 := by omega
            rw [← hy] at hG2
            obtain ⟨bh, Nh, fh, tokh, rfl, hmb, hNh, hyl, _, htk, hah⟩ := HHV.out.get hG2.out
            have HMB := Lib.hid hmb
            have HAH := Lib.hid hah
            have HTH : Hid (∀ L w', St W [] L w' → Toks w' tokh G.toks) := by
              show ∀ _ _ _, _
              exact fun L w' h' => htk.keep h'.none
            clear hy hmb hah htk
            go_wp2_with (first
      | go_skip
      | ((with_reducible refine at_d 56 ?_); go_loud (refine wl_cmp (p := ((at_ : Int) + (j : Int))) (q := (hs.length : Int)) (by first | exact decide_eq_true (by omega) | exact decide_eq_false (by omega)) rfl rfl rfl rfl rfl (hk := ?_)))
      | ((with_reducible refine at_d 60 ?_); (refine wl_cmp (p := (j : Int)) (q := most) (by first | exact decide_eq_true (by omega) | exact decide_eq_false (by omega)) rfl rfl rfl rfl rfl (hk := ?_))))
            refine rg_start (St W [] (Eg ++ (Ec ++ Eh))) mixed (hst.drew) ?_
            refine rg_take [0, 1, 2, 3, 4, 5, 6, 7, 8, 9, 10, 11, 12, 13, 14, 15, 16] 0 _ rfl (by kernel_rfl) (by kernel_rfl) rfl (cls_st _ _ _) (fun _ _ _ _ _ h => h) ?_
            refine tk_wp (hk := ?_)
            refine tk_wp (hk := ?_)
            refine tk_wp (hk := ?_)
            refine tk_cmp (p := (j : Int)) (q := (gs.length : Int)) (by first | exact decide_eq_true (by omega) | exact decide_eq_false (by omega)) rfl rfl rfl rfl rfl rfl (hk := ?_)
            refine tk_wp (hk := ?_)
            first | (refine tk_skip rfl (by rfl) (hk := ?_)) | (refine tk_wp (hk := ?_))
            first | (refine tk_skip rfl (by rfl) (hk := ?_)) | (refine tk_wp (hk := ?_))
            first | (refine tk_skip rfl (by rfl) (hk := ?_)) | (refine tk_idx (i := j) Tryd.underlying22 siz35 (by omega) rfl rfl rfl rfl rfl (hk := ?_))
            first | (refine tk_skip rfl (by rfl) (hk := ?_)) | (refine tk_loadP rfl rfl (by rfl) rfl (fun w hst => (show Has w bg Ng fg from ⟨_, _, hst.own (bg, blk Ng fg 35) (by simp [HMG.out])⟩)) agg35 (by omega) HAG.out (hk := ?_))
            first | (refine tk_skip rfl (by rfl) (hk := ?_)) | (refine tk_wp (hk := ?_))
            first | (refine tk_skip rfl (by rfl) (hk := ?_)) | (refine tk_wp (hk := ?_))
            first | (refine tk_skip rfl (by rfl) (hk := ?_)) | (refine tk_ari (p := ((at_ : Int) + (j : Int))) (q := 1) (r := (y : Int)) (k := .i64) (by simp only [ariI] <;> omega) (by show _ ∧ _; omega) rfl rfl rfl rfl rfl rfl (hk := ?_))
            first | (refine tk_skip rfl (by rfl) (hk := ?_)) | (refine tk_idx (i := y) Tryd.underlying22 siz35 (by omega) rfl rfl rfl rfl rfl (hk := ?_))
            first | (refine tk_skip rfl (by rfl) (hk := ?_)) | (refine tk_loadP rfl rfl (by rfl) rfl (fun w hst => (show Has w bh Nh fh from ⟨_, _, hst.own (bh, blk Nh fh 35) (by simp [HMB.out])⟩)) agg35 (by omega) HAH.out (hk := ?_))
            first | (refine tk_skip rfl (by rfl) (hk := ?_)) | (refine tk_call (v := .bool true) pl20 rfl rfl (by rfl) rfl (fun w hst => same_any G G _ _ w gok gok (HTG.out _ (fun p hp => hst.own p (by simp [hp]))) (HTH.out _ _ hst)) (fun w u w' hR => (by obtain ⟨rfl, hs'⟩ := hR; exact ⟨by simp, hs'.below⟩)) (hk := ?_))
            first | (refine tk_skip rfl (by rfl) (hk := ?_)) | (refine tk_wp (hk := ?_))
            refine tk_wp (hk := ?_)
            refine tk_nil ?_
            refine rg_done (by kernel_rfl) (fun w1 hst1 => ?_) _
            clear hst; have hst := hst1; clear hst1
            go_wp2_with (first
      | ((with_reducible refine at_d 82 ?_); go_loud (refine wl_ari (p := (j : Int)) (q := 1) (r := ((j + 1 : Nat) : Int)) (k := .i64) (by simp only [ariI] <;> omega) (by show _ ∧ _; omega) rfl rfl rfl rfl rfl (hk := ?_)))
      | ((with_reducible refine at_d 63 ?_); go_loud (refine wl_ari (p := ((at_ : Int) + (j : Int))) (q := 1) (r := ((at_ : Int) + ((j + 1 : Nat) : Int))) (k := .i64) (by simp only [ariI] <;> omega) (by show _ ∧ _; omega) rfl rfl rfl rfl rfl (hk := ?_))))
            go_roundw
            case rel => exact ⟨j + 1, rfl, rfl, .inl (by omega), .inl (by omega), hst⟩
            case measure => simp [intOf]; omega
          · have hjn1 : j ≤ gs.length := by omega
            have hjn2 : gs.length ≤ j := by omega
            have HLG : Hid (∀ w', (∀ p ∈ Eg, w'.heap[p.1]? = some p.2) → Hds w' (.slice ad47 gs.length c47) gs) := by
              show ∀ _ _, _
              exact fun w' h' => HGOT.out.hds h'
            have hgl : gs.length < 1000 := by omega
            by_cases hin2 : at_ + j ≤ hs.length
            · go_wp2_with (first
      | go_skip
      | ((with_reducible refine at_d 56 ?_); go_loud (refine wl_cmp (p := ((at_ : Int) + (j : Int))) (q := (hs.length : Int)) (by first | exact decide_eq_true (by omega) | exact decide_eq_false (by omega)) rfl rfl rfl rfl rfl (hk := ?_)))
      | ((with_reducible refine at_d 60 ?_); (refine wl_cmp (p := (j : Int)) (q := most) (by first | exact decide_eq_true (by omega) | exact decide_eq_false (by omega)) rfl rfl rfl rfl rfl (hk := ?_)))
      | ((with_reducible refine at_d 86 ?_); go_loud (refine wl_cmp (p := (j : Int)) (q := (gs.length : Int)) (by first | exact decide_eq_true (by omega) | exact decide_eq_false (by omega)) rfl rfl rfl rfl rfl (hk := ?_)))
      | ((with_reducible refine at_d 89 ?_); (refine wl_call pl24 rfl rfl rfl (linked_any _ gs _ (HLG.out _ (fun p hp => hst.own p (by simp [hp]))) hgl (hK1.keep hst.none)) ?_; rintro v89 w89 ⟨rfl, hst89⟩; replace hst := hst.call hst89; clear hst89; rw [HLK.out])))
              go_ret
              exact ⟨_, rfl, rfl, hst.none⟩
            · go_wp2_with (first
      | go_skip
      | ((with_reducible refine at_d 56 ?_); go_loud (refine wl_cmp (p := ((at_ : Int) + (j : Int))) (q := (hs.length : Int)) (by first | exact decide_eq_true (by omega) | exact decide_eq_false (by omega)) rfl rfl rfl rfl rfl (hk := ?_)))
      | ((with_reducible refine at_d 86 ?_); go_loud (refine wl_cmp (p := (j : Int)) (q := (gs.length : Int)) (by first | exact decide_eq_true (by omega) | exact decide_eq_false (by omega)) rfl rfl rfl rfl rfl (hk := ?_)))
      | ((with_reducible refine at_d 89 ?_); (refine wl_call pl24 rfl rfl rfl (linked_any _ gs _ (HLG.out _ (fun p hp => hst.own p (by simp [hp]))) hgl (hK1.keep hst.none)) ?_; rintro v89 w89 ⟨rfl, hst89⟩; replace hst := hst.call hst89; clear hst89; rw [HLK.out])))
              go_ret
              exact ⟨_, rfl, rfl, hst.none⟩
end Go.Proofs.YtmegpfjlijphoaaDoor
namespace Go.Proofs.YtmegpfjlijphoaaDoor
open Go.ChangeShapes Go.WideShapes Go.ChangeAt Go.WideMaps Go.WideElems Go.RowKit Go.Jal

set_option maxRecDepth 100000 in
theorem writerFrom_lifted (os : Os) (started : os.Started) (H : Type) (enc : TypeId × Value → H) :
    ReturnsInHanded {} Tryd.checked os 7 .any (fun w args => (Rows.writerFromSpec.pre enc Tryd.prog Tryd.f7 [] false w args ∧ laidMetH Tryd.prog laidK w) ∧ sizedMet enc Tryd.prog Tryd.f7 (OpenSpec.ofChange Rows.writerFromSpec) false w args)
      (Rows.writerFromSpec.post enc Tryd.prog Tryd.f7 false true false false) := by
  refine returnsInHanded_of_change_and (C := Tryd.checked) (X := fun w _ => laidMetH Tryd.prog laidK w) (fun _ _ _ hh h => h.of_heap hh) own started (by kernel_rfl) Tryd.func7
    (ChangeSpec.witness_shaped (enc := enc) (C := Tryd.checked) (os := os) (X := fun w _ => laidMetH Tryd.prog laidK w) false (World.doorLaid Tryd.prog 4000 os) #[.slice none 0 0, .int .u64 0, .int .i64 0] 8 rfl (World.shaped_of_RefB (by kernel_rfl) (by kernel_rfl)) (by kernel_rfl) (by kernel_rfl) (by kernel_rfl) (door_met os _)) ?_
  intro W base args ds gs before hval0 hW _ _ hL _
  have hval : ∀ (j : Nat) t v, Tryd.f7.params[j]? = some t → args[j]? = some v → Value.okWide Tryd.prog W .any base t v := hval0
  have hW' := hW
  obtain ⟨p, q, hA0, hV, rfl, hfz, hnd⟩ := hW
  have hA : DataW.TrodAll enc Tryd.prog W 0 (fun _ => true) true Tryd.f7.params.toList args.toList ds p := hA0
  rw [Tryd.params7] at hA hval
  obtain ⟨v0, v1, v2, d0, d1, d2, p0, p1, p2, rfl, rfl, rfl, k0, k1, k2⟩ := trodAll_three hA
  obtain ⟨rfl, rfl⟩ := trodVars_none hV
  have lt0 : ∀ x ∈ p0, x.block < W.heap.size := by obtain ⟨m, hm⟩ := k0; exact DataW.trod_lt m _ _ _ hm
  have lt1 : ∀ x ∈ p1, x.block < W.heap.size := by obtain ⟨m, hm⟩ := k1; exact DataW.trod_lt m _ _ _ hm
  have lt2 : ∀ x ∈ p2, x.block < W.heap.size := by obtain ⟨m, hm⟩ := k2; exact DataW.trod_lt m _ _ _ hm
  obtain ⟨l0, h0⟩ := open_hdrs (hval 0 22 v0 rfl rfl) k0
  obtain ⟨n1, e1, _, _, hw1⟩ := open_int Tryd.underlying27 (hval 1 27 v1 rfl rfl) k1
  obtain ⟨m1, rfl, hm1⟩ := wf_u64 hw1
  subst e1
  obtain ⟨n2, e2, _, _, hw2⟩ := open_int Tryd.underlying3 (hval 2 3 v2 rfl rfl) k2
  subst e2
  have hcall := writerFrom_any v0 m1 n2 l0 W h0 hm1 (of_laid hL).2 (of_laid hL).1
  clear hA0 hval0
  refine Calls.mono hcall ?_
  rintro e W' ⟨v', rfl, rfl, hst⟩
  have bel := hst.below
  exact ⟨_, rfl, _, _, _, [], _, [], hW', trodAll_mk1 (shut_bool Tryd.underlying4 _), trodAll_mk3 (Below.trod laidOut (by kernel_rfl) (of_decide_eq_true (by kernel_rfl)) k0 bel lt0) (Below.trod laidOut (by kernel_rfl) (of_decide_eq_true (by kernel_rfl)) k1 bel lt1) (Below.trod laidOut (by kernel_rfl) (of_decide_eq_true (by kernel_rfl)) k2 bel lt2), rfl, bel.frame _, fun h => by cases h⟩
theorem writerFrom_row : Rows.WriterFromSaid :=
  OpenClaim.holds_of_wide 7 Tryd.f7 rfl rfl rfl rfl rfl rfl rfl ⟨rfl, rfl, rfl, rfl, rfl⟩ rfl rfl rfl rfl rfl (by kernel_rfl) Tryd.func7 (by kernel_rfl)
    (of_decide_eq_true (by kernel_rfl)) (by unfold Func.isWrapper; first | (rw [if_pos (by decide +kernel)]; kernel_rfl) | (rw [if_neg (by decide +kernel)]; exact ⟨rfl, rfl⟩))
    (fun os started H enc _ => writerFrom_lifted os started H enc)
theorem writerFrom_card : Rows.WriterFromCardSaid :=
  Claim7.holds_tied_plain_at .later [] [.data, .data] true (true, "752c0f0884d59ad1d35480a3cbcce539d087732fcb49b9c026f1b6ecce218f39") false
    writerFrom_row (fun _ h => by cases h) (by kernel_rfl) (fun _ h => by cases h) writerFrom_row_tie rfl ⟨rfl, rfl⟩ (by kernel_rfl) rfl
    (fun f fn hf hfn => by
      obtain rfl : f = 7 := Option.some.inj ((show Tryd.prog.funcNamed "jalousie/jalousielaw13.WriterFrom" = some 7 by kernel_rfl).symm.trans hf) |>.symm
      obtain rfl : fn = Tryd.f7 := (Option.some.inj (Tryd.func7.symm.trans hfn)).symm
      exact ⟨by kernel_rfl, fun j t ht => by
        rw [Tryd.params7] at ht
        have hall : ∀ t ∈ [22, 27, 3], Tryd.prog.wantsStandIn t = false := by
          intro t ht
          simp only [List.mem_cons, List.not_mem_nil, or_false] at ht
          rcases ht with rfl | rfl | rfl <;> kernel_rfl
        exact hall t (by have := Array.mem_of_getElem? ht; simpa using this)⟩)
    (by kernel_rfl)
#print axioms writerFrom_card
end Go.Proofs.YtmegpfjlijphoaaDoor
