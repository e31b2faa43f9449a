/- The walk of law13's WriterAsks. -/
import Derived.Test.YtmegpfjlijphoaaDoorW2
namespace Go.Proofs.YtmegpfjlijphoaaDoor
open Go.RowKit Go.Jal
set_option maxRecDepth 100000 in
set_option maxHeartbeats 4000000 in
theorem writerAsks_any (v : Value) (ls : List Hdr) (W : World) (h : Hds W v ls) (hK0 : Has W 0 64 (wF Sha.K)) (hK1 : Has W 1 64 (wF Sha.K)) :
    Ret Tryd.prog 3 #[v] W fun v' w' => v' = .bool true ∧ St W [] [] w' := by
  obtain ⟨ad, c, rfl, hcap, hcm, _⟩ := id h
  unfold maxLen at hcm
  go_enter Tryd.func3, Tryd.ntmps3
  have hst := St.refl W
  go_wp2_with (first
      | go_skip
      | ((with_reducible refine at_d 9 ?_); go_loud (refine wl_call pl8 rfl rfl rfl (awake_any _ (hK1.keep hst.none)) ?_; rintro v9 w9 ⟨rfl, hst9⟩; replace hst := hst.call hst9; clear hst9))
      | ((with_reducible refine at_d 13 ?_); (refine wl_call pl9 rfl rfl rfl (few_any _ ls 20 (by omega) _ (h.keep hst.none)) ?_; rintro v13 w13 ⟨⟨r, rfl, hr⟩, rfl⟩))
      | ((with_reducible refine at_d 16 ?_); go_loud (refine wl_call pl8 rfl rfl rfl (awake_any _ (hK1.keep hst.none)) ?_; rintro v16 w16 ⟨rfl, hst16⟩; replace hst := hst.call hst16; clear hst16))
      | ((with_reducible refine at_d 17 ?_); go_loud (refine wl_call pl10 rfl rfl rfl (new_any 1 (by decide) (by decide) _) ?_; rintro v17 w17 ⟨b, E, rfl, hch, hst17⟩; replace hst := hst.call hst17; clear hst17)))
  · clear hr
    go_ret
    exact ⟨_, rfl, rfl, hst.none⟩
  · obtain ⟨hl20, h20⟩ := hr (by simpa using ‹(!r) = false›)
    clear hr
    simp only [List.append_nil] at hst
    go_loopw [4, 5] (fun v4 i wr => ∃ (k : Nat) (hs : List Hdr) (Ec Eh : List (Nat × Obj)), k ≤ ls.length ∧ hs.length ≤ k ∧ i = .int .i64 (k : Int) ∧ ChainO b 1 hs Ec ∧ HaveO W v4 hs Eh ∧ St W [] (Ec ++ Eh) wr) (fun _ i _ => ls.length - (intOf i).toNat)
    case atStart => exact ⟨0, [], E, [], by omega, by simp, rfl, hch, HaveO.nil, by simpa using hst⟩
    case round =>
      clear hst hch
      obtain ⟨k, hs, Ec, Eh, hk, hsk, rfl, hch, hhv, hst⟩ := hrel
      obtain ⟨ad4, c4, rfl, hc4, hm4⟩ := hhv.slice
      unfold maxLen at hm4
      by_cases hkl : k < ls.length
      · obtain ⟨G0, hG0⟩ : ∃ G0, ls[k]? = some G0 := ⟨_, List.getElem?_eq_getElem hkl⟩
        obtain ⟨bl, off, N, f, tok, rfl, hN, hbd, hlt, _, gok, gt, hcell⟩ := Hds.get h hG0
        have HN := Lib.hid hN
        have HA := Lib.hid hcell
        have HGO : Hid (behind hs 0 G0).Ok := behind_ok gok (by omega) (by omega)
        obtain ⟨G, hG⟩ : ∃ G, G = behind hs 0 G0 := ⟨_, rfl⟩
        rw [← hG] at HGO
        have HT : Hid (∀ L w', St W [] L w' → Toks w' tok G.toks) := by
          show ∀ _ _ _, _
          rw [hG]
          exact fun L w' h' => gt.keep h'.none
        have HGE := Lib.hid hG
        have HH : Hid (∀ L w', (∀ p ∈ Eh, w'.heap[p.1]? = some p.2) → St W [] L w' → Hds w' (.slice ad4 hs.length c4) hs) := by
          show ∀ _ _ _ _, _
          exact fun L w' h1 h2 => hhv.hds h2 h1
        clear hG hG0 hN hcell h
        go_wp2_with (first
      | ((with_reducible refine at_d 27 ?_); go_loud (refine wl_idx (i := k) Tryd.underlying22 siz35 (by omega) rfl rfl rfl rfl (hk := ?_)))
      | ((with_reducible refine at_d 28 ?_); go_loud (refine wl_loadP rfl rfl rfl (HN.out.keep hst.none) agg35 (by omega) HA.out (hk := ?_)))
      | ((with_reducible refine at_d 29 ?_); go_loud (refine wl_call pl11 rfl rfl rfl (behind_any _ hs 0 G0 tok _ (HH.out _ _ (fun p hp => hst.own p (by simp [hp])) hst) (by omega) gok (by omega) (tok_one gt) (hK0.keep hst.none)) ?_; rintro v29 w29 ⟨rfl, hst29⟩; replace hst := hst.call hst29; clear hst29; rw [← HGE.out]))
      | ((with_reducible refine at_d 6 ?_); go_loud (refine wl_alloc rfl rfl hst zer35 ?_; clear hst; intro b6 w6 hb6 hst))
      | ((with_reducible refine at_n (.store 35 (.tmp 6) (.tmp 29)) ?_); go_loud (refine wl_storeAll rfl rfl rfl rfl hst Pick.head agg35 (fun j _ => hF_one G _ (tok_one gt) j) (hk := ?_); intro w1 hst1; (try simp only [List.nil_append] at hst1); clear hst; have hst := hst1; clear hst1)))
        refine rg_start (St W [] ((b6, blk 125 (hF G tok) 35) :: (Ec ++ Eh))) mixed (hst.drew) ?_
        refine rg_take [0, 1, 2, 3, 4, 5, 6, 7] 0 _ rfl (by kernel_rfl) (by kernel_rfl) rfl (cls_st _ _ _) (fun _ _ _ _ _ h => h) ?_
        refine tk_wp (hk := ?_)
        first | (refine tk_loadAll rfl rfl (by rfl) rfl (hs := agg35) (hk := ?_)) | (refine tk_loadN rfl rfl (by rfl) rfl (hs := agg35) (hk := ?_))
        refine tk_call pl12 rfl rfl (by rfl) rfl (fun w hst => ask_any b 1 hs G tok w (hch.read (fun p hp => hst.own p (by simp [hp]))) HGO.out (HT.out _ _ hst)) (fun w u w' hR => (by obtain ⟨rfl, hs'⟩ := hR; exact ⟨rfl, hs'.below⟩)) (hk := ?_)
        refine tk_wp (hk := ?_)
        first | (refine tk_loadAll rfl rfl (by rfl) rfl (hs := agg35) (hk := ?_)) | (refine tk_loadN rfl rfl (by rfl) rfl (hs := agg35) (hk := ?_))
        refine tk_call pl12 rfl rfl (by rfl) rfl (fun w hst => ask_any b 1 hs G tok w (hch.read (fun p hp => hst.own p (by simp [hp]))) HGO.out (HT.out _ _ hst)) (fun w u w' hR => (by obtain ⟨rfl, hs'⟩ := hR; exact ⟨rfl, hs'.below⟩)) (hk := ?_)
        refine tk_wp (hk := ?_)
        refine tk_wp (hk := ?_)
        refine tk_nil ?_
        refine rg_done (by kernel_rfl) (fun w1 hst1 => ?_) _
        clear hst; have hst := hst1; clear hst1
        obtain ⟨z, hz⟩ : ∃ z, z = askOf 1 hs G := ⟨_, rfl⟩
        rw [← hz]
        have HZ : Hid (askOf 1 hs G = z) := hz.symm
        clear hz
        go_wp2_with (first
      | go_skip
      | ((with_reducible refine at_d 38 ?_); go_loud ((first | (refine wl_cmp (p := z) (q := z) (r := true) (by simp only [cmpI, decide_eq_true_eq, decide_eq_false_iff_not]; omega) rfl rfl rfl rfl rfl (hk := ?_)) | (refine wl_cmp (p := z) (q := z) (r := false) (by simp only [cmpI, decide_eq_true_eq, decide_eq_false_iff_not]; omega) rfl rfl rfl rfl rfl (hk := ?_)))))
      | ((with_reducible refine at_d 41 ?_); (refine wl_call pl13 rfl rfl rfl (head_any b 1 hs _ (hch.read (fun p hp => hst.own p (by simp [hp])))) ?_; rintro v41 w41 ⟨rfl, rfl⟩))
      | ((with_reducible refine at_d 45 ?_); ((first | (refine wl_cmp (p := (hs.length : Int)) (q := (hs.length : Int)) (r := true) (by simp only [cmpI, decide_eq_true_eq, decide_eq_false_iff_not]; omega) rfl rfl rfl rfl rfl (hk := ?_)) | (refine wl_cmp (p := (hs.length : Int)) (q := (hs.length : Int)) (r := false) (by simp only [cmpI, decide_eq_true_eq, decide_eq_false_iff_not]; omega) rfl rfl rfl rfl rfl (hk := ?_)))))
      | ((with_reducible refine at_d 49 ?_); (refine wl_call pl14 rfl rfl rfl (tip_any b 1 hs _ (hch.read (fun p hp => hst.own p (by simp [hp])))) ?_; rintro v49 w49 ⟨rfl, hst49⟩; replace hst := hst.call hst49; clear hst49))
      | ((with_reducible refine at_d 51 ?_); (refine wl_call pl15 rfl rfl rfl (reftip_any _ hs _ (HH.out _ _ (fun p hp => hst.own p (by simp [hp])) hst) (hK0.keep hst.none)) ?_; rintro v51 w51 ⟨rfl, hst51⟩; replace hst := hst.call hst51; clear hst51))
      | ((with_reducible refine at_d 52 ?_); (refine wl_neB rfl rfl eqb29 rfl rfl (tip_is hs).1 (tip_is hs).1 (tip_is hs).2 (tip_is hs).2 (r := false) (by simp) (hk := ?_)))
      | ((with_reducible refine at_d 56 ?_); ((first | (refine wl_loadAll rfl rfl rfl (hs := agg35) (hk := ?_)) | (refine wl_loadN rfl rfl rfl (hs := agg35) (hk := ?_)))))
      | ((with_reducible refine at_d 57 ?_); (refine wl_call pl16 rfl rfl rfl (add_law hch (hst.perm List.perm_middle.symm) HGO.out (HT.out _ _ (St.refl _)) hK1 (by omega)) ?_; rintro v57 w57 ⟨rfl, Ec7, hch7, hst57⟩; clear hst; have hst := hst57.perm List.perm_middle; clear hst57; rw [HZ.out] at hch7 ⊢))
      | ((with_reducible refine at_d 59 ?_); ((first | (refine wl_cmp (p := z) (q := z) (r := true) (by simp only [cmpI, decide_eq_true_eq, decide_eq_false_iff_not]; omega) rfl rfl rfl rfl rfl (hk := ?_)) | (refine wl_cmp (p := z) (q := z) (r := false) (by simp only [cmpI, decide_eq_true_eq, decide_eq_false_iff_not]; omega) rfl rfl rfl rfl rfl (hk := ?_)))))
      | ((with_reducible refine at_d 64 ?_); go_loud ((first | (refine wl_loadAll rfl rfl rfl (hs := agg35) (hk := ?_)) | (refine wl_loadN rfl rfl rfl (hs := agg35) (hk := ?_)))))
      | ((with_reducible refine at_d 65 ?_); go_loud (refine wl_buildSlice1 rfl rfl elt22 (by decide) (by (conv => lhs; whnf) <;> rfl) (by first | exact row_one _ | rfl) hst ?_; clear hst; intro b65 w65 hb65 hst))
      | ((with_reducible refine at_d 66 ?_); go_loud (obtain ⟨g, hown, hel⟩ := hhv; refine wl_append rfl rfl elt22 rfl rfl hown (L := (b65, blk 125 (hF G tok) 35) :: (b6, blk 125 (hF G tok) 35) :: Ec7) (h := hF G tok) (hst.perm (List.perm_append_comm (l₁ := (b65, blk 125 (hF G tok) 35) :: (b6, blk 125 (hF G tok) 35) :: Ec7) (l₂ := Eh))) (.inr ⟨b65, 0, 125, _, rfl, hst.hasb Pick.head, by omega, fun j _ => by rw [Nat.zero_add]⟩) (by intro h; cases h) (fun j _ => hF_one G _ (tok_one gt) j) (by omega) (by unfold maxLen; omega) ?_; intro v66 w66 E66 hown66 hst66 _; clear hst; have hst : St W [] ((b65, blk 125 (hF G tok) 35) :: (b6, blk 125 (hF G tok) 35) :: (Ec7 ++ E66)) w66 := hst66.perm List.perm_append_comm; clear hst66; have hhv66 := HaveO.snoc hown66 hel HGO.out (HT.out _ _ (St.refl _))))
      | ((with_reducible refine at_d 68 ?_); go_loud ((first | (refine wl_loadAll rfl rfl rfl (hs := agg35) (hk := ?_)) | (refine wl_loadN rfl rfl rfl (hs := agg35) (hk := ?_)))))
      | ((with_reducible refine at_d 69 ?_); go_loud (have hz0 : z = 0 := (by have h0 := ‹(z == 0) = true›; exact eq_of_beq h0); rw [if_pos hz0] at hch7; refine wl_call pl12 rfl rfl rfl (ask_any b 1 (hs ++ [G]) G tok _ (hch7.read (fun p hp => hst.own p (by simp [hp]))) HGO.out (HT.out _ _ hst)) ?_; rintro v69 w69 ⟨rfl, hst69⟩; replace hst := hst.call hst69; clear hst69; rw [ask_again (HZ.out.trans hz0)])))
        · go_roundw
          case rel => exact ⟨k + 1, hs ++ [G], Ec7, E66, by omega, by rw [List.length_append]; simp; omega, by go_num, hch7, hhv66, hst.sub (.cons _ (.cons _ (List.Sublist.refl _)))⟩
          case measure => simp [intOf]; omega
        · have hz0 : z ≠ 0 := by simpa using ‹(z == 0) = false›
          rw [if_neg hz0] at hch7
          go_roundw
          case rel => exact ⟨k + 1, hs, Ec7, Eh, by omega, by omega, by go_num, hch7, hhv, hst.drop⟩
          case measure => simp [intOf]; omega
      · go_wp2_with fail
        go_ret
        exact ⟨_, rfl, rfl, hst.none⟩
end Go.Proofs.YtmegpfjlijphoaaDoor
