/- The walk of law13's WriterPlays. WriterPlays: for every byte, every list of headers and every list of bools that lie readable in memory, and both tables of words laid as the program's text lays them, the law returns true and leaves what was handed in. The row, and its card, tied to the text. -/
import Derived.Test.YtmegpfjlijphoaaDoorPl1
import Derived.Test.YtmegpfjlijphoaaDoorOpen4
namespace Go.Proofs.YtmegpfjlijphoaaDoor
open Go.RowKit Go.Jal
set_option maxRecDepth 100000 in
set_option maxHeartbeats 4000000 in
theorem writerPlays_any (x : Nat) (v v2 : Value) (ls : List Hdr) (rs : List Bool) (W : World) (h : Hds W v ls) (hrs : Bools W v2 rs) (hK0 : Has W 0 64 (wF Sha.K)) (hK1 : Has W 1 64 (wF Sha.K)) :
    Ret Tryd.prog 4 #[.int .u8 (x : Int), v, v2] W fun v' w' => v' = .bool true ∧ St W [] [] w' := by
  obtain ⟨ad, c, rfl, hcap, hcm, _⟩ := id h
  obtain ⟨adr, cr, rfl, hrm, hrb⟩ := hrs
  unfold maxLen at hcm hrm
  obtain ⟨m, hm⟩ : ∃ m, m = x % 6 := ⟨_, rfl⟩
  have hm6 : m < 6 := by omega
  have HM : Hid (x % 6 = m) := hm.symm
  have HRB0 := Lib.hid hrb
  clear hm hrb
  go_enter Tryd.func4, Tryd.ntmps4
  have hst := St.refl W
  go_wp2_with (first
      | go_skip
      | ((with_reducible refine at_d 16 ?_); go_loud (refine wl_call pl8 rfl rfl rfl (awake_any _ (hK1.keep hst.none)) ?_; rintro v16 w16 ⟨rfl, hst16⟩; replace hst := hst.call hst16; clear hst16))
      | ((with_reducible refine at_d 20 ?_); (refine wl_call pl9 rfl rfl rfl (few_any _ ls 25 (by omega) _ (h.keep hst.none)) ?_; rintro v20 w20 ⟨⟨r, rfl, hr⟩, rfl⟩))
      | ((with_reducible refine at_d 23 ?_); go_loud (refine wl_call pl8 rfl rfl rfl (awake_any _ (hK1.keep hst.none)) ?_; rintro v23 w23 ⟨rfl, hst23⟩; replace hst := hst.call hst23; clear hst23))
      | ((with_reducible refine at_d 25 ?_); go_loud (refine wl_rem (p := x) (q := 6) (r := m) (by decide) HM.out rfl rfl rfl rfl (hk := ?_)))
      | ((with_reducible refine at_d 27 ?_); go_loud (refine wl_ari (p := 1) (q := (m : Int)) (r := ((m : Int) + 1)) (k := .i64) (by simp only [ariI] <;> omega) (by show _ ∧ _; omega) rfl rfl rfl rfl rfl (hk := ?_)))
      | ((with_reducible refine at_d 29 ?_); go_loud (refine wl_call pl10 rfl rfl rfl (new_any ((m : Int) + 1) (by omega) (by omega) _) ?_; rintro v29 w29 ⟨b, E, rfl, hch, hst29⟩; replace hst := hst.call hst29; clear hst29)))
  · clear hr
    go_ret
    exact ⟨_, rfl, rfl, hst.none⟩
  · obtain ⟨hl20, h20⟩ := hr (by simpa using ‹(!r) = false›)
    clear hr
    simp only [List.append_nil] at hst
    go_loopw [9, 10] (fun v9 i wr => ∃ (k : Nat) (hs : List Hdr) (Ec Eh : List (Nat × Obj)), k ≤ ls.length ∧ hs.length ≤ k ∧ i = .int .i64 (k : Int) ∧ ChainO b ((m : Int) + 1) hs Ec ∧ HaveO W v9 hs Eh ∧ St W [] (Ec ++ Eh) wr) (fun _ i _ => ls.length - (intOf i).toNat)
    case atStart => exact ⟨0, [], E, [], by omega, by simp, rfl, hch, HaveO.nil, by simpa using hst⟩
    case round =>
      clear hst hch
      obtain ⟨k, hs, Ec, Eh, hk, hsk, rfl, hch, hhv, hst⟩ := hrel
      obtain ⟨ad4, c4, rfl, hc4, hm4⟩ := hhv.slice
      unfold maxLen at hm4
      by_cases hkl : k < ls.length
      · obtain ⟨G0, hG0⟩ : ∃ G0, ls[k]? = some G0 := ⟨_, List.getElem?_eq_getElem hkl⟩
        obtain ⟨bl, off, N, f, tok, rfl, hN, hbd, hlt, _, gok, gt, hcell⟩ := Hds.get h hG0
        have HN := Lib.hid hN
        have HA := Lib.hid hcell
        have HO0 : Hid G0.Ok := gok
        have HO1 : Hid (behind hs m G0).Ok := behind_ok gok hm6 (by omega)
        have HT : Hid (∀ L w', St W [] L w' → Toks w' tok G0.toks) := by
          show ∀ _ _ _, _
          exact fun L w' h' => gt.keep h'.none
        have HONE : Hid (tok.oneCell' = true) := tok_one gt
        have HH : Hid (∀ L w', (∀ p ∈ Eh, w'.heap[p.1]? = some p.2) → St W [] L w' → Hds w' (.slice ad4 hs.length c4) hs) := by
          show ∀ _ _ _ _, _
          exact fun L w' h1 h2 => hhv.hds h2 h1
        have HRB : Hid (k < rs.length → ∃ br orr Nr fr rb, adr = some ⟨br, orr, none⟩ ∧ Hid (Has W br Nr fr) ∧ orr + rs.length ≤ Nr ∧ Hid (fr (orr + 1 * k) = .bool rb)) := by
          show _ → _
          intro hq
          obtain ⟨br, orr, Nr, fr, e1, e2, e3, e4⟩ := HRB0.out (by intro e; subst e; simp at hq)
          exact ⟨br, orr, Nr, fr, rs[k], e1, e2, e3, by show _ = _; rw [Nat.one_mul]; exact e4 k _ (List.getElem?_eq_getElem hq)⟩
        clear hG0 hN hcell h gok gt HRB0
        have hq : k < rs.length ∨ rs.length ≤ k := by omega
        rcases hq with hq | hq
        all_goals
          go_wp2_with (first
      | go_skip
      | ((with_reducible refine at_d 38 ?_); go_loud (refine wl_idx (i := k) Tryd.underlying22 siz35 (by omega) rfl rfl rfl rfl (hk := ?_)))
      | ((with_reducible refine at_d 39 ?_); go_loud (refine wl_loadP rfl rfl rfl (HN.out.keep hst.none) agg35 (by omega) HA.out (hk := ?_)))
      | ((with_reducible refine at_d 11 ?_); go_loud (refine wl_alloc rfl rfl hst zer35 ?_; clear hst; intro b11 w11 hb11 hst))
      | ((with_reducible refine at_n (.store 35 (.tmp 11) (.tmp 39)) ?_); go_loud (refine wl_storeAll rfl rfl rfl rfl (hs := agg35) (hv := fun j _ => hF_one _ _ HONE.out j) (hk := ?_); clear hst; intro w1 hst; (try simp only [List.nil_append] at hst)))
      | ((with_reducible refine at_d 43 ?_); go_loud ((first | (refine wl_cmp (p := (k : Int)) (q := (rs.length : Int)) (r := true) (by simp only [cmpI, decide_eq_true_eq, decide_eq_false_iff_not]; omega) rfl rfl rfl rfl rfl (hk := ?_)) | (refine wl_cmp (p := (k : Int)) (q := (rs.length : Int)) (r := false) (by simp only [cmpI, decide_eq_true_eq, decide_eq_false_iff_not]; omega) rfl rfl rfl rfl rfl (hk := ?_)))))
      | ((with_reducible refine at_d 47 ?_); (obtain ⟨br, orr, Nr, fr, rb, rfl, HNr, hbr, HRC⟩ := HRB.out hq; refine wl_idx (i := k) Tryd.underlying43 sc4.size (by omega) rfl rfl rfl rfl (hk := ?_)))
      | ((with_reducible refine at_d 48 ?_); (refine wl_load1v rfl rfl rfl (HNr.out.keep hst.none) HRC.out (by omega) sc4 (hk := ?_)))
      | ((with_reducible refine at_d 52 ?_); go_loud ((first | (refine wl_loadAll rfl rfl rfl (hs := agg35) (hk := ?_)) | (refine wl_loadN rfl rfl rfl (hs := agg35) (hk := ?_)))))
      | ((with_reducible refine at_d 53 ?_); go_loud (refine wl_call pl11 rfl rfl rfl (behind_any _ hs m G0 tok _ (HH.out _ _ (fun p hp => hst.own p (by simp [hp])) hst) hm6 HO0.out (by omega) HONE.out (hK0.keep hst.none)) ?_; rintro v53 w53 ⟨rfl, hst53⟩; replace hst := hst.call hst53; clear hst53))
      | ((with_reducible refine at_n (.store 35 (.tmp 11) (.tmp 53)) ?_); go_loud (refine wl_storeAll rfl rfl rfl rfl (hs := agg35) (hv := fun j _ => hF_one _ _ HONE.out j) (hk := ?_); clear hst; intro w1 hst; (try simp only [List.nil_append] at hst)))
      | ((with_reducible refine at_d 56 ?_); go_loud ((first | (refine wl_loadAll rfl rfl rfl (hs := agg35) (hk := ?_)) | (refine wl_loadN rfl rfl rfl (hs := agg35) (hk := ?_)))))
      | ((with_reducible refine at_d 57 ?_); go_loud (refine wl_call pl17 rfl rfl rfl (refask_val _ _ hs _ tok _ (HH.out _ _ (fun p hp => hst.own p (by simp [hp])) hst) (by first | exact HO0.out | exact HO1.out) (HT.out _ _ hst) (by omega) (hK0.keep hst.none)) ?_; rintro v57 w57 ⟨z, rfl, HZ, hst57⟩; replace hst := hst.call hst57; clear hst57))
      | ((with_reducible refine at_d 59 ?_); go_loud ((first | (refine wl_loadAll rfl rfl rfl (hs := agg35) (hk := ?_)) | (refine wl_loadN rfl rfl rfl (hs := agg35) (hk := ?_)))))
      | ((with_reducible refine at_d 60 ?_); go_loud (refine wl_call pl12 rfl rfl rfl (ask_val b _ z hs _ tok _ (hch.read (fun p hp => hst.own p (by simp [hp]))) (by first | exact HO0.out | exact HO1.out) (HT.out _ _ hst) HZ.out) ?_; rintro v60 w60 ⟨rfl, hst60⟩; replace hst := hst.call hst60; clear hst60))
      | ((with_reducible refine at_d 62 ?_); go_loud (refine wl_cmp (r := false) (by simp [cmpI]) rfl rfl rfl rfl rfl (hk := ?_)))
      | ((with_reducible refine at_d 65 ?_); (refine wl_call pl13 rfl rfl rfl (head_any b _ hs _ (hch.read (fun p hp => hst.own p (by simp [hp])))) ?_; rintro v65 w65 ⟨rfl, rfl⟩))
      | ((with_reducible refine at_d 69 ?_); (refine wl_cmp (r := false) (by simp [cmpI]) rfl rfl rfl rfl rfl (hk := ?_)))
      | ((with_reducible refine at_d 73 ?_); ((first | (refine wl_loadAll rfl rfl rfl (hs := agg35) (hk := ?_)) | (refine wl_loadN rfl rfl rfl (hs := agg35) (hk := ?_)))))
      | ((with_reducible refine at_d 74 ?_); (refine wl_call pl16 rfl rfl rfl (add_val hch (hst.perm List.perm_middle.symm) (by first | exact HO0.out | exact HO1.out) (HT.out _ _ (St.refl _)) hK1 (by omega) HZ.out) ?_; rintro v74 w74 ⟨rfl, Ec7, hch7, hst74⟩; clear hst; have hst := hst74.perm List.perm_middle; clear hst74))
      | ((with_reducible refine at_d 76 ?_); (refine wl_cmp (r := false) (by simp [cmpI]) rfl rfl rfl rfl rfl (hk := ?_)))
      | ((with_reducible refine at_d 81 ?_); go_loud ((first | (refine wl_loadAll rfl rfl rfl (hs := agg35) (hk := ?_)) | (refine wl_loadN rfl rfl rfl (hs := agg35) (hk := ?_)))))
      | ((with_reducible refine at_d 82 ?_); go_loud (refine wl_buildSlice1 rfl rfl elt22 (by decide) (by (conv => lhs; whnf) <;> rfl) (by first | exact row_one _ | rfl) hst ?_; clear hst; intro b82 w82 hb82 hst))
      | ((with_reducible refine at_d 83 ?_); go_loud (obtain ⟨g, hown, hel⟩ := hhv; refine wl_append rfl rfl elt22 rfl rfl hown (L := (b82, blk 125 (hF _ tok) 35) :: (b11, blk 125 (hF _ tok) 35) :: Ec7) (h := hF _ tok) (hst.perm (List.perm_append_comm (l₁ := (b82, blk 125 (hF _ tok) 35) :: (b11, blk 125 (hF _ tok) 35) :: Ec7) (l₂ := Eh))) (.inr ⟨b82, 0, 125, _, rfl, hst.hasb Pick.head, by omega, fun j _ => by rw [Nat.zero_add]⟩) (by intro h; cases h) (fun j _ => hF_one _ _ HONE.out j) (by omega) (by unfold maxLen; omega) ?_; intro v83 w83 E83 hown83 hst83 _; clear hst; have hst : St W [] ((b82, blk 125 (hF _ tok) 35) :: (b11, blk 125 (hF _ tok) 35) :: (Ec7 ++ E83)) w83 := hst83.perm List.perm_append_comm; clear hst83; have hhv83 := HaveO.snoc hown83 hel (by first | exact HO0.out | exact HO1.out) (HT.out _ _ (St.refl _)); obtain ⟨ad83, c83, rfl, hc83, hm83⟩ := hhv83.slice; unfold maxLen at hm83; simp only [List.length_append, List.length_cons, List.length_nil, Nat.zero_add] at hhv83 hc83))
      | ((with_reducible refine at_d 85 ?_); go_loud ((first | (have hz0 : z = 0 := eq_of_beq ‹(z == 0) = true›; rw [if_pos hz0] at hch7) | (have hz0 : z ≠ 0 := (by simpa using ‹(z == 0) = false›); rw [if_neg hz0] at hch7)); refine wl_call pl13 rfl rfl rfl (head_any b _ _ _ (hch7.read (fun p hp => hst.own p (by simp [hp])))) ?_; rintro v85 w85 ⟨rfl, rfl⟩))
      | ((with_reducible refine at_d 89 ?_); go_loud (refine wl_cmp (r := false) (by simp [cmpI]) rfl rfl rfl rfl rfl (hk := ?_)))
      | ((with_reducible refine at_d 92 ?_); (refine wl_call pl14 rfl rfl rfl (tip_any b _ _ _ (hch7.read (fun p hp => hst.own p (by simp [hp])))) ?_; rintro v92 w92 ⟨rfl, hst92⟩; replace hst := hst.call hst92; clear hst92))
      | ((with_reducible refine at_d 94 ?_); (refine wl_call pl15 rfl rfl rfl (reftip_any _ _ _ (by first | exact hhv83.hds hst (fun p hp => hst.own p (by simp [hp])) | exact hhv.hds hst (fun p hp => hst.own p (by simp [hp]))) (hK0.keep hst.none)) ?_; rintro v94 w94 ⟨rfl, hst94⟩; replace hst := hst.call hst94; clear hst94))
      | ((with_reducible refine at_d 95 ?_); (refine wl_neB rfl rfl eqb29 rfl rfl (tip_is _).1 (tip_is _).1 (tip_is _).2 (tip_is _).2 (r := false) (by simp) (hk := ?_)))
      | ((with_reducible refine at_d 99 ?_); (refine wl_call pl18 rfl rfl rfl (writer_any b _ _ _ (hch7.read (fun p hp => hst.own p (by simp [hp])))) ?_; rintro v99 w99 ⟨rfl, rfl⟩))
      | ((with_reducible refine at_d 101 ?_); (refine wl_cmp (r := false) (by simp [cmpI]) rfl rfl rfl rfl rfl (hk := ?_))))
        all_goals
          go_roundw
          case rel =>
            simp only [List.nil_append] at hst
            first
            | exact ⟨k + 1, _, Ec7, E83, by omega, by rw [List.length_append]; simp; omega, by go_num, hch7, hhv83, hst.sub (.cons _ (.cons _ (List.Sublist.refl _)))⟩
            | exact ⟨k + 1, hs, Ec7, Eh, by omega, by omega, by go_num, hch7, hhv, hst.drop⟩
          case measure => simp [intOf]; omega
      · have HOUT : Hid (∀ x : Nat, x < hs.length → ∃ G, hs[x]? = some G ∧ ∃ bh Nh fh tokh, ad4 = some ⟨bh, 0, none⟩ ∧ Hid ((bh, blk Nh fh 35) ∈ Eh) ∧ 125 * hs.length ≤ Nh ∧ G.Ok ∧ Hid (Toks W tokh G.toks) ∧ Hid (∀ j, j < 125 → fh (0 + 125 * x + j) = hF G tokh j)) := by
          show ∀ x : Nat, _
          intro x hx
          obtain ⟨bh, Nh, fh, tokh, e1, e2, e3, _, e5, e6, e7⟩ := hhv.get (m := x) (List.getElem?_eq_getElem hx)
          exact ⟨hs[x], List.getElem?_eq_getElem hx, bh, Nh, fh, tokh, e1, e2, e3, e5, e6, e7⟩
        clear hhv h HRB0
        go_wp2_with (fail)
        go_loopw [13] (fun i wr => ∃ q : Nat, q ≤ hs.length + 2 ∧ i = .int .i64 (q : Int) ∧ St W [] (Ec ++ Eh) wr) (fun i _ => hs.length + 2 - (intOf i).toNat)
        case atStart => exact ⟨0, by omega, rfl, hst⟩
        case round =>
          clear hst
          obtain ⟨q, hq, rfl, hst⟩ := hrel
          by_cases hq2 : q < hs.length + 2
          · by_cases hin : 1 ≤ q ∧ q ≤ hs.length
            · obtain ⟨y, rfl⟩ : ∃ y, q = y + 1 := ⟨q - 1, by omega⟩
              obtain ⟨G, hG, bh, Nh, fh, tokh, rfl, HMB, hNh, gok, HTK, HAG⟩ := HOUT.out y (by omega)
              have HG := Lib.hid hG
              have HTG : Hid (∀ L w', St W [] L w' → Toks w' tokh G.toks) := by
                show ∀ _ _ _, _
                exact fun L w' h' => HTK.out.keep h'.none
              have hyl : y < hs.length := by omega
              clear hG hin
              go_wp2_with (first
      | ((with_reducible refine at_d 106 ?_); go_loud (refine wl_ari (p := (hs.length : Int)) (q := 1) (r := ((hs.length : Int) + 1)) (k := .i64) (by simp only [ariI] <;> omega) (by show _ ∧ _; omega) rfl rfl rfl rfl rfl (hk := ?_)))
      | ((with_reducible refine at_d 107 ?_); go_loud ((first | (refine wl_cmp (p := (y : Int) + 1) (q := (hs.length : Int) + 1) (r := true) (by simp only [cmpI, decide_eq_true_eq, decide_eq_false_iff_not]; omega) rfl rfl rfl rfl rfl (hk := ?_)) | (refine wl_cmp (p := (y : Int) + 1) (q := (hs.length : Int) + 1) (r := false) (by simp only [cmpI, decide_eq_true_eq, decide_eq_false_iff_not]; omega) rfl rfl rfl rfl rfl (hk := ?_)))))
      | ((with_reducible refine at_d 114 ?_); go_loud (refine wl_call pl19 rfl rfl rfl (at_yes b y _ hs G _ (hch.read (fun p hp => hst.own p (by simp [hp]))) HG.out) ?_; rintro v114 w114 ⟨t114, E114, rfl, hown114, hst114⟩; replace hst := hst.call hst114; clear hst114; have hown := hown114; obtain ⟨ad114, c114, rfl, _⟩ := hown114.slice))
      | ((with_reducible refine at_d 14 ?_); go_loud (refine wl_alloc rfl rfl hst zer35 ?_; clear hst; intro b14 w14 hb14 hst))
      | ((with_reducible refine at_n (.store 35 (.tmp 14) (.tmp 115)) ?_); go_loud (refine wl_storeAll rfl rfl rfl rfl (hs := agg35) (hv := fun j _ => hF_one _ _ rfl j) (hk := ?_); clear hst; intro w1 hst)))
              refine rg_start (St W [] ((b14, blk 125 (hF G (Value.slice ad114 G.toks.length c114)) 35) :: (E114 ++ (Ec ++ Eh)))) mixed (hst.drew) ?_
              refine rg_take [0, 1, 2, 3, 4, 5, 6, 7, 8, 9, 10, 11, 12, 13, 14, 15, 16, 17, 18, 19, 20, 21, 22, 23, 24, 25, 26, 27, 28, 29, 30, 31] 0 _ rfl (by kernel_rfl) (by kernel_rfl) rfl (cls_st _ _ _) (fun _ _ _ _ _ h => h) ?_
              refine tk_wp (hk := ?_)
              refine tk_wp (hk := ?_)
              first | (refine tk_cmp (p := (y : Int) + 1) (q := 1) (r := true) (by simp only [cmpI, decide_eq_true_eq, decide_eq_false_iff_not]; omega) rfl rfl rfl rfl rfl rfl (hk := ?_)) | (refine tk_cmp (p := (y : Int) + 1) (q := 1) (r := false) (by simp only [cmpI, decide_eq_true_eq, decide_eq_false_iff_not]; omega) rfl rfl rfl rfl rfl rfl (hk := ?_))
              refine tk_wp (hk := ?_)
              first | (refine tk_skip rfl (by rfl) (hk := ?_)) | (refine tk_wp (hk := ?_))
              first | (refine tk_skip rfl (by rfl) (hk := ?_)) | (refine tk_wp (hk := ?_))
              first | (refine tk_skip rfl (by rfl) (hk := ?_)) | (refine tk_wp (hk := ?_))
              first | (refine tk_skip rfl (by rfl) (hk := ?_)) | (first | (refine tk_cmp (p := (y : Int) + 1) (q := (hs.length : Int)) (r := true) (by simp only [cmpI, decide_eq_true_eq, decide_eq_false_iff_not]; omega) rfl rfl rfl rfl rfl rfl (hk := ?_)) | (refine tk_cmp (p := (y : Int) + 1) (q := (hs.length : Int)) (r := false) (by simp only [cmpI, decide_eq_true_eq, decide_eq_false_iff_not]; omega) rfl rfl rfl rfl rfl rfl (hk := ?_)))
              refine tk_wp (hk := ?_)
              refine tk_wp (hk := ?_)
              refine tk_wp (hk := ?_)
              first | (refine tk_skip rfl (by rfl) (hk := ?_)) | (refine tk_wp (hk := ?_))
              first | (refine tk_skip rfl (by rfl) (hk := ?_)) | (refine tk_wp (hk := ?_))
              first | (refine tk_skip rfl (by rfl) (hk := ?_)) | (first | (refine tk_loadAll rfl rfl (by rfl) rfl (hs := agg35) (hk := ?_)) | (refine tk_loadN rfl rfl (by rfl) rfl (hs := agg35) (hk := ?_)))
              first | (refine tk_skip rfl (by rfl) (hk := ?_)) | (refine tk_wp (hk := ?_))
              first | (refine tk_skip rfl (by rfl) (hk := ?_)) | (refine tk_wp (hk := ?_))
              first | (refine tk_skip rfl (by rfl) (hk := ?_)) | (refine tk_ari (p := (y : Int) + 1) (q := 1) (r := (y : Int)) (k := .i64) (by simp only [ariI] <;> omega) (by show _ ∧ _; omega) rfl rfl rfl rfl rfl rfl (hk := ?_))
              first | (refine tk_skip rfl (by rfl) (hk := ?_)) | (refine tk_idx (i := y) Tryd.underlying22 siz35 (by omega) rfl rfl rfl rfl rfl (hk := ?_))
              first | (refine tk_skip rfl (by rfl) (hk := ?_)) | (refine tk_loadP rfl rfl (by rfl) rfl (fun w hst => (show Has w bh Nh fh from ⟨_, _, hst.own (bh, blk Nh fh 35) (by simp [HMB.out])⟩)) agg35 (by omega) HAG.out (hk := ?_))
              first | (refine tk_skip rfl (by rfl) (hk := ?_)) | (refine tk_call (v := .bool true) pl20 rfl rfl (by rfl) rfl (fun w hst => same_any G G _ _ w gok gok (toks_ownp hown gok.toks (fun p hp => hst.own p (by simp [hp]))) (HTG.out _ _ hst)) (fun w u w' hR => (by obtain ⟨rfl, hs'⟩ := hR; exact ⟨by simp, hs'.below⟩)) (hk := ?_))
              first | (refine tk_skip rfl (by rfl) (hk := ?_)) | (refine tk_wp (hk := ?_))
              first | (refine tk_skip rfl (by rfl) (hk := ?_)) | (refine tk_wp (hk := ?_))
              refine tk_wp (hk := ?_)
              refine tk_wp (hk := ?_)
              first | (refine tk_skip rfl (by rfl) (hk := ?_)) | (refine tk_wp (hk := ?_))
              first | (refine tk_skip rfl (by rfl) (hk := ?_)) | (refine tk_wp (hk := ?_))
              first | (refine tk_skip rfl (by rfl) (hk := ?_)) | (refine tk_wp (hk := ?_))
              first | (refine tk_skip rfl (by rfl) (hk := ?_)) | (first | (refine tk_loadAll rfl rfl (by rfl) rfl (hs := agg35) (hk := ?_)) | (refine tk_loadN rfl rfl (by rfl) rfl (hs := agg35) (hk := ?_)))
              first | (refine tk_skip rfl (by rfl) (hk := ?_)) | (refine tk_call pl21 rfl rfl (by rfl) rfl (fun w hst => blank_any w) (fun w u w' hR => (by obtain ⟨rfl, hs'⟩ := hR; exact ⟨rfl, hs'.below⟩)) (hk := ?_))
              first | (refine tk_skip rfl (by rfl) (hk := ?_)) | (refine tk_wp (hk := ?_))
              first | (refine tk_skip rfl (by rfl) (hk := ?_)) | (refine tk_wp (hk := ?_))
              refine tk_wp (hk := ?_)
              refine tk_nil ?_
              refine rg_done (by kernel_rfl) (fun w1 hst1 => ?_) _
              clear hst; have hst := hst1; clear hst1
              go_wp2_with (fail)
              go_roundw
              case rel => exact ⟨y + 1 + 1, by omega, by go_num, hst.sub (.cons _ (List.sublist_append_right _ _))⟩
              case measure => simp [intOf]; omega
            · by_cases hq0 : 1 ≤ q
              all_goals
                go_wp2_with (first
      | ((with_reducible refine at_d 106 ?_); go_loud (refine wl_ari (p := (hs.length : Int)) (q := 1) (r := ((hs.length : Int) + 1)) (k := .i64) (by simp only [ariI] <;> omega) (by show _ ∧ _; omega) rfl rfl rfl rfl rfl (hk := ?_)))
      | ((with_reducible refine at_d 107 ?_); go_loud ((first | (refine wl_cmp (p := (q : Int)) (q := (hs.length : Int) + 1) (r := true) (by simp only [cmpI, decide_eq_true_eq, decide_eq_false_iff_not]; omega) rfl rfl rfl rfl rfl (hk := ?_)) | (refine wl_cmp (p := (q : Int)) (q := (hs.length : Int) + 1) (r := false) (by simp only [cmpI, decide_eq_true_eq, decide_eq_false_iff_not]; omega) rfl rfl rfl rfl rfl (hk := ?_)))))
      | ((with_reducible refine at_d 114 ?_); go_loud (refine wl_call pl19 rfl rfl rfl (at_no b q _ hs _ (hch.read (fun p hp => hst.own p (by simp [hp]))) (by omega) (by omega)) ?_; rintro v114 w114 ⟨rfl, hst114⟩; replace hst := hst.call hst114; clear hst114))
      | ((with_reducible refine at_d 14 ?_); go_loud (refine wl_alloc rfl rfl hst zer35 ?_; clear hst; intro b14 w14 hb14 hst))
      | ((with_reducible refine at_n (.store 35 (.tmp 14) (.tmp 115)) ?_); go_loud (refine wl_storeAll rfl rfl rfl rfl (hs := agg35) (hv := fun j _ => hF_one _ _ rfl j) (hk := ?_); clear hst; intro w1 hst)))
                simp only [List.nil_append] at hst
                refine rg_start (St W [] ((b14, blk 125 (hF zH (Value.slice none 0 0)) 35) :: (Ec ++ Eh))) mixed (hst.drew) ?_
                refine rg_take [0, 1, 2, 3, 4, 5, 6, 7, 8, 9, 10, 11, 12, 13, 14, 15, 16, 17, 18, 19, 20, 21, 22, 23, 24, 25, 26, 27, 28, 29, 30, 31] 0 _ rfl (by kernel_rfl) (by kernel_rfl) rfl (cls_st _ _ _) (fun _ _ _ _ _ h => h) ?_
                refine tk_wp (hk := ?_)
                refine tk_wp (hk := ?_)
                first | (refine tk_cmp (p := (q : Int)) (q := 1) (r := true) (by simp only [cmpI, decide_eq_true_eq, decide_eq_false_iff_not]; omega) rfl rfl rfl rfl rfl rfl (hk := ?_)) | (refine tk_cmp (p := (q : Int)) (q := 1) (r := false) (by simp only [cmpI, decide_eq_true_eq, decide_eq_false_iff_not]; omega) rfl rfl rfl rfl rfl rfl (hk := ?_))
                refine tk_wp (hk := ?_)
                first | (refine tk_skip rfl (by rfl) (hk := ?_)) | (refine tk_wp (hk := ?_))
                first | (refine tk_skip rfl (by rfl) (hk := ?_)) | (refine tk_wp (hk := ?_))
                first | (refine tk_skip rfl (by rfl) (hk := ?_)) | (refine tk_wp (hk := ?_))
                first | (refine tk_skip rfl (by rfl) (hk := ?_)) | (first | (refine tk_cmp (p := (q : Int)) (q := (hs.length : Int)) (r := true) (by simp only [cmpI, decide_eq_true_eq, decide_eq_false_iff_not]; omega) rfl rfl rfl rfl rfl rfl (hk := ?_)) | (refine tk_cmp (p := (q : Int)) (q := (hs.length : Int)) (r := false) (by simp only [cmpI, decide_eq_true_eq, decide_eq_false_iff_not]; omega) rfl rfl rfl rfl rfl rfl (hk := ?_)))
                refine tk_wp (hk := ?_)
                refine tk_wp (hk := ?_)
                refine tk_wp (hk := ?_)
                first | (refine tk_skip rfl (by rfl) (hk := ?_)) | (refine tk_wp (hk := ?_))
                first | (refine tk_skip rfl (by rfl) (hk := ?_)) | (refine tk_wp (hk := ?_))
                first | (refine tk_skip rfl (by rfl) (hk := ?_)) | (first | (refine tk_loadAll rfl rfl (by rfl) rfl (hs := agg35) (hk := ?_)) | (refine tk_loadN rfl rfl (by rfl) rfl (hs := agg35) (hk := ?_)))
                first | (refine tk_skip rfl (by rfl) (hk := ?_)) | (refine tk_wp (hk := ?_))
                first | (refine tk_skip rfl (by rfl) (hk := ?_)) | (refine tk_wp (hk := ?_))
                first | (refine tk_skip rfl (by rfl) (hk := ?_)) | (refine tk_wp (hk := ?_))
                first | (refine tk_skip rfl (by rfl) (hk := ?_)) | (refine tk_wp (hk := ?_))
                first | (refine tk_skip rfl (by rfl) (hk := ?_)) | (first | (refine tk_loadAll rfl rfl (by rfl) rfl (hs := agg35) (hk := ?_)) | (refine tk_loadN rfl rfl (by rfl) rfl (hs := agg35) (hk := ?_)))
                first | (refine tk_skip rfl (by rfl) (hk := ?_)) | (refine tk_call (v := .bool true) pl20 rfl rfl (by rfl) rfl (fun w hst => same_any G G _ _ w gok gok (toks_ownp hown gok.toks (fun p hp => hst.own p (by simp [hp]))) (HTG.out _ _ hst)) (fun w u w' hR => (by obtain ⟨rfl, hs'⟩ := hR; exact ⟨by simp, hs'.below⟩)) (hk := ?_))
                first | (refine tk_skip rfl (by rfl) (hk := ?_)) | (refine tk_wp (hk := ?_))
                first | (refine tk_skip rfl (by rfl) (hk := ?_)) | (refine tk_wp (hk := ?_))
                refine tk_wp (hk := ?_)
                refine tk_wp (hk := ?_)
                first | (refine tk_skip rfl (by rfl) (hk := ?_)) | (refine tk_wp (hk := ?_))
                first | (refine tk_skip rfl (by rfl) (hk := ?_)) | (refine tk_wp (hk := ?_))
                first | (refine tk_skip rfl (by rfl) (hk := ?_)) | (refine tk_wp (hk := ?_))
                first | (refine tk_skip rfl (by rfl) (hk := ?_)) | (first | (refine tk_loadAll rfl rfl (by rfl) rfl (hs := agg35) (hk := ?_)) | (refine tk_loadN rfl rfl (by rfl) rfl (hs := agg35) (hk := ?_)))
                first | (refine tk_skip rfl (by rfl) (hk := ?_)) | (refine tk_call pl21 rfl rfl (by rfl) rfl (fun w hst => blank_any w) (fun w u w' hR => (by obtain ⟨rfl, hs'⟩ := hR; exact ⟨rfl, hs'.below⟩)) (hk := ?_))
                first | (refine tk_skip rfl (by rfl) (hk := ?_)) | (refine tk_wp (hk := ?_))
                first | (refine tk_skip rfl (by rfl) (hk := ?_)) | (refine tk_wp (hk := ?_))
                refine tk_wp (hk := ?_)
                refine tk_nil ?_
                refine rg_done (by kernel_rfl) (fun w1 hst1 => ?_) _
                clear hst; have hst := hst1; clear hst1
                go_wp2_with (fail)
                go_roundw
                case rel => exact ⟨q + 1, by omega, by go_num, hst.drop⟩
                case measure => simp [intOf]; omega
          · go_wp2_with (first
      | ((with_reducible refine at_d 106 ?_); go_loud (refine wl_ari (p := (hs.length : Int)) (q := 1) (r := ((hs.length : Int) + 1)) (k := .i64) (by simp only [ariI] <;> omega) (by show _ ∧ _; omega) rfl rfl rfl rfl rfl (hk := ?_)))
      | ((with_reducible refine at_d 107 ?_); go_loud ((first | (refine wl_cmp (p := (q : Int)) (q := (hs.length : Int) + 1) (r := true) (by simp only [cmpI, decide_eq_true_eq, decide_eq_false_iff_not]; omega) rfl rfl rfl rfl rfl (hk := ?_)) | (refine wl_cmp (p := (q : Int)) (q := (hs.length : Int) + 1) (r := false) (by simp only [cmpI, decide_eq_true_eq, decide_eq_false_iff_not]; omega) rfl rfl rfl rfl rfl (hk := ?_))))))
            go_ret
            exact ⟨_, rfl, rfl, hst.none⟩
end Go.Proofs.YtmegpfjlijphoaaDoor
namespace Go.Proofs.YtmegpfjlijphoaaDoor
open Go.ChangeShapes Go.WideShapes Go.ChangeAt Go.WideMaps Go.WideElems Go.RowKit Go.Jal

set_option maxRecDepth 100000 in
theorem writerPlays_lifted (os : Os) (started : os.Started) (H : Type) (enc : TypeId × Value → H) :
    ReturnsInHanded {} Tryd.checked os 4 .any (fun w args => (Rows.writerPlaysSpec.pre enc Tryd.prog Tryd.f4 [] false w args ∧ laidMetH Tryd.prog laidK w) ∧ sizedMet enc Tryd.prog Tryd.f4 (OpenSpec.ofChange Rows.writerPlaysSpec) false w args)
      (Rows.writerPlaysSpec.post enc Tryd.prog Tryd.f4 false true false false) := by
  refine returnsInHanded_of_change_and (C := Tryd.checked) (X := fun w _ => laidMetH Tryd.prog laidK w) (fun _ _ _ hh h => h.of_heap hh) own started (by kernel_rfl) Tryd.func4
    (ChangeSpec.witness_shaped (enc := enc) (C := Tryd.checked) (os := os) (X := fun w _ => laidMetH Tryd.prog laidK w) false (World.doorLaid Tryd.prog 4000 os) #[.int .u8 0, .slice none 0 0, .slice none 0 0] 8 rfl (World.shaped_of_RefB (by kernel_rfl) (by kernel_rfl)) (by kernel_rfl) (by kernel_rfl) (by kernel_rfl) (door_met os _)) ?_
  intro W base args ds gs before hval0 hW _ _ hL _
  have hval : ∀ (j : Nat) t v, Tryd.f4.params[j]? = some t → args[j]? = some v → Value.okWide Tryd.prog W .any base t v := hval0
  have hW' := hW
  obtain ⟨p, q, hA0, hV, rfl, hfz, hnd⟩ := hW
  have hA : DataW.TrodAll enc Tryd.prog W 0 (fun _ => true) true Tryd.f4.params.toList args.toList ds p := hA0
  rw [Tryd.params4] at hA hval
  obtain ⟨v0, v1, v2, d0, d1, d2, p0, p1, p2, rfl, rfl, rfl, k0, k1, k2⟩ := trodAll_three hA
  obtain ⟨rfl, rfl⟩ := trodVars_none hV
  have lt0 : ∀ x ∈ p0, x.block < W.heap.size := by obtain ⟨m, hm⟩ := k0; exact DataW.trod_lt m _ _ _ hm
  have lt1 : ∀ x ∈ p1, x.block < W.heap.size := by obtain ⟨m, hm⟩ := k1; exact DataW.trod_lt m _ _ _ hm
  have lt2 : ∀ x ∈ p2, x.block < W.heap.size := by obtain ⟨m, hm⟩ := k2; exact DataW.trod_lt m _ _ _ hm
  obtain ⟨n0, e0, _, _, hw0⟩ := open_int Tryd.underlying5 (hval 0 5 v0 rfl rfl) k0
  obtain ⟨m0, rfl, _⟩ := wf_u8 hw0
  subst e0
  obtain ⟨l1, h1⟩ := open_hdrs (hval 1 22 v1 rfl rfl) k1
  obtain ⟨l2, h2⟩ := open_bools (hval 2 43 v2 rfl rfl) k2
  have hcall := writerPlays_any m0 v1 v2 l1 l2 W h1 h2 (of_laid hL).2 (of_laid hL).1
  clear hA0 hval0
  refine Calls.mono hcall ?_
  rintro e W' ⟨v', rfl, rfl, hst⟩
  have bel := hst.below
  exact ⟨_, rfl, _, _, _, [], _, [], hW', trodAll_mk1 (shut_bool Tryd.underlying4 _), trodAll_mk3 (Below.trod laidOut (by kernel_rfl) (of_decide_eq_true (by kernel_rfl)) k0 bel lt0) (Below.trod laidOut (by kernel_rfl) (of_decide_eq_true (by kernel_rfl)) k1 bel lt1) (Below.trod laidOut (by kernel_rfl) (of_decide_eq_true (by kernel_rfl)) k2 bel lt2), rfl, bel.frame _, fun h => by cases h⟩
theorem writerPlays_row : Rows.WriterPlaysSaid :=
  OpenClaim.holds_of_wide 4 Tryd.f4 rfl rfl rfl rfl rfl rfl rfl ⟨rfl, rfl, rfl, rfl, rfl⟩ rfl rfl rfl rfl rfl (by kernel_rfl) Tryd.func4 (by kernel_rfl)
    (of_decide_eq_true (by kernel_rfl)) (by unfold Func.isWrapper; first | (rw [if_pos (by decide +kernel)]; kernel_rfl) | (rw [if_neg (by decide +kernel)]; exact ⟨rfl, rfl⟩))
    (fun os started H enc _ => writerPlays_lifted os started H enc)
theorem writerPlays_card : Rows.WriterPlaysCardSaid :=
  Claim7.holds_tied_plain_at .later [] [.data, .data] true (true, "752c0f0884d59ad1d35480a3cbcce539d087732fcb49b9c026f1b6ecce218f39") false
    writerPlays_row (fun _ h => by cases h) (by kernel_rfl) (fun _ h => by cases h) writerPlays_row_tie rfl ⟨rfl, rfl⟩ (by kernel_rfl) rfl
    (fun f fn hf hfn => by
      obtain rfl : f = 4 := Option.some.inj ((show Tryd.prog.funcNamed "jalousie/jalousielaw13.WriterPlays" = some 4 by kernel_rfl).symm.trans hf) |>.symm
      obtain rfl : fn = Tryd.f4 := (Option.some.inj (Tryd.func4.symm.trans hfn)).symm
      exact ⟨by kernel_rfl, fun j t ht => by
        rw [Tryd.params4] at ht
        have hall : ∀ t ∈ [5, 22, 43], Tryd.prog.wantsStandIn t = false := by
          intro t ht
          simp only [List.mem_cons, List.not_mem_nil, or_false] at ht
          rcases ht with rfl | rfl | rfl <;> kernel_rfl
        exact hall t (by have := Array.mem_of_getElem? ht; simpa using this)⟩)
    (by kernel_rfl)
#print axioms writerPlays_card
end Go.Proofs.YtmegpfjlijphoaaDoor
