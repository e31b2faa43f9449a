/- The walk of writer.Chain.Ask. -/
import Derived.Test.YthbobmpeaemdnaaDoorChain2
namespace Go.Jal
/-- what a chain says of a header -/
def askOf (wr : Int) (hs : List Hdr) (H : Hdr) : Int :=
  if formed H = true ∧ H.writer = wr then
    (match hs[H.seq - 1]? with
    | some G => if G = H then 13 else 8
    | none => if hs.length + 1 < H.seq then 12 else if H.prev = tipOf hs then 0 else 7)
  else 1
theorem tip_ok {hs : List Hdr} (hsh : (∀ H, (hashB H).length = 32) ∧ ∀ H, ∀ x ∈ hashB H, x < 256) : isB 32 (tipOf hs) := by
  unfold tipOf
  cases q : hs.getLast? with
  | none => exact ⟨by simp [zeros], fun x hx => by rw [(List.mem_replicate.1 hx).2]; decide⟩
  | some H => exact ⟨hsh.1 H, hsh.2 H⟩
end Go.Jal
namespace Go.Proofs.YthbobmpeaemdnaaDoor
open Go.RowKit Go.Jal
set_option maxRecDepth 100000 in
set_option maxHeartbeats 4000000 in
theorem ask_any (bc : Nat) (wr : Int) (hs : List Hdr) (H : Hdr) (tok : Value) (w : World) (h : ChainR w bc wr hs) (hok : H.Ok) (ht : Toks w tok H.toks) :
    Ret Tryd.prog 48 #[.pointer (some ⟨bc, 0, none⟩), .agg (row 125 (hF H tok))] w fun v' w' => v' = .int .i64 (askOf wr hs H) ∧ St w [] [] w' := by
  have HC : Hid (∀ w', St w [] [] w' → ChainR w' bc wr hs) := by show ∀ _, _; exact fun w' h' => h.keep h'
  have HT : Hid (∀ w', St w [] [] w' → Toks w' tok H.toks) := by show ∀ _, _; exact fun w' h' => ht.keep h'
  have HS := Lib.hid hok.seq
  obtain ⟨tad, tcap, rfl, _⟩ := id ht
  obtain ⟨hv, hB, hH, hl, hfm, hw1, hw2⟩ := h
  obtain ⟨ad, cap, rfl, hc1, hc2, hoks, _⟩ := id hH
  have HTI := Lib.hid (tip_ok (hs := hs) ⟨fun H => sha_len _, fun H => sha_lt _⟩)
  obtain ⟨tp, htp⟩ : ∃ tp, tp = tipOf hs := ⟨_, rfl⟩
  rw [← htp] at hB HTI
  go_enter Tryd.func48, Tryd.ntmps48
  have hst := St.refl w
  go_wp2_with (first
      | ((with_reducible refine at_d 3 ?_); go_loud (refine wl_box rfl rfl rfl (by first | rfl | exact row_one _) hst ?_; clear hst; intro b3 w3 hb3 hst)))
  cases hf : formed H with
  | false =>
    have HF := Lib.hid hf
    have HR : Hid (askOf wr hs H = 1) := by show _ = _; unfold askOf; rw [hf]; simp
    clear hf htp
    refine rg_start (St w [] [(b3, blk 125 (hF H (.slice tad H.toks.length tcap)) 34)]) mixed (hst.drew) ?_
    refine rg_take [0] 11 _ rfl (by kernel_rfl) (by kernel_rfl) rfl (cls_st _ _ _) (fun _ _ _ _ _ h => h) ?_
    first | (refine tk_loadAll rfl rfl (by rfl) rfl (hs := agg34) (hk := ?_)) | (refine tk_loadN rfl rfl (by rfl) rfl (hs := agg34) (hk := ?_))
    refine tk_nil ?_
    refine rg_st (i := 1) (n := 10) (by kernel_rfl) rfl rfl rfl (fun w' hst => wo_call pl46 rfl rfl (formed_any H _ _ hok (HT.out _ hst.none)) (fun v8 w8 hR8 => ?_))
    obtain ⟨rfl, hst8⟩ := hR8
    refine ⟨[], hst.call hst8, ?_⟩
    rw [HF.out]
    simp only [put_lit, setL]
    refine rg_take [2, 3, 4, 5, 6, 7, 8, 9, 10, 11] 0 _ rfl (by kernel_rfl) (by kernel_rfl) rfl (cls_st _ _ _) (fun _ _ _ _ _ h => h) ?_
    refine tk_wp (hk := ?_)
    refine tk_wp (hk := ?_)
    first | (refine tk_skip rfl (by rfl) (hk := ?_)) | (refine tk_fld (r := 0) fld34_0 rfl rfl rfl rfl rfl (hk := ?_))
    first | (refine tk_skip rfl (by rfl) (hk := ?_)) | (refine tk_load1 rfl rfl (by rfl) rfl (hs := sc3) (hk := ?_))
    first | (refine tk_skip rfl (by rfl) (hk := ?_)) | (refine tk_wp (hk := ?_))
    first | (refine tk_skip rfl (by rfl) (hk := ?_)) | (refine tk_wp (hk := ?_))
    first | (refine tk_skip rfl (by rfl) (hk := ?_)) | (refine tk_fld (r := 0) fld92_0 rfl rfl rfl rfl rfl (hk := ?_))
    first | (refine tk_skip rfl (by rfl) (hk := ?_)) | (refine tk_load1 rfl rfl (by rfl) rfl (hs := sc3) (hk := ?_))
    first | (refine tk_skip rfl (by rfl) (hk := ?_)) | (refine tk_wp (hk := ?_))
    refine tk_wp (hk := ?_)
    refine tk_nil ?_
    refine rg_done (by kernel_rfl) (fun w1 hst1 => ?_) _
    clear hst; have hst := hst1; clear hst1
    go_wp2_with (fail)
    go_ret
    exact ⟨_, rfl, by rw [HR.out]; rfl, hst.none⟩
  | true =>
    have HF := Lib.hid hf
    have hseq := (formed_nat hf).2.2.2.2.2.2.2.1
    by_cases hwr : ¬ H.writer = wr
    · have HR : Hid (askOf wr hs H = 1) := by show _ = _; unfold askOf; rw [if_neg (fun e => hwr e.2)]
      have HW := Lib.hid hwr
      clear hf htp hwr
      refine rg_start (St w [] [(b3, blk 125 (hF H (.slice tad H.toks.length tcap)) 34)]) mixed (hst.drew) ?_
      refine rg_take [0] 11 _ rfl (by kernel_rfl) (by kernel_rfl) rfl (cls_st _ _ _) (fun _ _ _ _ _ h => h) ?_
      first | (refine tk_loadAll rfl rfl (by rfl) rfl (hs := agg34) (hk := ?_)) | (refine tk_loadN rfl rfl (by rfl) rfl (hs := agg34) (hk := ?_))
      refine tk_nil ?_
      refine rg_st (i := 1) (n := 10) (by kernel_rfl) rfl rfl rfl (fun w' hst => wo_call pl46 rfl rfl (formed_any H _ _ hok (HT.out _ hst.none)) (fun v8 w8 hR8 => ?_))
      obtain ⟨rfl, hst8⟩ := hR8
      refine ⟨[], hst.call hst8, ?_⟩
      rw [HF.out]
      simp only [put_lit, setL]
      refine rg_take [2, 3, 4, 5, 6, 7, 8, 9, 10, 11] 0 _ rfl (by kernel_rfl) (by kernel_rfl) rfl (cls_st _ _ _) (fun _ _ _ _ _ h => h) ?_
      refine tk_wp (hk := ?_)
      refine tk_wp (hk := ?_)
      first | (refine tk_skip rfl (by rfl) (hk := ?_)) | (refine tk_fld (r := 0) fld34_0 rfl rfl rfl rfl rfl (hk := ?_))
      first | (refine tk_skip rfl (by rfl) (hk := ?_)) | (refine tk_load1 rfl rfl (by rfl) rfl (hs := sc3) (hk := ?_))
      first | (refine tk_skip rfl (by rfl) (hk := ?_)) | (refine tk_wp (hk := ?_))
      first | (refine tk_skip rfl (by rfl) (hk := ?_)) | (refine tk_wp (hk := ?_))
      first | (refine tk_skip rfl (by rfl) (hk := ?_)) | (refine tk_fld (r := 0) fld92_0 rfl rfl rfl rfl rfl (hk := ?_))
      first | (refine tk_skip rfl (by rfl) (hk := ?_)) | (refine tk_load1 rfl rfl (by rfl) rfl (hs := sc3) (hk := ?_))
      first | (refine tk_skip rfl (by rfl) (hk := ?_)) | (refine tk_cmp (p := H.writer) (q := wr) (r := true) (b := .neq) (by show decide (H.writer ≠ wr) = true; exact decide_eq_true HW.out) rfl rfl rfl rfl rfl rfl (hk := ?_))
      refine tk_wp (hk := ?_)
      refine tk_nil ?_
      refine rg_done (by kernel_rfl) (fun w1 hst1 => ?_) _
      clear hst; have hst := hst1; clear hst1
      go_wp2_with (fail)
      go_ret
      exact ⟨_, rfl, by rw [HR.out]; rfl, hst.none⟩
    replace hwr := Decidable.not_not.1 hwr
    have HW := Lib.hid hwr
    have hr : askOf wr hs H = (match hs[H.seq - 1]? with
      | some G => if G = H then 13 else 8
      | none => if hs.length + 1 < H.seq then 12 else if H.prev = tipOf hs then 0 else 7) := by unfold askOf; rw [if_pos ⟨hf, hwr⟩]
    clear hf hwr
    refine rg_start (St w [] [(b3, blk 125 (hF H (.slice tad H.toks.length tcap)) 34)]) mixed (hst.drew) ?_
    refine rg_take [0] 11 _ rfl (by kernel_rfl) (by kernel_rfl) rfl (cls_st _ _ _) (fun _ _ _ _ _ h => h) ?_
    first | (refine tk_loadAll rfl rfl (by rfl) rfl (hs := agg34) (hk := ?_)) | (refine tk_loadN rfl rfl (by rfl) rfl (hs := agg34) (hk := ?_))
    refine tk_nil ?_
    refine rg_st (i := 1) (n := 10) (by kernel_rfl) rfl rfl rfl (fun w' hst => wo_call pl46 rfl rfl (formed_any H _ _ hok (HT.out _ hst.none)) (fun v8 w8 hR8 => ?_))
    obtain ⟨rfl, hst8⟩ := hR8
    refine ⟨[], hst.call hst8, ?_⟩
    rw [HF.out]
    simp only [put_lit, setL]
    refine rg_take [2, 3, 4, 5, 6, 7, 8, 9, 10, 11] 0 _ rfl (by kernel_rfl) (by kernel_rfl) rfl (cls_st _ _ _) (fun _ _ _ _ _ h => h) ?_
    refine tk_wp (hk := ?_)
    refine tk_wp (hk := ?_)
    first | (refine tk_skip rfl (by rfl) (hk := ?_)) | (refine tk_fld (r := 0) fld34_0 rfl rfl rfl rfl rfl (hk := ?_))
    first | (refine tk_skip rfl (by rfl) (hk := ?_)) | (refine tk_load1 rfl rfl (by rfl) rfl (hs := sc3) (hk := ?_))
    first | (refine tk_skip rfl (by rfl) (hk := ?_)) | (refine tk_wp (hk := ?_))
    first | (refine tk_skip rfl (by rfl) (hk := ?_)) | (refine tk_wp (hk := ?_))
    first | (refine tk_skip rfl (by rfl) (hk := ?_)) | (refine tk_fld (r := 0) fld92_0 rfl rfl rfl rfl rfl (hk := ?_))
    first | (refine tk_skip rfl (by rfl) (hk := ?_)) | (refine tk_load1 rfl rfl (by rfl) rfl (hs := sc3) (hk := ?_))
    first | (refine tk_skip rfl (by rfl) (hk := ?_)) | (refine tk_cmp (p := H.writer) (q := wr) (r := false) (b := .neq) (by show decide (H.writer ≠ wr) = false; exact decide_eq_false (fun e => e HW.out)) rfl rfl rfl rfl rfl rfl (hk := ?_))
    refine tk_wp (hk := ?_)
    refine tk_nil ?_
    refine rg_done (by kernel_rfl) (fun w1 hst1 => ?_) _
    clear hst; have hst := hst1; clear hst1
    cases hm : hs[H.seq - 1]? with
    | some G =>
      obtain ⟨m, hmm⟩ : ∃ m, m = H.seq - 1 := ⟨_, rfl⟩
      rw [← hmm] at hm
      have HSM : Hid ((H.seq : Int) = (m : Int) + 1) := by show _ = _; omega
      have HG := Lib.hid hm
      obtain ⟨_, _, _, _, _, _, _, _, hml, _, gok, _, _⟩ := Hds.get hH hm
      have hr2 : askOf wr hs H = if G = H then 13 else 8 := by rw [hr, ← hmm, hm]
      clear hr hm htp hmm
      by_cases hgh : ¬ G = H
      · have HGH : Hid (decide (G = H) = false) := decide_eq_false hgh
        have HR : Hid (askOf wr hs H = 8) := by show _ = _; rw [hr2, if_neg hgh]
        clear hgh hr2
        go_wp2_with (first
      | ((with_reducible refine at_d 21 ?_); go_loud (refine wl_fld (r := 1) fld34_1 rfl rfl rfl rfl (hk := ?_)))
      | ((with_reducible refine at_d 22 ?_); go_loud (refine wl_load1v rfl rfl rfl (hs := sc26) (hk := ?_)))
      | ((with_reducible refine at_d 23 ?_); go_loud (rw [HSM.out]; refine wl_call pl34 rfl rfl rfl (at_yes bc m wr hs G _ (HC.out _ hst.none) HG.out) ?_; rintro v23 w23 ⟨t23, E23, rfl, hown23, hst23⟩; have hst0 := (hst.call hst23).perm List.perm_append_comm; clear hst hst23; have hst := hst0; clear hst0; have hown := hown23; obtain ⟨ad23, c23, rfl, _⟩ := hown23.slice))
      | ((with_reducible refine at_d 5 ?_); go_loud (refine wl_alloc rfl rfl hst zer34 ?_; clear hst; intro b5 w5 hb5 hst))
      | ((with_reducible refine at_n (.store 34 (.tmp 5) (.tmp 24)) ?_); go_loud (refine wl_storeAll rfl rfl rfl rfl hst Pick.head agg34 (fun j _ => hF_one G _ rfl j) (hk := ?_); intro w1 hst1; clear hst; have hst := hst1; clear hst1))
      | ((with_reducible refine at_d 27 ?_); go_loud ((first | (refine wl_loadAll rfl rfl rfl (hs := agg34) (hk := ?_)) | (refine wl_loadN rfl rfl rfl (hs := agg34) (hk := ?_)))))
      | ((with_reducible refine at_d 28 ?_); go_loud ((first | (refine wl_loadAll rfl rfl rfl (hs := agg34) (hk := ?_)) | (refine wl_loadN rfl rfl rfl (hs := agg34) (hk := ?_)))))
      | ((with_reducible refine at_d 29 ?_); go_loud (refine wl_call pl71 rfl rfl rfl (same_any G H _ _ _ gok hok (toks_ownp hown gok.toks (fun p hp => hst.own p (by simp [hp]))) (HT.out _ hst.none)) ?_; rintro v29 w29 ⟨rfl, hst29⟩; replace hst := hst.call hst29; clear hst29; rw [HGH.out])))
        go_ret
        exact ⟨_, rfl, by rw [HR.out]; rfl, hst.none⟩
      · have HGH : Hid (decide (G = H) = true) := decide_eq_true (Decidable.not_not.1 hgh)
        have HR : Hid (askOf wr hs H = 13) := by show _ = _; rw [hr2, if_pos (Decidable.not_not.1 hgh)]
        clear hgh hr2
        go_wp2_with (first
      | ((with_reducible refine at_d 21 ?_); go_loud (refine wl_fld (r := 1) fld34_1 rfl rfl rfl rfl (hk := ?_)))
      | ((with_reducible refine at_d 22 ?_); go_loud (refine wl_load1v rfl rfl rfl (hs := sc26) (hk := ?_)))
      | ((with_reducible refine at_d 23 ?_); go_loud (rw [HSM.out]; refine wl_call pl34 rfl rfl rfl (at_yes bc m wr hs G _ (HC.out _ hst.none) HG.out) ?_; rintro v23 w23 ⟨t23, E23, rfl, hown23, hst23⟩; have hst0 := (hst.call hst23).perm List.perm_append_comm; clear hst hst23; have hst := hst0; clear hst0; have hown := hown23; obtain ⟨ad23, c23, rfl, _⟩ := hown23.slice))
      | ((with_reducible refine at_d 5 ?_); go_loud (refine wl_alloc rfl rfl hst zer34 ?_; clear hst; intro b5 w5 hb5 hst))
      | ((with_reducible refine at_n (.store 34 (.tmp 5) (.tmp 24)) ?_); go_loud (refine wl_storeAll rfl rfl rfl rfl hst Pick.head agg34 (fun j _ => hF_one G _ rfl j) (hk := ?_); intro w1 hst1; clear hst; have hst := hst1; clear hst1))
      | ((with_reducible refine at_d 27 ?_); go_loud ((first | (refine wl_loadAll rfl rfl rfl (hs := agg34) (hk := ?_)) | (refine wl_loadN rfl rfl rfl (hs := agg34) (hk := ?_)))))
      | ((with_reducible refine at_d 28 ?_); go_loud ((first | (refine wl_loadAll rfl rfl rfl (hs := agg34) (hk := ?_)) | (refine wl_loadN rfl rfl rfl (hs := agg34) (hk := ?_)))))
      | ((with_reducible refine at_d 29 ?_); go_loud (refine wl_call pl71 rfl rfl rfl (same_any G H _ _ _ gok hok (toks_ownp hown gok.toks (fun p hp => hst.own p (by simp [hp]))) (HT.out _ hst.none)) ?_; rintro v29 w29 ⟨rfl, hst29⟩; replace hst := hst.call hst29; clear hst29; rw [HGH.out])))
        go_ret
        exact ⟨_, rfl, by rw [HR.out]; rfl, hst.none⟩
    | none =>
      have hno : hs.length < H.seq := by have := List.getElem?_eq_none_iff.1 hm; omega
      have hr2 : askOf wr hs H = if hs.length + 1 < H.seq then 12 else if H.prev = tp then 0 else 7 := by rw [hr, hm, htp]
      clear hr hm htp
      go_wp2_with (first
      | ((with_reducible refine at_d 21 ?_); go_loud (refine wl_fld (r := 1) fld34_1 rfl rfl rfl rfl (hk := ?_)))
      | ((with_reducible refine at_d 22 ?_); go_loud (refine wl_load1v rfl rfl rfl (hs := sc26) (hk := ?_)))
      | ((with_reducible refine at_d 23 ?_); go_loud (refine wl_call pl34 rfl rfl rfl (at_no bc H.seq wr hs _ (HC.out _ hst.none) HS.out (by omega)) ?_; rintro v23 w23 ⟨rfl, hst23⟩; replace hst := hst.call hst23; clear hst23))
      | ((with_reducible refine at_d 5 ?_); go_loud (refine wl_alloc rfl rfl hst zer34 ?_; clear hst; intro b5 w5 hb5 hst))
      | ((with_reducible refine at_n (.store 34 (.tmp 5) (.tmp 24)) ?_); go_loud (refine wl_storeAll rfl rfl rfl rfl hst Pick.head agg34 (fun j _ => hF_one zH _ rfl j) (hk := ?_); intro w1 hst1; clear hst; have hst := hst1; clear hst1)))
      have hst2 : St w [] [(b3, blk 125 (hF H (.slice tad H.toks.length tcap)) 34)] _ := hst.sub (by simp)
      clear hst
      have hst := hst2
      clear hst2
      by_cases hbig : hs.length + 1 < H.seq
      · have HR : Hid (askOf wr hs H = 12) := by show _ = _; rw [hr2, if_pos hbig]
        clear hr2
        refine rg_start (St w [] [(b3, blk 125 (hF H (.slice tad H.toks.length tcap)) 34)]) mixed (hst.drew) ?_
        refine rg_take [0, 1, 2, 3, 4, 5, 6] 0 _ rfl (by kernel_rfl) (by kernel_rfl) rfl (cls_st _ _ _) (fun _ _ _ _ _ h => h) ?_
        refine tk_fld (r := 1) fld34_1 rfl rfl rfl rfl rfl (hk := ?_)
        refine tk_load1 rfl rfl (by rfl) rfl (hs := sc26) (hk := ?_)
        refine tk_wp (hk := ?_)
        refine tk_call pl33 rfl rfl (by rfl) rfl (fun w hst => head_any bc wr hs w (HC.out _ hst.none)) (fun w u w' hR => (by obtain ⟨rfl, rfl⟩ := hR; exact ⟨rfl, Below.refl _ _⟩)) (hk := ?_)
        refine tk_ari (p := (hs.length : Int)) (q := 1) (r := ((hs.length : Int) + 1)) (k := .u64) (by simp only [ariI] <;> omega) (by show _ ∧ _; omega) rfl rfl rfl rfl rfl rfl (hk := ?_)
        refine tk_cmp (p := (H.seq : Int)) (q := (hs.length : Int) + 1) (by first | exact decide_eq_true (by omega) | exact decide_eq_false (by omega)) rfl rfl rfl rfl rfl rfl (hk := ?_)
        refine tk_wp (hk := ?_)
        refine tk_nil ?_
        refine rg_done (by kernel_rfl) (fun w1 hst1 => ?_) _
        clear hst; have hst := hst1; clear hst1
        go_wp2_with (fail)
        go_ret
        exact ⟨_, rfl, by rw [HR.out]; rfl, hst.none⟩
      · rw [if_neg hbig] at hr2
        refine rg_start (St w [] [(b3, blk 125 (hF H (.slice tad H.toks.length tcap)) 34)]) mixed (hst.drew) ?_
        refine rg_take [0, 1, 2, 3, 4, 5, 6] 0 _ rfl (by kernel_rfl) (by kernel_rfl) rfl (cls_st _ _ _) (fun _ _ _ _ _ h => h) ?_
        refine tk_fld (r := 1) fld34_1 rfl rfl rfl rfl rfl (hk := ?_)
        refine tk_load1 rfl rfl (by rfl) rfl (hs := sc26) (hk := ?_)
        refine tk_wp (hk := ?_)
        refine tk_call pl33 rfl rfl (by rfl) rfl (fun w hst => head_any bc wr hs w (HC.out _ hst.none)) (fun w u w' hR => (by obtain ⟨rfl, rfl⟩ := hR; exact ⟨rfl, Below.refl _ _⟩)) (hk := ?_)
        refine tk_ari (p := (hs.length : Int)) (q := 1) (r := ((hs.length : Int) + 1)) (k := .u64) (by simp only [ariI] <;> omega) (by show _ ∧ _; omega) rfl rfl rfl rfl rfl rfl (hk := ?_)
        refine tk_cmp (p := (H.seq : Int)) (q := (hs.length : Int) + 1) (by first | exact decide_eq_true (by omega) | exact decide_eq_false (by omega)) rfl rfl rfl rfl rfl rfl (hk := ?_)
        refine tk_wp (hk := ?_)
        refine tk_nil ?_
        refine rg_done (by kernel_rfl) (fun w1 hst1 => ?_) _
        clear hst; have hst := hst1; clear hst1
        go_wp2_with fail
        by_cases hpv : ¬ H.prev = tp
        · have HR : Hid (askOf wr hs H = 7) := by show _ = _; rw [hr2, if_neg hpv]
          have HPV := Lib.hid hpv
          clear hr2 hpv
          refine rg_start (St w [] [(b3, blk 125 (hF H (.slice tad H.toks.length tcap)) 34)]) mixed (hst.drew) ?_
          refine rg_take [0, 1, 2, 3, 4, 5, 6, 7] 0 _ rfl (by kernel_rfl) (by kernel_rfl) rfl (cls_st _ _ _) (fun _ _ _ _ _ h => h) ?_
          refine tk_fld (r := 2) fld34_2 rfl rfl rfl rfl rfl (hk := ?_)
          refine tk_loadP rfl rfl (by rfl) rfl (hs := agg28) (hv := (by first | exact hF_prev _ _ | exact hF_item _ _ | exact hF_knows _ _ | exact hF_sum _ _ | exact hF_code _ _)) (hk := ?_)
          refine tk_wp (hk := ?_)
          refine tk_wp (hk := ?_)
          refine tk_fld (r := 2) fld92_2 rfl rfl rfl rfl rfl (hk := ?_)
          refine tk_loadP rfl rfl (by rfl) rfl (fun w hst => (by first | exact St.hasb hst (by repeat (first | exact Pick.head | apply Pick.tail)) | exact St.hasOld hst (by assumption) (by simp) | assumption)) agg28 (by omega) (cF_tip _ _ _) (hk := ?_)
          refine tk_neB rfl rfl rfl eqb28 rfl rfl hok.prev.1 HTI.out.1 hok.prev.2 HTI.out.2 (r := true) (decide_eq_true HPV.out) (hk := ?_)
          refine tk_wp (hk := ?_)
          refine tk_nil ?_
          refine rg_done (by kernel_rfl) (fun w1 hst1 => ?_) _
          clear hst; have hst := hst1; clear hst1
          go_wp2_with (fail)
          go_ret
          exact ⟨_, rfl, by rw [HR.out]; rfl, hst.none⟩
        · have HR : Hid (askOf wr hs H = 0) := by show _ = _; rw [hr2, if_pos (Decidable.not_not.1 hpv)]
          have HPV := Lib.hid (Decidable.not_not.1 hpv)
          clear hr2 hpv
          refine rg_start (St w [] [(b3, blk 125 (hF H (.slice tad H.toks.length tcap)) 34)]) mixed (hst.drew) ?_
          refine rg_take [0, 1, 2, 3, 4, 5, 6, 7] 0 _ rfl (by kernel_rfl) (by kernel_rfl) rfl (cls_st _ _ _) (fun _ _ _ _ _ h => h) ?_
          refine tk_fld (r := 2) fld34_2 rfl rfl rfl rfl rfl (hk := ?_)
          refine tk_loadP rfl rfl (by rfl) rfl (hs := agg28) (hv := (by first | exact hF_prev _ _ | exact hF_item _ _ | exact hF_knows _ _ | exact hF_sum _ _ | exact hF_code _ _)) (hk := ?_)
          refine tk_wp (hk := ?_)
          refine tk_wp (hk := ?_)
          refine tk_fld (r := 2) fld92_2 rfl rfl rfl rfl rfl (hk := ?_)
          refine tk_loadP rfl rfl (by rfl) rfl (fun w hst => (by first | exact St.hasb hst (by repeat (first | exact Pick.head | apply Pick.tail)) | exact St.hasOld hst (by assumption) (by simp) | assumption)) agg28 (by omega) (cF_tip _ _ _) (hk := ?_)
          refine tk_neB rfl rfl rfl eqb28 rfl rfl hok.prev.1 HTI.out.1 hok.prev.2 HTI.out.2 (r := false) (by rw [HPV.out]; simp) (hk := ?_)
          refine tk_wp (hk := ?_)
          refine tk_nil ?_
          refine rg_done (by kernel_rfl) (fun w1 hst1 => ?_) _
          clear hst; have hst := hst1; clear hst1
          go_wp2_with (fail)
          go_ret
          exact ⟨_, rfl, by rw [HR.out]; rfl, hst.none⟩
end Go.Proofs.YthbobmpeaemdnaaDoor
