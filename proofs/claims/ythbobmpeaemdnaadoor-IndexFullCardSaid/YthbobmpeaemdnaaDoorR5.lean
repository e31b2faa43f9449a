/- The walk of jalousieref12.Formed. The walks of jalousieref12.Bytes and Hash. -/
import Derived.Test.YthbobmpeaemdnaaDoorR3a
import Derived.Test.YthbobmpeaemdnaaDoorR3b
import Derived.Test.YthbobmpeaemdnaaDoorR3c
import Derived.Test.YthbobmpeaemdnaaDoorHd4
import Derived.Test.YthbobmpeaemdnaaDoorR4
import Derived.Test.YthbobmpeaemdnaaDoorRef1
namespace Go.Proofs.YthbobmpeaemdnaaDoor
open Go.RowKit Go.Jal
theorem refformed_any (H : Hdr) (tok : Value) (w : World) (hok : H.Ok) (ht : Toks w tok H.toks) : Ret Tryd.prog 50 #[.agg (row 125 (hF H tok))] w fun v' w' => v' = .bool (formed H) ∧ St w [] [] w' := by
  by_cases hg : Good H
  · cases hr : rising H.toks with
    | false => exact refformed_bad H tok w hok ht fun _ => hr
    | true =>
      by_cases h1 : H.size < 80
      · exact refformed_part_a H tok w hok ht hg hr (.inl h1)
      by_cases h2 : 2064 < H.size
      · exact refformed_part_a H tok w hok ht hg hr (.inr h2)
      cases h3 : isBucket (H.size - 16) with
      | false => exact refformed_part_b H tok w hok ht hg hr ⟨h1, h2, h3⟩
      | true => exact refformed_part_c H tok w hok ht hg hr ⟨h1, h2, h3⟩
  · exact refformed_bad H tok w hok ht fun h => absurd h hg
end Go.Proofs.YthbobmpeaemdnaaDoor
namespace Go.Proofs.YthbobmpeaemdnaaDoor
open Go.RowKit Go.Jal

set_option maxRecDepth 100000 in
set_option maxHeartbeats 2000000 in
theorem refbytes_any (H : Hdr) (tok : Value) (w : World) (hok : H.Ok) (ht : Toks w tok H.toks) :
    Ret Tryd.prog 35 #[.agg (row 125 (hF H tok))] w fun v' w' => ∃ E', Own 1 5 v' (bytesB H).length (bF (bytesB H)) E' ∧ St w [] E' w' := by
  have HT : Hid (∀ w', St w [] [] w' → Toks w' tok H.toks) := by show ∀ _, _; exact fun w' h' => ht.keep h'
  clear ht
  cases hf : formed H with
  | false =>
    have HF := Lib.hid hf
    have HE : Hid (bytesB H = []) := by show _ = _; unfold bytesB; rw [hf]; simp
    clear hf
    go_enter Tryd.func35, Tryd.ntmps35
    have hst := St.refl w
    go_wp2_with (first
      | ((with_reducible refine at_d 1 ?_); go_loud (refine wl_box rfl rfl rfl (by first | rfl | exact row_one _) hst ?_; clear hst; intro b1 w1 hb1 hst))
      | ((with_reducible refine at_d 3 ?_); go_loud ((first | (refine wl_loadAll rfl rfl rfl (hs := agg34) (hk := ?_)) | (refine wl_loadN rfl rfl rfl (hs := agg34) (hk := ?_)))))
      | ((with_reducible refine at_d 4 ?_); go_loud (refine wl_call pl50 rfl rfl rfl (refformed_any H _ _ hok (HT.out _ hst.none)) ?_; rintro v4 w4 ⟨rfl, hst4⟩; replace hst := hst.call hst4; clear hst4; rw [HF.out])))
    go_ret
    exact ⟨_, rfl, [], by rw [HE.out]; exact Own.nil, hst.none⟩
  | true =>
    have HF := Lib.hid hf
    have hl := core_len hok hf
    have HE : Hid (bytesB H = coreB H ++ H.code) := by show _ = _; unfold bytesB; rw [hf]; simp
    have HL1 : Hid (((coreB H).length + 32) * 1 ≤ 140737488355328) := by show _ ≤ _; omega
    have HL2 : Hid ((coreB H).length + 32 ≤ maxLen) := by show _ ≤ _; unfold maxLen; omega
    have HCD : Hid (∀ L w', St w [] L w' → ∀ b, (b, blk 125 (hF H tok) 34) ∈ L → Bs w' (.slice (some ⟨b, 93, none⟩) 32 32) H.code) := by show ∀ _, _; exact fun L w' h b hm => part_bs h hm hok.code (by decide) (hF_code H _)
    clear hf hl
    go_enter Tryd.func35, Tryd.ntmps35
    have hst := St.refl w
    go_wp2_with (first
      | ((with_reducible refine at_d 1 ?_); go_loud (refine wl_box rfl rfl rfl (by first | rfl | exact row_one _) hst ?_; clear hst; intro b1 w1 hb1 hst))
      | ((with_reducible refine at_d 3 ?_); go_loud ((first | (refine wl_loadAll rfl rfl rfl (hs := agg34) (hk := ?_)) | (refine wl_loadN rfl rfl rfl (hs := agg34) (hk := ?_)))))
      | ((with_reducible refine at_d 4 ?_); go_loud (refine wl_call pl50 rfl rfl rfl (refformed_any H _ _ hok (HT.out _ hst.none)) ?_; rintro v4 w4 ⟨rfl, hst4⟩; replace hst := hst.call hst4; clear hst4; rw [HF.out])))
    replace hst := hst.sub (List.nil_sublist _ |>.append (List.Sublist.refl [(b1, blk 125 (hF H tok) 34)]))
    refine rg_start (St w [] [(b1, blk 125 (hF H tok) 34)]) mixed (hst.drew) ?_
    refine rg_take [0, 2, 3] 3 _ rfl (by kernel_rfl) (by kernel_rfl) rfl (cls_st _ _ _) (fun _ _ _ _ _ h => h) ?_
    first | (refine tk_loadAll rfl rfl (by rfl) rfl (hs := agg34) (hk := ?_)) | (refine tk_loadN rfl rfl (by rfl) rfl (hs := agg34) (hk := ?_))
    refine tk_fld (r := 93) fld34_11 rfl rfl rfl rfl rfl (hk := ?_)
    refine tk_wp (hk := ?_)
    refine tk_nil ?_
    refine rg_st (i := 1) (n := 2) (by kernel_rfl) rfl rfl rfl (fun w' hst => wo_call pl53 rfl rfl (refcore_any H _ _ hok (HT.out _ hst.none) HF.out) (fun v7 w7 hR7 => ?_))
    obtain ⟨E7, hown7, hst7⟩ := hR7
    refine ⟨E7, hst.call hst7, ?_⟩
    simp only [put_lit, setL]
    refine rg_turn (i := 4) (n := 1) (by kernel_rfl) rfl rfl rfl (by kernel_rfl) (fun w' hst => wo_append rfl elt35 rfl rfl hown7 (L := [(b1, blk 125 (hF H tok) 34)]) hst (Src.of_bs (HCD.out _ _ hst b1 (List.mem_append_right _ (List.mem_cons_self ..)))) (by intro h; cases h) (fun j _ => rfl) HL1.out HL2.out (fun v10 w10 E10 hown10 hst10 _ => ⟨St w [] (E10 ++ [(b1, blk 125 (hF H tok) 34)]), hst10, cls_st _ _ _, ?_⟩))
    simp only [put_lit, setL]
    refine rg_take [5] 0 _ rfl (by kernel_rfl) (by kernel_rfl) rfl (cls_st _ _ _) (fun _ _ _ _ _ h => h) ?_
    refine tk_wp (hk := ?_)
    refine tk_nil ?_
    refine rg_done (by kernel_rfl) (fun w1 hst1 => ?_) _
    clear hst; have hst := hst1; clear hst1
    go_wp2_with fail
    go_ret
    refine ⟨_, rfl, E10, ?_, hst.sub (List.sublist_append_left _ _)⟩
    rw [HE.out, List.length_append, hok.code.1, ← glue_bF (coreB H) H.code _ rfl]
    exact hown10
set_option maxRecDepth 100000 in
theorem refhash_any (H : Hdr) (tok : Value) (w : World) (hok : H.Ok) (ht : Toks w tok H.toks) (hK0 : Has w 0 64 (wF Sha.K)) :
    Ret Tryd.prog 79 #[.agg (row 125 (hF H tok))] w fun v' w' => v' = .agg (row 32 (bF (hashB H))) ∧ St w [] [] w' := by
  have HT : Hid (∀ w', St w [] [] w' → Toks w' tok H.toks) := by show ∀ _, _; exact fun w' h' => ht.keep h'
  have HL : Hid ((bytesB H).length ≤ 700) := bytes_len_le hok
  have HE : Hid (Sha.sha (bytesB H) = hashB H) := rfl
  clear ht
  go_enter Tryd.func79, Tryd.ntmps79
  have hst := St.refl w
  go_wp2_with (first
      | ((with_reducible refine at_d 1 ?_); go_loud (refine wl_box rfl rfl rfl (by first | rfl | exact row_one _) hst ?_; clear hst; intro b1 w1 hb1 hst))
      | ((with_reducible refine at_d 2 ?_); go_loud (refine wl_alloc rfl rfl hst zer28 ?_; clear hst; intro b2 w2 hb2 hst))
      | ((with_reducible refine at_d 3 ?_); go_loud ((first | (refine wl_loadAll rfl rfl rfl (hs := agg34) (hk := ?_)) | (refine wl_loadN rfl rfl rfl (hs := agg34) (hk := ?_)))))
      | ((with_reducible refine at_d 4 ?_); go_loud (refine wl_call pl35 rfl rfl rfl (refbytes_any H _ _ hok (HT.out _ hst.none)) ?_; rintro v4 w4 ⟨E4, hown4, hst4⟩; replace hst := hst.call hst4; clear hst4))
      | ((with_reducible refine at_d 5 ?_); go_loud (refine wl_call pl11 rfl rfl rfl (refsum_any _ (bytesB H) _ (Bs.of_own hown4 (bytes_ltB hok) hst) (Nat.le_trans HL.out (by decide)) (hK0.keep hst.none)) ?_; rintro v5 w5 ⟨rfl, hst5⟩; rw [HE.out]; replace hst := hst.call hst5; clear hst5; have hst7 := hst.sub (List.sublist_append_right E4 [(b2, _), (b1, _)]); clear hst; have hst := hst7; clear hst7))
      | ((with_reducible refine at_n (.store 28 (.tmp 2) (.tmp 5)) ?_); go_loud ((first | (refine wl_storeAll rfl rfl rfl rfl (hs := agg28) (hk := ?_)) | (refine wl_storeN rfl rfl rfl rfl (hs := agg28) (hk := ?_))); clear hst; intro w1 hst)))
  exact ret_cellN rfl rfl (St.hasb hst Pick.head) agg28 rfl ⟨_, rfl, rfl, hst.none⟩
end Go.Proofs.YthbobmpeaemdnaaDoor
