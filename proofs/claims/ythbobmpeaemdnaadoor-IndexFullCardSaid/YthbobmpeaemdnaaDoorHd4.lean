/- The walks of entry.Bytes and entry.Hash. -/
import Derived.Test.YthbobmpeaemdnaaDoorCore1
import Derived.Test.YthbobmpeaemdnaaDoorHash6
namespace Go.Proofs.YthbobmpeaemdnaaDoor
open Go.RowKit Go.Jal

theorem bss_one {w : World} {b : Nat} {v : Value} {l : List Nat} (hb : Has w b 1 (fun _ => v)) (hv : Bs w v l) : Bss w (.slice (some ⟨b, 0, none⟩) 1 1) [l] :=
  ⟨_, 1, rfl, by simp, by simp [maxLen], (by intro h; cases h), fun _ => ⟨b, 0, 1, _, rfl, hb, by simp, fun j hj => by
    obtain rfl : j = 0 := by simpa using hj
    exact hv⟩⟩
theorem core_len {H : Hdr} (hok : H.Ok) (hf : formed H = true) : (coreB H).length ≤ 600 := by
  obtain ⟨f1, f2, f3, f4, f5, f6, f7, f8, f9, f10, f11⟩ := formed_nat hf
  have nle : ∀ x, x < 18446744073709551616 → (num x).length ≤ 10 := fun x hx => num_len_le 9 x (by have : (18446744073709551616 : Nat) ≤ 128 ^ (9 + 1) := by decide
                                                                                                   omega)
  have n1 := nle H.writer.toNat (by omega)
  have n2 := nle H.seq hok.seq
  have n3 := hok.prev.1
  have n4 := nle H.epoch.toNat (by omega)
  have n5 := nle H.time hok.time
  have n6 := hok.item.1
  have n7 := nle H.toks.length (by omega)
  have n8 := hok.sum.1
  have n9 := nle H.size.toNat (by omega)
  have n10 := toks_flat_len hok.toks
  have n11 := nums_len H.knows hok.knows.2
  have n12 := hok.knows.1
  simp only [coreB, List.length_append, List.length_cons, List.length_nil]
  omega
theorem bytes_len_le {H : Hdr} (hok : H.Ok) : (bytesB H).length ≤ 700 := by
  unfold bytesB
  split
  · rename_i h
    have := core_len hok h
    have := hok.code.1
    rw [List.length_append]; omega
  · simp
theorem bytes_ltB {H : Hdr} (hok : H.Ok) : ∀ x ∈ bytesB H, x < 256 := by
  intro x hx
  unfold bytesB at hx
  split at hx
  · rcases List.mem_append.1 hx with h | h
    · exact core_lt hok x h
    · exact hok.code.2 x h
  · simp at hx
set_option maxRecDepth 100000 in
set_option maxHeartbeats 2000000 in
theorem bytes_any (H : Hdr) (tok : Value) (w : World) (hok : H.Ok) (ht : Toks w tok H.toks) :
    Ret Tryd.prog 26 #[.agg (row 125 (hF H tok))] w fun v' w' => ∃ E', Own 1 5 v' (bytesB H).length (bF (bytesB H)) E' ∧ St w [] E' w' := by
  have HT : Hid (∀ w', St w [] [] w' → Toks w' tok H.toks) := by show ∀ _, _; exact fun w' h' => ht.keep h'
  clear ht
  cases hf : formed H with
  | false =>
    have HF := Lib.hid hf
    have HE : Hid (bytesB H = []) := by show _ = _; unfold bytesB; rw [hf]; simp
    clear hf
    go_enter Tryd.func26, Tryd.ntmps26
    have hst := St.refl w
    go_wp2_with (first
      | ((with_reducible refine at_d 1 ?_); go_loud (refine wl_box rfl rfl rfl (by first | rfl | exact row_one _) hst ?_; clear hst; intro b1 w1 hb1 hst))
      | ((with_reducible refine at_d 3 ?_); go_loud ((first | (refine wl_loadAll rfl rfl rfl (hs := agg34) (hk := ?_)) | (refine wl_loadN rfl rfl rfl (hs := agg34) (hk := ?_)))))
      | ((with_reducible refine at_d 4 ?_); go_loud (refine wl_call pl46 rfl rfl rfl (formed_any H _ _ hok (HT.out _ hst.none)) ?_; rintro v4 w4 ⟨rfl, hst4⟩; replace hst := hst.call hst4; clear hst4; rw [HF.out])))
    go_ret
    exact ⟨_, rfl, [], by rw [HE.out]; exact Own.nil, hst.none⟩
  | true =>
    have HF := Lib.hid hf
    have hl := core_len hok hf
    have HE : Hid (bytesB H = coreB H ++ H.code) := by show _ = _; unfold bytesB; rw [hf]; simp
    have HL1 : Hid (((coreB H).length + 32) * 1 ≤ 140737488355328) := by show _ ≤ _; omega
    have HL2 : Hid ((coreB H).length + 32 ≤ maxLen) := by show _ ≤ _; unfold maxLen; omega
    have HCD : Hid (∀ L w', St w [] L w' → ∀ b, (b, blk 125 (hF H tok) 34) ∈ L → Bs w' (.slice (some ⟨b, 93, none⟩) 32 32) H.code) := by show ∀ _, _; exact fun L w' h b hm => part_bs h hm hok.code (by decide) (hF_code H _)
    clear hf hl
    go_enter Tryd.func26, Tryd.ntmps26
    have hst := St.refl w
    go_wp2_with (first
      | ((with_reducible refine at_d 1 ?_); go_loud (refine wl_box rfl rfl rfl (by first | rfl | exact row_one _) hst ?_; clear hst; intro b1 w1 hb1 hst))
      | ((with_reducible refine at_d 3 ?_); go_loud ((first | (refine wl_loadAll rfl rfl rfl (hs := agg34) (hk := ?_)) | (refine wl_loadN rfl rfl rfl (hs := agg34) (hk := ?_)))))
      | ((with_reducible refine at_d 4 ?_); go_loud (refine wl_call pl46 rfl rfl rfl (formed_any H _ _ hok (HT.out _ hst.none)) ?_; rintro v4 w4 ⟨rfl, hst4⟩; replace hst := hst.call hst4; clear hst4; rw [HF.out])))
    replace hst := hst.sub (List.nil_sublist _ |>.append (List.Sublist.refl [(b1, blk 125 (hF H tok) 34)]))
    refine rg_start (St w [] [(b1, blk 125 (hF H tok) 34)]) mixed (hst.drew) ?_
    refine rg_take [0, 2, 3] 3 _ rfl (by kernel_rfl) (by kernel_rfl) rfl (cls_st _ _ _) (fun _ _ _ _ _ h => h) ?_
    first | (refine tk_loadAll rfl rfl (by rfl) rfl (hs := agg34) (hk := ?_)) | (refine tk_loadN rfl rfl (by rfl) rfl (hs := agg34) (hk := ?_))
    refine tk_fld (r := 93) fld34_11 rfl rfl rfl rfl rfl (hk := ?_)
    refine tk_wp (hk := ?_)
    refine tk_nil ?_
    refine rg_st (i := 1) (n := 2) (by kernel_rfl) rfl rfl rfl (fun w' hst => wo_call pl47 rfl rfl (core_any H _ _ hok (HT.out _ hst.none) HF.out) (fun v7 w7 hR7 => ?_))
    obtain ⟨E7, hown7, hst7⟩ := hR7
    refine ⟨E7, hst.call hst7, ?_⟩
    simp only [put_lit, setL]
    refine rg_turn (i := 4) (n := 1) (by kernel_rfl) rfl rfl rfl (by kernel_rfl) (fun w' hst => wo_append rfl elt35 rfl rfl hown7 (L := [(b1, blk 125 (hF H tok) 34)]) hst (Src.of_bs (HCD.out _ _ hst b1 (List.mem_append_right _ (List.mem_cons_self ..)))) (by intro h; cases h) (fun j _ => rfl) HL1.out HL2.out (fun v10 w10 E10 hown10 hst10 _ => ⟨St w [] (E10 ++ [(b1, blk 125 (hF H tok) 34)]), hst10, cls_st _ _ _, ?_⟩))
    simp only [put_lit, setL]
    refine rg_take [5] 0 _ rfl (by kernel_rfl) (by kernel_rfl) rfl (cls_st _ _ _) (fun _ _ _ _ _ h => h) ?_
    refine tk_wp (hk := ?_)
    refine tk_nil ?_
    refine rg_done (by kernel_rfl) (fun w1 hst1 => ?_) _
    clear hst; have hst := hst1; clear hst1
    go_wp2_with fail
    go_ret
    refine ⟨_, rfl, E10, ?_, hst.sub (List.sublist_append_left _ _)⟩
    rw [HE.out, List.length_append, hok.code.1, ← glue_bF (coreB H) H.code _ rfl]
    exact hown10
theorem bytes_bs {w w' : World} {M : List Nat} {E L : List (Nat × Obj)} {v : Value} {H : Hdr} (hok : H.Ok) (h : Own 1 5 v (bytesB H).length (bF (bytesB H)) E) (hst : St w M (E ++ L) w') : Bs w' v (bytesB H) := Bs.of_own h (bytes_ltB hok) hst
set_option maxRecDepth 100000 in
theorem hash_any (H : Hdr) (tok : Value) (w : World) (hok : H.Ok) (ht : Toks w tok H.toks) (hK : Has w 1 64 (wF Sha.K)) :
    Ret Tryd.prog 10 #[.agg (row 125 (hF H tok))] w fun v' w' => v' = .agg (row 32 (bF (hashB H))) ∧ St w [] [] w' := by
  have HT : Hid (∀ w', St w [] [] w' → Toks w' tok H.toks) := by show ∀ _, _; exact fun w' h' => ht.keep h'
  have HL : Hid ((bytesB H).length ≤ 700) := bytes_len_le hok
  have HB : Hid (∀ x ∈ [bytesB H].flatten, x < 256) := by show ∀ _, _; simpa using bytes_ltB hok
  have HE : Hid (Sha.sha [bytesB H].flatten = hashB H) := by show _ = _; unfold hashB; simp
  clear ht
  go_enter Tryd.func10, Tryd.ntmps10
  have hst := St.refl w
  go_wp2_with (first
      | ((with_reducible refine at_d 1 ?_); go_loud (refine wl_box rfl rfl rfl (by first | rfl | exact row_one _) hst ?_; clear hst; intro b1 w1 hb1 hst))
      | ((with_reducible refine at_d 2 ?_); go_loud (refine wl_alloc rfl rfl hst zer28 ?_; clear hst; intro b2 w2 hb2 hst))
      | ((with_reducible refine at_d 3 ?_); go_loud ((first | (refine wl_loadAll rfl rfl rfl (hs := agg34) (hk := ?_)) | (refine wl_loadN rfl rfl rfl (hs := agg34) (hk := ?_)))))
      | ((with_reducible refine at_d 4 ?_); go_loud (refine wl_call pl26 rfl rfl rfl (bytes_any H _ _ hok (HT.out _ hst.none)) ?_; rintro v4 w4 ⟨E4, hown4, hst4⟩; replace hst := hst.call hst4; clear hst4; have hown5 := hown4; obtain ⟨ad4, c4, rfl, _⟩ := hown4.slice))
      | ((with_reducible refine at_d 5 ?_); go_loud (refine wl_buildSlice1 rfl rfl elt69 (by decide) (by (conv => lhs; whnf) <;> rfl) (by first | exact row_one _ | rfl) hst ?_; clear hst; intro b5 w5 hb5 hst))
      | ((with_reducible refine at_d 6 ?_); go_loud (refine wl_call pl25 rfl rfl rfl (sum_any _ [bytesB H] _ (bss_one (hst.hasb Pick.head) (Bs.of_own hown5 (bytes_ltB hok) hst.drop)) (by simp) (by simpa using Nat.le_trans HL.out (by decide)) HB.out (hK.keep hst.none)) ?_; rintro v6 w6 ⟨rfl, hst6⟩; rw [HE.out]; replace hst := hst.call hst6; clear hst6; have hst7 := hst.sub (List.Sublist.cons (b5, _) (List.sublist_append_right E4 [(b2, _), (b1, _)])); clear hst; have hst := hst7; clear hst7))
      | ((with_reducible refine at_n (.store 28 (.tmp 2) (.tmp 6)) ?_); go_loud ((first | (refine wl_storeAll rfl rfl rfl rfl (hs := agg28) (hk := ?_)) | (refine wl_storeN rfl rfl rfl rfl (hs := agg28) (hk := ?_))); clear hst; intro w1 hst)))
  exact ret_cellN rfl rfl (St.hasb hst Pick.head) agg28 rfl ⟨_, rfl, rfl, hst.none⟩
end Go.Proofs.YthbobmpeaemdnaaDoor
