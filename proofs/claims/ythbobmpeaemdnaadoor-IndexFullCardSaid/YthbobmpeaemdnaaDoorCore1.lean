/- The walk of entry.core. -/
import Derived.Test.YthbobmpeaemdnaaDoorHd3
import Derived.Test.YthbobmpeaemdnaaDoorOut1
namespace Go.Proofs.YthbobmpeaemdnaaDoor
open Go.RowKit Go.Jal

/-- a header's part as a slice of its cells -/
theorem part_bs {w0 w : World} {M : List Nat} {L : List (Nat × Obj)} {b off n : Nat} {f : Nat → Value} {T : TypeId} {l : List Nat} (hst : St w0 M L w) (hm : (b, blk 125 f T) ∈ L) (hl : isB n l) (ho : off + n ≤ 125) (hf : ∀ j, j < n → f (off + j) = bF l j) (_hc : n ≤ 125 - off := by omega) :
    Bs w (.slice (some ⟨b, off, none⟩) n n) l := by
  have := Bs.of_blk (cap := n) (off := off) (l := l) ⟨_, _, hst.own _ hm⟩ (by rw [hl.1]; exact ho) (fun j hj => hf j (by rw [← hl.1]; exact hj)) hl.2 (by rw [hl.1]; exact Nat.le_refl _) (by unfold maxLen; omega)
  rwa [hl.1] at this
theorem tokb {w0 w : World} {M : List Nat} {L : List (Nat × Obj)} {b : Nat} {T : TypeId} {l : List Nat} (hst : St w0 M L w) (hl : isB 16 l) (hm : (b, blk 16 (bF l) T) ∈ L) : Bs w (.slice (some ⟨b, 0, none⟩) 16 16) l := by
  have := Bs.of_blk (cap := 16) (off := 0) (l := l) ⟨_, _, hst.own _ hm⟩ (by rw [hl.1]; omega) (fun j _ => by rw [Nat.zero_add]) hl.2 (by rw [hl.1]; omega) (by simp [maxLen])
  rwa [hl.1] at this
theorem flat_snoc' (ls : List (List Nat)) (k : Nat) (h : k < ls.length) : (ls.take (k + 1)).flatten = (ls.take k).flatten ++ ls.getD k [] := by
  rw [List.take_succ_eq_append_getElem h, List.flatten_append, List.getD_eq_getElem?_getD, List.getElem?_eq_getElem h]
  simp
theorem nums_len : ∀ l : List Nat, (∀ x ∈ l, x < 18446744073709551616) → ((l.map num).flatten).length ≤ 10 * l.length
  | [], _ => by simp
  | x :: l, h => by
    have h1 := nums_len l (fun y hy => h y (List.mem_cons_of_mem _ hy))
    have h2 := num_len_le 9 x (by have : (18446744073709551616 : Nat) ≤ 128 ^ (9 + 1) := by decide
                                  have := h x (List.mem_cons_self ..)
                                  omega)
    rw [List.map_cons, List.flatten_cons, List.length_append, List.length_cons]
    omega
theorem core_lt {H : Hdr} (h : H.Ok) : ∀ x ∈ coreB H, x < 256 := by
  intro x hx
  simp only [coreB, List.mem_append, List.mem_singleton, List.mem_flatten, List.mem_map] at hx
  rcases hx with ((((((((((hx | hx) | hx) | hx) | hx) | hx) | hx) | hx) | hx) | hx) | hx) | hx
  · exact num_lt _ x hx
  · exact num_lt _ x hx
  · exact h.prev.2 x hx
  · exact num_lt _ x hx
  · rw [hx]; split <;> decide
  · exact num_lt _ x hx
  · exact h.item.2 x hx
  · exact num_lt _ x hx
  · obtain ⟨t, ht, hx⟩ := hx; exact (h.toks t ht).2 x hx
  · obtain ⟨t, ⟨y, _, rfl⟩, hx⟩ := hx; exact num_lt _ x hx
  · exact h.sum.2 x hx
  · exact num_lt _ x hx
set_option maxRecDepth 100000 in
set_option maxHeartbeats 4000000 in
theorem core_any (H : Hdr) (tok : Value) (w : World) (hok : H.Ok) (ht : Toks w tok H.toks) (hf : formed H = true) :
    Ret Tryd.prog 47 #[.agg (row 125 (hF H tok))] w fun v' w' => ∃ E', Own 1 5 v' (coreB H).length (bF (coreB H)) E' ∧ St w [] E' w' := by
  have hnat := formed_nat hf
  obtain ⟨f1, f2, f3, f4, f5, f6, f7, f8, f9, f10, f11⟩ := hnat
  obtain ⟨wn, hw⟩ : ∃ wn : Nat, H.writer = (wn : Int) := ⟨H.writer.toNat, by omega⟩
  obtain ⟨en, he⟩ : ∃ en : Nat, H.epoch = (en : Int) := ⟨H.epoch.toNat, by omega⟩
  obtain ⟨sn, hs⟩ : ∃ sn : Nat, H.size = (sn : Int) := ⟨H.size.toNat, by omega⟩
  have hcore : coreB H = ((((((((((([] ++ num wn) ++ num H.seq) ++ H.prev) ++ num en) ++ [if H.control then 1 else 0]) ++ num H.time) ++ H.item) ++ num H.toks.length) ++ H.toks.flatten) ++ (H.knows.map num).flatten) ++ H.sum) ++ num sn := by
    unfold coreB; rw [hw, he, hs]; simp
  have HCO := Lib.hid hcore
  have EW := Lib.hid hw
  have EE := Lib.hid he
  have ES := Lib.hid hs
  have HSQ := Lib.hid hok.seq
  have HTI := Lib.hid hok.time
  have nle : ∀ x, x < 18446744073709551616 → (num x).length ≤ 10 := fun x hx => num_len_le 9 x (by have : (18446744073709551616 : Nat) ≤ 128 ^ (9 + 1) := by decide
                                                                                                   omega)
  have N1 : Hid ((num wn).length ≤ 10) := nle _ (by omega)
  have N2 : Hid ((num H.seq).length ≤ 10) := nle _ (by omega)
  have N3 : Hid (H.prev.length = 32) := hok.prev.1
  have N4 : Hid ((num en).length ≤ 10) := nle _ (by omega)
  have N5 : Hid ((num H.time).length ≤ 10) := nle _ hok.time
  have N6 : Hid (H.item.length = 16) := hok.item.1
  have N7 : Hid ((num H.toks.length).length ≤ 10) := nle _ (by omega)
  have N8 : Hid (H.sum.length = 32) := hok.sum.1
  have N9 : Hid ((num sn).length ≤ 10) := nle _ (by omega)
  have hwn : wn ≤ 6 := by omega
  have hen : en ≤ 255 := by omega
  have hsn : sn ≤ 2064 := by omega
  obtain ⟨ad, cap, rfl, hcap, hcm, h16, hnil, hc⟩ := id ht
  unfold maxLen at hcm
  have HP : Hid (∀ L w', St w [] L w' → ∀ b, (b, blk 125 (hF H (.slice ad H.toks.length cap)) 34) ∈ L → Bs w' (.slice (some ⟨b, 2, none⟩) 32 32) H.prev) := by show ∀ _, _; exact fun L w' h b hm => part_bs h hm hok.prev (by decide) (hF_prev H _)
  have HI : Hid (∀ L w', St w [] L w' → ∀ b, (b, blk 125 (hF H (.slice ad H.toks.length cap)) 34) ∈ L → Bs w' (.slice (some ⟨b, 37, none⟩) 16 16) H.item) := by show ∀ _, _; exact fun L w' h b hm => part_bs h hm hok.item (by decide) (hF_item H _)
  have HSU : Hid (∀ L w', St w [] L w' → ∀ b, (b, blk 125 (hF H (.slice ad H.toks.length cap)) 34) ∈ L → Bs w' (.slice (some ⟨b, 60, none⟩) 32 32) H.sum) := by show ∀ _, _; exact fun L w' h b hm => part_bs h hm hok.sum (by decide) (hF_sum H _)
  have HB1 : Hid (∀ L w' b, St w [] L w' → (b, blk 125 (hF H (.slice ad H.toks.length cap)) 34) ∈ L → Has w' b 125 (hF H (.slice ad H.toks.length cap))) := by show ∀ _, _; exact fun L w' b h hm => ⟨_, _, h.own _ hm⟩
  clear hcore hw he hs nle
  go_enter Tryd.func47, Tryd.ntmps47
  have hst := St.refl w
  have hown : Own 1 5 (.slice none 0 0) ([] : List Nat).length (bF []) [] := Own.nil
  go_wp2_with (first
      | ((with_reducible refine at_d 1 ?_); go_loud (refine wl_box rfl rfl rfl (by first | rfl | exact row_one _) hst ?_; clear hst; intro b1 w1 hb1 hst))
      | ((with_reducible refine at_d 3 ?_); go_loud (refine wl_alloc rfl rfl hst zer116 ?_; clear hst; intro b3 w3 hb3 hst))
      | ((with_reducible refine at_d 10 ?_); go_loud (refine wl_fld (r := 0) fld34_0 rfl rfl rfl rfl (hk := ?_)))
      | ((with_reducible refine at_d 11 ?_); go_loud (refine wl_load1v rfl rfl rfl (hs := sc3) (hk := ?_)))
      | ((with_reducible refine at_d 13 ?_); go_loud (rw [EW.out]; refine wl_call pl67 rfl rfl rfl (num_any b3 _ _ wn _ _ (Outs.of hown hst) (by omega) (by have n1 := N1.out; have n2 := N2.out; have n3 := N3.out; have n4 := N4.out; have n5 := N5.out; have n6 := N6.out; have n7 := N7.out; have n8 := N8.out; have n9 := N9.out; (try simp only [List.length_append]); (try simp only [List.length_cons]); (try simp only [List.length_nil]); omega)) ?_; rintro v13 w13 h13; obtain ⟨rfl, u13, E13, hown13, hst13⟩ := Put.go hst h13; clear hst hown h13; have hst := hst13; have hown := hown13; clear hst13 hown13; have hb1' := HB1.out _ _ b1 hst (by first | exact List.mem_append_right _ (List.mem_cons_self ..) | exact List.mem_append_right _ (List.mem_cons_of_mem _ (List.mem_cons_self ..)))))
      | ((with_reducible refine at_d 14 ?_); go_loud (refine wl_fld (r := 1) fld34_1 rfl rfl rfl rfl (hk := ?_)))
      | ((with_reducible refine at_d 15 ?_); go_loud (refine wl_load1v rfl rfl rfl (hs := sc26) (hk := ?_)))
      | ((with_reducible refine at_d 16 ?_); go_loud (refine wl_call pl67 rfl rfl rfl (num_any b3 _ _ H.seq _ _ (Outs.of hown hst) HSQ.out (by have n1 := N1.out; have n2 := N2.out; have n3 := N3.out; have n4 := N4.out; have n5 := N5.out; have n6 := N6.out; have n7 := N7.out; have n8 := N8.out; have n9 := N9.out; (try simp only [List.length_append]); (try simp only [List.length_cons]); (try simp only [List.length_nil]); omega)) ?_; rintro v16 w16 h16; obtain ⟨rfl, u16, E16, hown16, hst16⟩ := Put.go hst h16; clear hst hown h16; have hst := hst16; have hown := hown16; clear hst16 hown16; have hb1' := HB1.out _ _ b1 hst (by first | exact List.mem_append_right _ (List.mem_cons_self ..) | exact List.mem_append_right _ (List.mem_cons_of_mem _ (List.mem_cons_self ..)))))
      | ((with_reducible refine at_d 17 ?_); go_loud (refine wl_fld (r := 2) fld34_2 rfl rfl rfl rfl (hk := ?_)))
      | ((with_reducible refine at_d 19 ?_); go_loud (refine wl_call pl68 rfl rfl rfl (raw_any b3 _ _ _ _ _ _ (Outs.of hown hst) (HP.out _ _ hst b1 (List.mem_append_right _ (List.mem_cons_self ..))) (by have n1 := N1.out; have n2 := N2.out; have n3 := N3.out; have n4 := N4.out; have n5 := N5.out; have n6 := N6.out; have n7 := N7.out; have n8 := N8.out; have n9 := N9.out; (try simp only [List.length_append]); (try simp only [List.length_cons]); (try simp only [List.length_nil]); omega)) ?_; rintro v19 w19 h19; obtain ⟨rfl, u19, E19, hown19, hst19⟩ := Put.go hst h19; clear hst hown h19; have hst := hst19; have hown := hown19; clear hst19 hown19; have hb1' := HB1.out _ _ b1 hst (by first | exact List.mem_append_right _ (List.mem_cons_self ..) | exact List.mem_append_right _ (List.mem_cons_of_mem _ (List.mem_cons_self ..)))))
      | ((with_reducible refine at_d 20 ?_); go_loud (refine wl_fld (r := 34) fld34_3 rfl rfl rfl rfl (hk := ?_)))
      | ((with_reducible refine at_d 21 ?_); go_loud (refine wl_load1v rfl rfl rfl (hs := sc3) (hk := ?_)))
      | ((with_reducible refine at_d 23 ?_); go_loud (rw [EE.out]; refine wl_call pl67 rfl rfl rfl (num_any b3 _ _ en _ _ (Outs.of hown hst) (by omega) (by have n1 := N1.out; have n2 := N2.out; have n3 := N3.out; have n4 := N4.out; have n5 := N5.out; have n6 := N6.out; have n7 := N7.out; have n8 := N8.out; have n9 := N9.out; (try simp only [List.length_append]); (try simp only [List.length_cons]); (try simp only [List.length_nil]); omega)) ?_; rintro v23 w23 h23; obtain ⟨rfl, u23, E23, hown23, hst23⟩ := Put.go hst h23; clear hst hown h23; have hst := hst23; have hown := hown23; clear hst23 hown23; have hb1' := HB1.out _ _ b1 hst (by first | exact List.mem_append_right _ (List.mem_cons_self ..) | exact List.mem_append_right _ (List.mem_cons_of_mem _ (List.mem_cons_self ..)))))
      | ((with_reducible refine at_d 24 ?_); go_loud (refine wl_fld (r := 35) fld34_4 rfl rfl rfl rfl (hk := ?_)))
      | ((with_reducible refine at_d 25 ?_); go_loud (refine wl_load1v rfl rfl rfl (hs := sc4) (hk := ?_)))
      | ((with_reducible refine at_d 26 ?_); go_loud (refine wl_call pl69 rfl rfl rfl (flag_any b3 _ _ H.control _ _ (Outs.of hown hst) (by have n1 := N1.out; have n2 := N2.out; have n3 := N3.out; have n4 := N4.out; have n5 := N5.out; have n6 := N6.out; have n7 := N7.out; have n8 := N8.out; have n9 := N9.out; (try simp only [List.length_append]); (try simp only [List.length_cons]); (try simp only [List.length_nil]); omega)) ?_; rintro v26 w26 h26; obtain ⟨rfl, u26, E26, hown26, hst26⟩ := Put.go hst h26; clear hst hown h26; have hst := hst26; have hown := hown26; clear hst26 hown26; have hb1' := HB1.out _ _ b1 hst (by first | exact List.mem_append_right _ (List.mem_cons_self ..) | exact List.mem_append_right _ (List.mem_cons_of_mem _ (List.mem_cons_self ..)))))
      | ((with_reducible refine at_d 27 ?_); go_loud (refine wl_fld (r := 36) fld34_5 rfl rfl rfl rfl (hk := ?_)))
      | ((with_reducible refine at_d 28 ?_); go_loud (refine wl_load1v rfl rfl rfl (hs := sc26) (hk := ?_)))
      | ((with_reducible refine at_d 29 ?_); go_loud (refine wl_call pl67 rfl rfl rfl (num_any b3 _ _ H.time _ _ (Outs.of hown hst) HTI.out (by have n1 := N1.out; have n2 := N2.out; have n3 := N3.out; have n4 := N4.out; have n5 := N5.out; have n6 := N6.out; have n7 := N7.out; have n8 := N8.out; have n9 := N9.out; (try simp only [List.length_append]); (try simp only [List.length_cons]); (try simp only [List.length_nil]); omega)) ?_; rintro v29 w29 h29; obtain ⟨rfl, u29, E29, hown29, hst29⟩ := Put.go hst h29; clear hst hown h29; have hst := hst29; have hown := hown29; clear hst29 hown29; have hb1' := HB1.out _ _ b1 hst (by first | exact List.mem_append_right _ (List.mem_cons_self ..) | exact List.mem_append_right _ (List.mem_cons_of_mem _ (List.mem_cons_self ..)))))
      | ((with_reducible refine at_d 30 ?_); go_loud (refine wl_fld (r := 37) fld34_6 rfl rfl rfl rfl (hk := ?_)))
      | ((with_reducible refine at_d 32 ?_); go_loud (refine wl_call pl68 rfl rfl rfl (raw_any b3 _ _ _ _ _ _ (Outs.of hown hst) (HI.out _ _ hst b1 (List.mem_append_right _ (List.mem_cons_self ..))) (by have n1 := N1.out; have n2 := N2.out; have n3 := N3.out; have n4 := N4.out; have n5 := N5.out; have n6 := N6.out; have n7 := N7.out; have n8 := N8.out; have n9 := N9.out; (try simp only [List.length_append]); (try simp only [List.length_cons]); (try simp only [List.length_nil]); omega)) ?_; rintro v32 w32 h32; obtain ⟨rfl, u32, E32, hown32, hst32⟩ := Put.go hst h32; clear hst hown h32; have hst := hst32; have hown := hown32; clear hst32 hown32; have hb1' := HB1.out _ _ b1 hst (by first | exact List.mem_append_right _ (List.mem_cons_self ..) | exact List.mem_append_right _ (List.mem_cons_of_mem _ (List.mem_cons_self ..)))))
      | ((with_reducible refine at_d 33 ?_); go_loud (refine wl_fld (r := 53) fld34_7 rfl rfl rfl rfl (hk := ?_)))
      | ((with_reducible refine at_d 34 ?_); go_loud (refine wl_load1v rfl rfl rfl (hs := sc31) (hk := ?_)))
      | ((with_reducible refine at_d 37 ?_); go_loud (refine wl_call pl67 rfl rfl rfl (num_any b3 _ _ H.toks.length _ _ (Outs.of hown hst) (by omega) (by have n1 := N1.out; have n2 := N2.out; have n3 := N3.out; have n4 := N4.out; have n5 := N5.out; have n6 := N6.out; have n7 := N7.out; have n8 := N8.out; have n9 := N9.out; (try simp only [List.length_append]); (try simp only [List.length_cons]); (try simp only [List.length_nil]); omega)) ?_; rintro v37 w37 h37; obtain ⟨rfl, u37, E37, hown37, hst37⟩ := Put.go hst h37; clear hst hown h37; have hst := hst37; have hown := hown37; clear hst37 hown37; have hb1' := HB1.out _ _ b1 hst (by first | exact List.mem_append_right _ (List.mem_cons_self ..) | exact List.mem_append_right _ (List.mem_cons_of_mem _ (List.mem_cons_self ..)))))
      | ((with_reducible refine at_d 38 ?_); go_loud (refine wl_fld (r := 53) fld34_7 rfl rfl rfl rfl (hk := ?_)))
      | ((with_reducible refine at_d 39 ?_); go_loud (refine wl_load1v rfl rfl rfl (hs := sc31) (hk := ?_))))
  obtain ⟨l0, hl0⟩ : ∃ l0, l0 = ((((((([] ++ num wn) ++ num H.seq) ++ H.prev) ++ num en) ++ [if H.control then 1 else 0]) ++ num H.time) ++ H.item) ++ num H.toks.length := ⟨_, rfl⟩
  rw [← hl0] at hown
  have hlen0 : l0.length ≤ 200 := by
    rw [hl0]
    have n1 := N1.out; have n2 := N2.out; have n3 := N3.out; have n4 := N4.out; have n5 := N5.out; have n6 := N6.out; have n7 := N7.out
    simp only [List.length_append, List.length_cons, List.length_nil]; omega
  have HL0 := Lib.hid hl0
  clear hl0 hb1'
  go_loopw [41] (fun i wr => ∃ (k : Nat) (v' : Value) (E' : List (Nat × Obj)), k ≤ H.toks.length ∧ i = .int .i64 (k : Int) ∧ Own 1 5 v' (l0 ++ (H.toks.take k).flatten).length (bF (l0 ++ (H.toks.take k).flatten)) E' ∧
    St w [] (((b3, blk 2 (oF v' false) 116) :: E') ++ [(b1, blk 125 (hF H (.slice ad H.toks.length cap)) 34)]) wr) (fun i _ => H.toks.length - (intOf i).toNat)
  case atStart => exact ⟨0, _, _, by omega, rfl, by simpa using hown, hst⟩
  case round =>
    clear hst hown
    obtain ⟨k, v1, E1, hk, rfl, hown, hst⟩ := hrel
    by_cases hkl : k < H.toks.length
    · obtain ⟨b, off, N, f, rfl, hH, hN, hfc⟩ := hc (by intro e; rw [e] at hkl; simp at hkl)
      have HA := Lib.hid (tok_cells h16 hkl hfc)
      have it : isB 16 (H.toks.getD k []) := by rw [List.getD_eq_getElem?_getD, List.getElem?_eq_getElem hkl]; exact h16 _ (List.getElem_mem _)
      obtain ⟨t, htt⟩ : ∃ t, t = H.toks.getD k [] := ⟨_, rfl⟩
      have HT : Hid ((H.toks.take (k + 1)).flatten = (H.toks.take k).flatten ++ t) := by show _ = _; rw [htt]; exact flat_snoc' _ _ hkl
      rw [← htt] at HA it
      have hfl : ((H.toks.take k).flatten).length = 16 * k := by rw [toks_flat_len (fun t ht => h16 t (List.mem_of_mem_take ht)), List.length_take]; omega
      have hb1 : Hid (isB 16 t) := it
      have hbn : (l0 ++ (H.toks.take k).flatten).length + t.length ≤ 1000000 := by rw [List.length_append, hfl, it.1]; omega
      clear htt hfl hfc it hc h16 hnil
      go_wp2_with (first
      | ((with_reducible refine at_d 43 ?_); go_loud (refine wl_idx (i := k) Tryd.underlying31 siz30 (by omega) rfl rfl rfl rfl (hk := ?_)))
      | ((with_reducible refine at_d 44 ?_); go_loud (refine wl_loadP rfl rfl rfl (by first | exact St.hasb hst (by repeat (first | exact Pick.head | apply Pick.tail)) | exact St.hasOld hst (by assumption) (by simp) | assumption) agg30 (by omega) HA.out (hk := ?_)))
      | ((with_reducible refine at_d 5 ?_); go_loud (refine wl_alloc rfl rfl hst zer30 ?_; clear hst; intro b5 w5 hb5 hst))
      | ((with_reducible refine at_n (.store 30 (.tmp 5) (.tmp 44)) ?_); go_loud ((first | (refine wl_storeAll rfl rfl rfl rfl (hs := agg30) (hk := ?_)) | (refine wl_storeN rfl rfl rfl rfl (hs := agg30) (hk := ?_))); clear hst; intro w1 hst))
      | ((with_reducible refine at_d 46 ?_); go_loud (have hst3 := hst.perm (List.perm_middle (l₁ := (b3, blk 2 (oF v1 false) 116) :: E1) (l₂ := [(b1, blk 125 (hF H (.slice (some ⟨b, off, none⟩) H.toks.length cap)) 34)])).symm; clear hst; have hst := hst3; clear hst3; refine wl_call pl68 rfl rfl rfl (raw_any b3 _ _ _ t _ _ (Outs.of hown hst) (tokb (T := 30) (b := b5) hst hb1.out (List.mem_append_right _ (List.mem_cons_self ..))) hbn) ?_; rintro v46 w46 h46; obtain ⟨rfl, u46, E46, hown46, hst46⟩ := Put.go hst h46; clear hst hown h46; have hst := hst46; have hown := hown46; clear hst46 hown46; have hb1' := HB1.out _ _ b1 hst (by first | exact List.mem_append_right _ (List.mem_cons_self ..) | exact List.mem_append_right _ (List.mem_cons_of_mem _ (List.mem_cons_self ..))))))
      have hst2 := hst.sub (List.Sublist.append_left (List.Sublist.cons (b5, blk 16 (bF t) 30) (List.Sublist.refl [(b1, blk 125 (hF H (.slice (some ⟨b, off, none⟩) H.toks.length cap)) 34)])) _)
      go_wp2_with fail
      go_roundw
      case rel => exact ⟨k + 1, u46, E46, by omega, by go_num, by rw [HT.out, ← List.append_assoc]; exact hown, hst2⟩
      case measure => simp [intOf]; omega
    · obtain rfl : k = H.toks.length := by omega
      rw [List.take_length] at hown
      have hfl : H.toks.flatten.length = 16 * H.toks.length := toks_flat_len h16
      obtain ⟨l1, hl1⟩ : ∃ l1, l1 = l0 ++ H.toks.flatten := ⟨_, rfl⟩
      rw [← hl1] at hown
      have hlen1 : l1.length ≤ 400 := by rw [hl1, List.length_append]; omega
      have HL1 := Lib.hid hl1
      have hb1' := HB1.out _ _ b1 hst (by simp)
      clear hl1 hfl
      go_wp2_with (first
      | ((with_reducible refine at_d 48 ?_); go_loud (refine wl_fld (r := 54) fld34_8 rfl rfl rfl rfl (hk := ?_)))
      | ((with_reducible refine at_d 49 ?_); go_loud (refine wl_loadP rfl rfl rfl (hs := agg32) (hv := (by first | exact hF_prev _ _ | exact hF_item _ _ | exact hF_knows _ _ | exact hF_sum _ _ | exact hF_code _ _)) (hk := ?_))))
      clear hb1'
      go_loopw [50] (fun i wr => ∃ (k : Nat) (v' : Value) (E' : List (Nat × Obj)), k ≤ 6 ∧ i = .int .i64 (k : Int) ∧ Own 1 5 v' (l1 ++ ((H.knows.take k).map num).flatten).length (bF (l1 ++ ((H.knows.take k).map num).flatten)) E' ∧
        St w [] (((b3, blk 2 (oF v' false) 116) :: E') ++ [(b1, blk 125 (hF H (.slice ad H.toks.length cap)) 34)]) wr) (fun i _ => 6 - (intOf i).toNat)
      case atStart => exact ⟨0, _, _, by omega, rfl, by simpa using hown, hst⟩
      case round =>
        clear hst hown
        obtain ⟨k, v1, E1, hk, rfl, hown, hst⟩ := hrel
        have hkl := hok.knows.1
        have hnl := nums_len (H.knows.take k) (fun x hx => hok.knows.2 x (List.mem_of_mem_take hx))
        rw [List.length_take] at hnl
        by_cases hk6 : k < 6
        · obtain ⟨x, hx⟩ : ∃ x, x = H.knows.getD k 0 := ⟨_, rfl⟩
          have HX : Hid (kF H.knows k = .int .u64 (x : Int)) := by show _ = _; rw [kF, hx]
          have hx64 : x < 18446744073709551616 := by
            rw [hx, List.getD_eq_getElem?_getD, List.getElem?_eq_getElem (by rw [hkl]; exact hk6)]
            exact hok.knows.2 _ (List.getElem_mem _)
          have HT : Hid (((H.knows.take (k + 1)).map num).flatten = ((H.knows.take k).map num).flatten ++ num x) := by
            show _ = _
            rw [hx, List.take_succ_eq_append_getElem (by rw [hkl]; exact hk6), List.map_append, List.flatten_append, List.getD_eq_getElem?_getD, List.getElem?_eq_getElem (by rw [hkl]; exact hk6)]
            simp
          have hbn : (l1 ++ ((H.knows.take k).map num).flatten).length ≤ 100000 := by rw [List.length_append]; omega
          clear hx hnl hkl
          go_wp2_with (first
      | ((with_reducible refine at_d 52 ?_); go_loud (refine wl_index1 rfl rfl Tryd.underlying32 sc12 rfl rfl hk6 HX.out (hk := ?_)))
      | ((with_reducible refine at_d 54 ?_); go_loud (refine wl_call pl67 rfl rfl rfl (num_any b3 _ _ x _ _ (Outs.of hown hst) hx64 hbn) ?_; rintro v54 w54 h54; obtain ⟨rfl, u54, E54, hown54, hst54⟩ := Put.go hst h54; clear hst hown h54; have hst := hst54; have hown := hown54; clear hst54 hown54; have hb1' := HB1.out _ _ b1 hst (by first | exact List.mem_append_right _ (List.mem_cons_self ..) | exact List.mem_append_right _ (List.mem_cons_of_mem _ (List.mem_cons_self ..))))))
          go_wp2_with fail
          go_roundw
          case rel => exact ⟨k + 1, u54, E54, by omega, by go_num, by rw [HT.out, ← List.append_assoc]; exact hown, hst⟩
          case measure => simp [intOf]; omega
        · obtain rfl : k = 6 := by omega
          rw [List.take_of_length_le (by omega)] at hown hnl
          obtain ⟨l2, hl2⟩ : ∃ l2, l2 = l1 ++ (H.knows.map num).flatten := ⟨_, rfl⟩
          rw [← hl2] at hown
          have hlen2 : l2.length ≤ 500 := by rw [hl2, List.length_append]; omega
          have hfin : coreB H = (l2 ++ H.sum) ++ num sn := by rw [HCO.out, hl2, HL1.out, HL0.out]
          have HFIN := Lib.hid hfin
          have hb1' := HB1.out _ _ b1 hst (by simp)
          clear hl2 hnl hfin
          go_wp2_with (first
      | ((with_reducible refine at_d 56 ?_); go_loud (refine wl_fld (r := 60) fld34_9 rfl rfl rfl rfl (hk := ?_)))
      | ((with_reducible refine at_d 58 ?_); go_loud (refine wl_call pl68 rfl rfl rfl (raw_any b3 _ _ _ _ _ _ (Outs.of hown hst) (HSU.out _ _ hst b1 (List.mem_append_right _ (List.mem_cons_self ..))) (by have n1 := N1.out; have n2 := N2.out; have n3 := N3.out; have n4 := N4.out; have n5 := N5.out; have n6 := N6.out; have n7 := N7.out; have n8 := N8.out; have n9 := N9.out; (try simp only [List.length_append]); (try simp only [List.length_cons]); (try simp only [List.length_nil]); omega)) ?_; rintro v58 w58 h58; obtain ⟨rfl, u58, E58, hown58, hst58⟩ := Put.go hst h58; clear hst hown h58; have hst := hst58; have hown := hown58; clear hst58 hown58; have hb1' := HB1.out _ _ b1 hst (by first | exact List.mem_append_right _ (List.mem_cons_self ..) | exact List.mem_append_right _ (List.mem_cons_of_mem _ (List.mem_cons_self ..)))))
      | ((with_reducible refine at_d 59 ?_); go_loud (refine wl_fld (r := 92) fld34_10 rfl rfl rfl rfl (hk := ?_)))
      | ((with_reducible refine at_d 60 ?_); go_loud (refine wl_load1v rfl rfl rfl (hs := sc3) (hk := ?_)))
      | ((with_reducible refine at_d 62 ?_); go_loud (rw [ES.out]; refine wl_call pl67 rfl rfl rfl (num_any b3 _ _ sn _ _ (Outs.of hown hst) (by omega) (by have n1 := N1.out; have n2 := N2.out; have n3 := N3.out; have n4 := N4.out; have n5 := N5.out; have n6 := N6.out; have n7 := N7.out; have n8 := N8.out; have n9 := N9.out; (try simp only [List.length_append]); (try simp only [List.length_cons]); (try simp only [List.length_nil]); omega)) ?_; rintro v62 w62 h62; obtain ⟨rfl, u62, E62, hown62, hst62⟩ := Put.go hst h62; clear hst hown h62; have hst := hst62; have hown := hown62; clear hst62 hown62; have hb1' := HB1.out _ _ b1 hst (by first | exact List.mem_append_right _ (List.mem_cons_self ..) | exact List.mem_append_right _ (List.mem_cons_of_mem _ (List.mem_cons_self ..)))))
      | ((with_reducible refine at_d 64 ?_); go_loud (refine wl_call pl70 rfl rfl rfl (end_any b3 _ _ _ _ (Outs.of hown hst) (by rw [← HFIN.out]; exact core_lt hok) (by have n1 := N1.out; have n2 := N2.out; have n3 := N3.out; have n4 := N4.out; have n5 := N5.out; have n6 := N6.out; have n7 := N7.out; have n8 := N8.out; have n9 := N9.out; (try simp only [List.length_append]); (try simp only [List.length_cons]); (try simp only [List.length_nil]); omega)) ?_; rintro v64 w64 ⟨v65, E65, rfl, hown65, hst65⟩)))
          go_ret
          exact ⟨_, rfl, E65, by rw [HFIN.out]; exact hown65, (hst.call hst65).sub (List.sublist_append_left _ _)⟩
end Go.Proofs.YthbobmpeaemdnaaDoor
