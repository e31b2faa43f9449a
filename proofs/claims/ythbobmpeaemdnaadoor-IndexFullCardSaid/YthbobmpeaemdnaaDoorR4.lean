/- The walk of jalousieref12.Core. -/
import Derived.Test.YthbobmpeaemdnaaDoorR2
import Derived.Test.YthbobmpeaemdnaaDoorCore1
namespace Go.Proofs.YthbobmpeaemdnaaDoor
open Go.RowKit Go.Jal

theorem ap_own {v : Value} {l r : List Nat} {m : Nat} {E : List (Nat × Obj)} (hr : r.length = m) (h : Own 1 5 v (l.length + m) (glue (l.length * 1) (bF l) (bF r)) E) : Own 1 5 v (l ++ r).length (bF (l ++ r)) E := by
  subst hr; rw [List.length_append, ← glue_bF l r _ rfl]; exact h
theorem tok_bs {w : World} {b off N : Nat} {f : Nat → Value} {t : List Nat} (hH : Has w b N f) (ht : isB 16 t) (ho : off + 16 ≤ N) (hf : ∀ j, j < 16 → f (off + j) = bF t j) : Bs w (.slice (some ⟨b, off, none⟩) 16 16) t := by
  have := Bs.of_blk (cap := 16) (off := off) (l := t) hH (by rw [ht.1]; exact ho) (fun j hj => hf j (by rw [ht.1] at hj; exact hj)) ht.2 (by rw [ht.1]; omega) (by simp [maxLen])
  rwa [ht.1] at this
theorem byte_bs {w0 w : World} {M : List Nat} {b x : Nat} {T : TypeId} {L : List (Nat × Obj)} (hst : St w0 M L w) (hm : (b, blk 1 (fun _ => nB x) T) ∈ L) (hx : x < 256) : Bs w (.slice (some ⟨b, 0, none⟩) 1 1) [x] :=
  Bs.of_blk (l := [x]) ⟨_, _, hst.own _ hm⟩ (by simp) (fun j hj => by obtain rfl : j = 0 := (by simpa using hj); rfl) (by simpa using hx) (by simp) (by simp [maxLen])
theorem bs_ownp {w : World} {E : List (Nat × Obj)} {e : TypeId} {v : Value} {l : List Nat} (h : Own 1 e v l.length (bF l) E) (hlt : ∀ x ∈ l, x < 256) (hE : ∀ p ∈ E, w.heap[p.1]? = some p.2) : Bs w v l := by
  rcases h with ⟨rfl, h2, rfl⟩ | ⟨b, cap, f, rfl, h2, h3, rfl, h5⟩
  · obtain rfl : l = [] := List.length_eq_zero_iff.1 h2
    exact Bs.nil (by simp [maxLen]) (fun _ => rfl)
  · have : Has w b (cap * 1) f := ⟨_, _, hE (b, blk (cap * 1) f e) (by simp)⟩
    exact Bs.of_blk this (by omega) (fun j hj => by rw [Nat.zero_add]; exact h5 j (by omega)) hlt h2 h3
/-- what is new goes behind the buffer's block -/
theorem pm3 {A B C : List (Nat × Obj)} : (A ++ (B ++ C)).Perm (B ++ (A ++ C)) := by
  rw [← List.append_assoc, ← List.append_assoc]; exact List.perm_append_comm.append_right _
set_option maxRecDepth 100000 in
set_option maxHeartbeats 4000000 in
theorem refcore_any (H : Hdr) (tok : Value) (w : World) (hok : H.Ok) (ht : Toks w tok H.toks) (hf : formed H = true) :
    Ret Tryd.prog 53 #[.agg (row 125 (hF H tok))] w fun v' w' => ∃ E', Own 1 5 v' (coreB H).length (bF (coreB H)) E' ∧ St w [] E' w' := by
  obtain ⟨f1, f2, f3, f4, f5, f6, f7, f8, f9, f10, f11⟩ := formed_nat hf
  obtain ⟨wn, hw⟩ : ∃ wn : Nat, H.writer = (wn : Int) := ⟨H.writer.toNat, by omega⟩
  obtain ⟨en, he⟩ : ∃ en : Nat, H.epoch = (en : Int) := ⟨H.epoch.toNat, by omega⟩
  obtain ⟨sn, hs⟩ : ∃ sn : Nat, H.size = (sn : Int) := ⟨H.size.toNat, by omega⟩
  obtain ⟨cb, hcb⟩ : ∃ cb : Nat, cb = if H.control then 1 else 0 := ⟨_, rfl⟩
  have hcb2 : cb < 256 := by rw [hcb]; split <;> decide
  have hcore : coreB H = ((((((((((num wn ++ num H.seq) ++ H.prev) ++ num en) ++ [cb]) ++ num H.time) ++ H.item) ++ num H.toks.length) ++ H.toks.flatten) ++ (H.knows.map num).flatten) ++ H.sum) ++ num sn := by
    unfold coreB; rw [hw, he, hs, ← hcb]; simp
  have HCO := Lib.hid hcore
  have EW := Lib.hid hw
  have EE := Lib.hid he
  have ES := Lib.hid hs
  have HSQ := Lib.hid hok.seq
  have HTI := Lib.hid hok.time
  have nle : ∀ x, x < 18446744073709551616 → (num x).length ≤ 10 := fun x hx => num_len_le 9 x (by have : (18446744073709551616 : Nat) ≤ 128 ^ (9 + 1) := by decide
                                                                                                   omega)
  have N1 : Hid ((num wn).length ≤ 10) := nle _ (by omega)
  have N2 : Hid ((num H.seq).length ≤ 10) := nle _ (by omega)
  have N3 : Hid (H.prev.length = 32) := hok.prev.1
  have N4 : Hid ((num en).length ≤ 10) := nle _ (by omega)
  have N5 : Hid ((num H.time).length ≤ 10) := nle _ hok.time
  have N6 : Hid (H.item.length = 16) := hok.item.1
  have N7 : Hid ((num H.toks.length).length ≤ 10) := nle _ (by omega)
  have N8 : Hid (H.sum.length = 32) := hok.sum.1
  have N9 : Hid ((num sn).length ≤ 10) := nle _ (by omega)
  have hwn : wn ≤ 6 := by omega
  have hen : en ≤ 255 := by omega
  have hsn : sn ≤ 2064 := by omega
  obtain ⟨ad, cap, rfl, hcap, hcm, h16, hnil, hc⟩ := id ht
  unfold maxLen at hcm
  have HB1 : Hid (∀ L w' b, St w [] L w' → (b, blk 125 (hF H (.slice ad H.toks.length cap)) 34) ∈ L → Has w' b 125 (hF H (.slice ad H.toks.length cap))) := by show ∀ _, _; exact fun L w' b h hm => ⟨_, _, h.own _ hm⟩
  have HC : Hid (H.control = true ∧ cb = 1 ∨ H.control = false ∧ cb = 0) := by
    show _ ∨ _
    rw [hcb]; cases H.control <;> simp
  have HP : Hid (∀ L w', St w [] L w' → ∀ b, (b, blk 125 (hF H (.slice ad H.toks.length cap)) 34) ∈ L → Bs w' (.slice (some ⟨b, 2, none⟩) 32 32) H.prev) := by show ∀ _, _; exact fun L w' h b hm => part_bs h hm hok.prev (by decide) (hF_prev H _)
  have HI : Hid (∀ L w', St w [] L w' → ∀ b, (b, blk 125 (hF H (.slice ad H.toks.length cap)) 34) ∈ L → Bs w' (.slice (some ⟨b, 37, none⟩) 16 16) H.item) := by show ∀ _, _; exact fun L w' h b hm => part_bs h hm hok.item (by decide) (hF_item H _)
  have HSU : Hid (∀ L w', St w [] L w' → ∀ b, (b, blk 125 (hF H (.slice ad H.toks.length cap)) 34) ∈ L → Bs w' (.slice (some ⟨b, 60, none⟩) 32 32) H.sum) := by show ∀ _, _; exact fun L w' h b hm => part_bs h hm hok.sum (by decide) (hF_sum H _)
  clear hcore hw he hs nle hcb
  rcases HC.out with ⟨hct, hcb⟩ | ⟨hct, hcb⟩
  · subst hcb
    have HCT : Hid (hF H (.slice ad H.toks.length cap) 35 = .bool true) := by show Value.bool H.control = _; rw [hct]
    clear hct HC
    go_enter Tryd.func53, Tryd.ntmps53
    have hst := St.refl w
    go_wp2_with (first
      | ((with_reducible refine at_d 1 ?_); go_loud (refine wl_box rfl rfl rfl (by first | rfl | exact row_one _) hst ?_; clear hst; intro b1 w1 hb1 hst))
      | ((with_reducible refine at_d 7 ?_); go_loud (refine wl_fld (r := 0) fld34_0 rfl rfl rfl rfl (hk := ?_)))
      | ((with_reducible refine at_d 8 ?_); go_loud (refine wl_load1v rfl rfl rfl (hs := sc3) (hk := ?_)))
      | ((with_reducible refine at_d 10 ?_); go_loud (rw [EW.out]; refine wl_call pl75 rfl rfl rfl (refnum_any wn _ (by omega)) ?_; rintro v10 w10 ⟨E10, hown, hst10⟩; have hst0 := hst.call hst10; clear hst hst10; have hst := hst0; clear hst0; have hb1' := HB1.out _ _ b1 hst (by first | exact List.mem_cons_self .. | exact List.mem_append_right _ (List.mem_cons_self ..) | exact List.mem_append_right _ (List.mem_append_right _ (List.mem_cons_self ..)))))
      | ((with_reducible refine at_d 12 ?_); go_loud (refine wl_fld (r := 1) fld34_1 rfl rfl rfl rfl (hk := ?_)))
      | ((with_reducible refine at_d 13 ?_); go_loud (refine wl_load1v rfl rfl rfl (hs := sc26) (hk := ?_)))
      | ((with_reducible refine at_d 14 ?_); go_loud (refine wl_call pl75 rfl rfl rfl (refnum_any H.seq _ HSQ.out) ?_; rintro v14 w14 ⟨N14, nown14, hst14⟩; have hst0 := (hst.call hst14).perm (pm3 (C := [(b1, blk 125 (hF H (.slice ad H.toks.length cap)) 34)])); clear hst hst14; have hst := hst0; clear hst0; have nown := nown14; obtain ⟨na14, nc14, rfl, _, _, nz14⟩ := nown.slice; clear nown; have hb1' := HB1.out _ _ b1 hst (by first | exact List.mem_cons_self .. | exact List.mem_append_right _ (List.mem_cons_self ..) | exact List.mem_append_right _ (List.mem_append_right _ (List.mem_cons_self ..)))))
      | ((with_reducible refine at_d 15 ?_); go_loud (refine wl_append rfl rfl elt35 rfl rfl hown (L := (N14 ++ [(b1, blk 125 (hF H (.slice ad H.toks.length cap)) 34)])) hst (Src.of_bs (bs_ownp nown14 (num_lt _) (fun p hp => hst.own p (List.mem_append_right _ (List.mem_append_left _ hp))))) (fun e => (nz14 e).1) (by intro j _; rfl) (by have n1 := N1.out; have n2 := N2.out; have n3 := N3.out; have n4 := N4.out; have n5 := N5.out; have n6 := N6.out; have n7 := N7.out; have n8 := N8.out; have n9 := N9.out; (try simp only [List.length_append]); (try simp only [List.length_cons]); (try simp only [List.length_nil]); omega) (by show _ ≤ maxLen; unfold maxLen; have n1 := N1.out; have n2 := N2.out; have n3 := N3.out; have n4 := N4.out; have n5 := N5.out; have n6 := N6.out; have n7 := N7.out; have n8 := N8.out; have n9 := N9.out; (try simp only [List.length_append]); (try simp only [List.length_cons]); (try simp only [List.length_nil]); omega) ?_; intro v15 w15 E15 hown15 hst15 _; have hst0 := hst15.sub (List.Sublist.append_left (List.sublist_append_right N14 [(b1, blk 125 (hF H (.slice ad H.toks.length cap)) 34)]) _); clear hst hst15; have hst := hst0; clear hst0; replace hown := ap_own rfl hown15; clear hown15; have hb1' := HB1.out _ _ b1 hst (by first | exact List.mem_cons_self .. | exact List.mem_append_right _ (List.mem_cons_self ..) | exact List.mem_append_right _ (List.mem_append_right _ (List.mem_cons_self ..)))))
      | ((with_reducible refine at_d 17 ?_); go_loud (refine wl_fld (r := 2) fld34_2 rfl rfl rfl rfl (hk := ?_)))
      | ((with_reducible refine at_d 19 ?_); go_loud (refine wl_append rfl rfl elt35 rfl rfl hown (L := [(b1, blk 125 (hF H (.slice ad H.toks.length cap)) 34)]) hst (Src.of_bs (HP.out _ _ hst b1 (List.mem_append_right _ (List.mem_cons_self ..)))) (by intro h; cases h) (by intro j _; rfl) (by have n1 := N1.out; have n2 := N2.out; have n3 := N3.out; have n4 := N4.out; have n5 := N5.out; have n6 := N6.out; have n7 := N7.out; have n8 := N8.out; have n9 := N9.out; (try simp only [List.length_append]); (try simp only [List.length_cons]); (try simp only [List.length_nil]); omega) (by show _ ≤ maxLen; unfold maxLen; have n1 := N1.out; have n2 := N2.out; have n3 := N3.out; have n4 := N4.out; have n5 := N5.out; have n6 := N6.out; have n7 := N7.out; have n8 := N8.out; have n9 := N9.out; (try simp only [List.length_append]); (try simp only [List.length_cons]); (try simp only [List.length_nil]); omega) ?_; intro v19 w19 E19 hown19 hst19 _; have hst0 := hst19; clear hst hst19; have hst := hst0; clear hst0; replace hown := ap_own N3.out hown19; clear hown19; have hb1' := HB1.out _ _ b1 hst (by first | exact List.mem_cons_self .. | exact List.mem_append_right _ (List.mem_cons_self ..) | exact List.mem_append_right _ (List.mem_append_right _ (List.mem_cons_self ..)))))
      | ((with_reducible refine at_d 21 ?_); go_loud (refine wl_fld (r := 34) fld34_3 rfl rfl rfl rfl (hk := ?_)))
      | ((with_reducible refine at_d 22 ?_); go_loud (refine wl_load1v rfl rfl rfl (hs := sc3) (hk := ?_)))
      | ((with_reducible refine at_d 24 ?_); go_loud (rw [EE.out]; refine wl_call pl75 rfl rfl rfl (refnum_any en _ (by omega)) ?_; rintro v24 w24 ⟨N24, nown24, hst24⟩; have hst0 := (hst.call hst24).perm (pm3 (C := [(b1, blk 125 (hF H (.slice ad H.toks.length cap)) 34)])); clear hst hst24; have hst := hst0; clear hst0; have nown := nown24; obtain ⟨na24, nc24, rfl, _, _, nz24⟩ := nown.slice; clear nown; have hb1' := HB1.out _ _ b1 hst (by first | exact List.mem_cons_self .. | exact List.mem_append_right _ (List.mem_cons_self ..) | exact List.mem_append_right _ (List.mem_append_right _ (List.mem_cons_self ..)))))
      | ((with_reducible refine at_d 25 ?_); go_loud (refine wl_append rfl rfl elt35 rfl rfl hown (L := (N24 ++ [(b1, blk 125 (hF H (.slice ad H.toks.length cap)) 34)])) hst (Src.of_bs (bs_ownp nown24 (num_lt _) (fun p hp => hst.own p (List.mem_append_right _ (List.mem_append_left _ hp))))) (fun e => (nz24 e).1) (by intro j _; rfl) (by have n1 := N1.out; have n2 := N2.out; have n3 := N3.out; have n4 := N4.out; have n5 := N5.out; have n6 := N6.out; have n7 := N7.out; have n8 := N8.out; have n9 := N9.out; (try simp only [List.length_append]); (try simp only [List.length_cons]); (try simp only [List.length_nil]); omega) (by show _ ≤ maxLen; unfold maxLen; have n1 := N1.out; have n2 := N2.out; have n3 := N3.out; have n4 := N4.out; have n5 := N5.out; have n6 := N6.out; have n7 := N7.out; have n8 := N8.out; have n9 := N9.out; (try simp only [List.length_append]); (try simp only [List.length_cons]); (try simp only [List.length_nil]); omega) ?_; intro v25 w25 E25 hown25 hst25 _; have hst0 := hst25.sub (List.Sublist.append_left (List.sublist_append_right N24 [(b1, blk 125 (hF H (.slice ad H.toks.length cap)) 34)]) _); clear hst hst25; have hst := hst0; clear hst0; replace hown := ap_own rfl hown25; clear hown25; have hb1' := HB1.out _ _ b1 hst (by first | exact List.mem_cons_self .. | exact List.mem_append_right _ (List.mem_cons_self ..) | exact List.mem_append_right _ (List.mem_append_right _ (List.mem_cons_self ..)))))
      | ((with_reducible refine at_d 26 ?_); go_loud (refine wl_fld (r := 35) fld34_4 rfl rfl rfl rfl (hk := ?_)))
      | ((with_reducible refine at_d 27 ?_); go_loud (refine wl_load1v rfl rfl rfl (by first | exact St.hasb hst (by repeat (first | exact Pick.head | apply Pick.tail)) | exact St.hasOld hst (by assumption) (by simp) | assumption) HCT.out (by omega) sc4 (hk := ?_)))
      | ((with_reducible refine at_d 30 ?_); go_loud (refine wl_buildSlice1 rfl rfl elt35 (by decide) (by (conv => lhs; whnf) <;> rfl) (by first | exact row_one _ | rfl) hst ?_; clear hst; intro b30 w30 hb30 hst))
      | ((with_reducible refine at_d 31 ?_); go_loud (have hst0 : St w [] (E25 ++ ((b30, blk 1 (fun _ => nB 1) 5) :: [(b1, blk 125 (hF H (.slice ad H.toks.length cap)) 34)])) _ := hst.perm List.perm_middle.symm; clear hst; have hst := hst0; clear hst0; refine wl_append rfl rfl elt35 rfl rfl hown (L := ([(b30, blk 1 (fun _ => nB 1) 5)] ++ [(b1, blk 125 (hF H (.slice ad H.toks.length cap)) 34)])) hst (Src.of_bs (byte_bs hst (List.mem_append_right E25 (List.mem_cons_self ..)) (by decide))) (by intro h; cases h) (by intro j _; rfl) (by have n1 := N1.out; have n2 := N2.out; have n3 := N3.out; have n4 := N4.out; have n5 := N5.out; have n6 := N6.out; have n7 := N7.out; have n8 := N8.out; have n9 := N9.out; (try simp only [List.length_append]); (try simp only [List.length_cons]); (try simp only [List.length_nil]); omega) (by show _ ≤ maxLen; unfold maxLen; have n1 := N1.out; have n2 := N2.out; have n3 := N3.out; have n4 := N4.out; have n5 := N5.out; have n6 := N6.out; have n7 := N7.out; have n8 := N8.out; have n9 := N9.out; (try simp only [List.length_append]); (try simp only [List.length_cons]); (try simp only [List.length_nil]); omega) ?_; intro v31 w31 E31 hown31 hst31 _; have hst0 := hst31.sub (List.Sublist.append_left (List.sublist_append_right [(b30, blk 1 (fun _ => nB 1) 5)] [(b1, blk 125 (hF H (.slice ad H.toks.length cap)) 34)]) _); clear hst hst31; have hst := hst0; clear hst0; replace hown := ap_own (show [1].length = 1 from rfl) hown31; clear hown31; have hb1' := HB1.out _ _ b1 hst (by first | exact List.mem_cons_self .. | exact List.mem_append_right _ (List.mem_cons_self ..) | exact List.mem_append_right _ (List.mem_append_right _ (List.mem_cons_self ..)))))
      | ((with_reducible refine at_d 33 ?_); go_loud (refine wl_fld (r := 36) fld34_5 rfl rfl rfl rfl (hk := ?_)))
      | ((with_reducible refine at_d 34 ?_); go_loud (refine wl_load1v rfl rfl rfl (hs := sc26) (hk := ?_)))
      | ((with_reducible refine at_d 35 ?_); go_loud (refine wl_call pl75 rfl rfl rfl (refnum_any H.time _ HTI.out) ?_; rintro v35 w35 ⟨N35, nown35, hst35⟩; have hst0 := (hst.call hst35).perm (pm3 (C := [(b1, blk 125 (hF H (.slice ad H.toks.length cap)) 34)])); clear hst hst35; have hst := hst0; clear hst0; have nown := nown35; obtain ⟨na35, nc35, rfl, _, _, nz35⟩ := nown.slice; clear nown; have hb1' := HB1.out _ _ b1 hst (by first | exact List.mem_cons_self .. | exact List.mem_append_right _ (List.mem_cons_self ..) | exact List.mem_append_right _ (List.mem_append_right _ (List.mem_cons_self ..)))))
      | ((with_reducible refine at_d 36 ?_); go_loud (refine wl_append rfl rfl elt35 rfl rfl hown (L := (N35 ++ [(b1, blk 125 (hF H (.slice ad H.toks.length cap)) 34)])) hst (Src.of_bs (bs_ownp nown35 (num_lt _) (fun p hp => hst.own p (List.mem_append_right _ (List.mem_append_left _ hp))))) (fun e => (nz35 e).1) (by intro j _; rfl) (by have n1 := N1.out; have n2 := N2.out; have n3 := N3.out; have n4 := N4.out; have n5 := N5.out; have n6 := N6.out; have n7 := N7.out; have n8 := N8.out; have n9 := N9.out; (try simp only [List.length_append]); (try simp only [List.length_cons]); (try simp only [List.length_nil]); omega) (by show _ ≤ maxLen; unfold maxLen; have n1 := N1.out; have n2 := N2.out; have n3 := N3.out; have n4 := N4.out; have n5 := N5.out; have n6 := N6.out; have n7 := N7.out; have n8 := N8.out; have n9 := N9.out; (try simp only [List.length_append]); (try simp only [List.length_cons]); (try simp only [List.length_nil]); omega) ?_; intro v36 w36 E36 hown36 hst36 _; have hst0 := hst36.sub (List.Sublist.append_left (List.sublist_append_right N35 [(b1, blk 125 (hF H (.slice ad H.toks.length cap)) 34)]) _); clear hst hst36; have hst := hst0; clear hst0; replace hown := ap_own rfl hown36; clear hown36; have hb1' := HB1.out _ _ b1 hst (by first | exact List.mem_cons_self .. | exact List.mem_append_right _ (List.mem_cons_self ..) | exact List.mem_append_right _ (List.mem_append_right _ (List.mem_cons_self ..)))))
      | ((with_reducible refine at_d 38 ?_); go_loud (refine wl_fld (r := 37) fld34_6 rfl rfl rfl rfl (hk := ?_)))
      | ((with_reducible refine at_d 40 ?_); go_loud (refine wl_append rfl rfl elt35 rfl rfl hown (L := [(b1, blk 125 (hF H (.slice ad H.toks.length cap)) 34)]) hst (Src.of_bs (HI.out _ _ hst b1 (List.mem_append_right _ (List.mem_cons_self ..)))) (by intro h; cases h) (by intro j _; rfl) (by have n1 := N1.out; have n2 := N2.out; have n3 := N3.out; have n4 := N4.out; have n5 := N5.out; have n6 := N6.out; have n7 := N7.out; have n8 := N8.out; have n9 := N9.out; (try simp only [List.length_append]); (try simp only [List.length_cons]); (try simp only [List.length_nil]); omega) (by show _ ≤ maxLen; unfold maxLen; have n1 := N1.out; have n2 := N2.out; have n3 := N3.out; have n4 := N4.out; have n5 := N5.out; have n6 := N6.out; have n7 := N7.out; have n8 := N8.out; have n9 := N9.out; (try simp only [List.length_append]); (try simp only [List.length_cons]); (try simp only [List.length_nil]); omega) ?_; intro v40 w40 E40 hown40 hst40 _; have hst0 := hst40; clear hst hst40; have hst := hst0; clear hst0; replace hown := ap_own N6.out hown40; clear hown40; have hb1' := HB1.out _ _ b1 hst (by first | exact List.mem_cons_self .. | exact List.mem_append_right _ (List.mem_cons_self ..) | exact List.mem_append_right _ (List.mem_append_right _ (List.mem_cons_self ..)))))
      | ((with_reducible refine at_d 42 ?_); go_loud (refine wl_fld (r := 53) fld34_7 rfl rfl rfl rfl (hk := ?_)))
      | ((with_reducible refine at_d 43 ?_); go_loud (refine wl_load1v rfl rfl rfl (hs := sc31) (hk := ?_)))
      | ((with_reducible refine at_d 46 ?_); go_loud (refine wl_call pl75 rfl rfl rfl (refnum_any H.toks.length _ (by omega)) ?_; rintro v46 w46 ⟨N46, nown46, hst46⟩; have hst0 := (hst.call hst46).perm (pm3 (C := [(b1, blk 125 (hF H (.slice ad H.toks.length cap)) 34)])); clear hst hst46; have hst := hst0; clear hst0; have nown := nown46; obtain ⟨na46, nc46, rfl, _, _, nz46⟩ := nown.slice; clear nown; have hb1' := HB1.out _ _ b1 hst (by first | exact List.mem_cons_self .. | exact List.mem_append_right _ (List.mem_cons_self ..) | exact List.mem_append_right _ (List.mem_append_right _ (List.mem_cons_self ..)))))
      | ((with_reducible refine at_d 47 ?_); go_loud (refine wl_append rfl rfl elt35 rfl rfl hown (L := (N46 ++ [(b1, blk 125 (hF H (.slice ad H.toks.length cap)) 34)])) hst (Src.of_bs (bs_ownp nown46 (num_lt _) (fun p hp => hst.own p (List.mem_append_right _ (List.mem_append_left _ hp))))) (fun e => (nz46 e).1) (by intro j _; rfl) (by have n1 := N1.out; have n2 := N2.out; have n3 := N3.out; have n4 := N4.out; have n5 := N5.out; have n6 := N6.out; have n7 := N7.out; have n8 := N8.out; have n9 := N9.out; (try simp only [List.length_append]); (try simp only [List.length_cons]); (try simp only [List.length_nil]); omega) (by show _ ≤ maxLen; unfold maxLen; have n1 := N1.out; have n2 := N2.out; have n3 := N3.out; have n4 := N4.out; have n5 := N5.out; have n6 := N6.out; have n7 := N7.out; have n8 := N8.out; have n9 := N9.out; (try simp only [List.length_append]); (try simp only [List.length_cons]); (try simp only [List.length_nil]); omega) ?_; intro v47 w47 E47 hown47 hst47 _; have hst0 := hst47.sub (List.Sublist.append_left (List.sublist_append_right N46 [(b1, blk 125 (hF H (.slice ad H.toks.length cap)) 34)]) _); clear hst hst47; have hst := hst0; clear hst0; replace hown := ap_own rfl hown47; clear hown47; have hb1' := HB1.out _ _ b1 hst (by first | exact List.mem_cons_self .. | exact List.mem_append_right _ (List.mem_cons_self ..) | exact List.mem_append_right _ (List.mem_append_right _ (List.mem_cons_self ..))))))
    obtain ⟨l0, hl0⟩ : ∃ l0, l0 = (((((((num wn ++ num H.seq) ++ H.prev) ++ num en) ++ [1]) ++ num H.time) ++ H.item) ++ num H.toks.length) := ⟨_, rfl⟩
    rw [← hl0] at hown
    have hlen0 : l0.length ≤ 200 := by
      rw [hl0]
      have n1 := N1.out; have n2 := N2.out; have n3 := N3.out; have n4 := N4.out; have n5 := N5.out; have n6 := N6.out; have n7 := N7.out
      simp only [List.length_append, List.length_cons, List.length_nil]; omega
    have HL0 := Lib.hid hl0
    clear hl0 hb1'
    go_loopw [3, 5] (fun v3 i wr => ∃ (k : Nat) (E' : List (Nat × Obj)), k ≤ H.toks.length ∧ i = .int .i64 (k : Int) ∧ Own 1 5 v3 (l0 ++ (H.toks.take k).flatten).length (bF (l0 ++ (H.toks.take k).flatten)) E' ∧ St w [] (E' ++ [(b1, blk 125 (hF H (.slice ad H.toks.length cap)) 34)]) wr) (fun _ i _ => H.toks.length - (intOf i).toNat)
    case atStart => exact ⟨0, _, by omega, rfl, by simpa using hown, hst⟩
    case round =>
      clear hst hown
      obtain ⟨k, E1, hk, rfl, hown, hst⟩ := hrel
      have hb1' := HB1.out _ _ b1 hst (List.mem_append_right _ (List.mem_cons_self ..))
      by_cases hkl : k < H.toks.length
      · obtain ⟨b, off, N, f, had, hH, hN, hfc⟩ := hc (by intro e; rw [e] at hkl; simp at hkl)
        have HAD := Lib.hid had
        have HA := Lib.hid (tok_cells h16 hkl hfc)
        have hH' := hst.hasOld hH (by simp)
        have it : isB 16 (H.toks.getD k []) := by rw [List.getD_eq_getElem?_getD, List.getElem?_eq_getElem hkl]; exact h16 _ (List.getElem_mem _)
        obtain ⟨t, htt⟩ : ∃ t, t = H.toks.getD k [] := ⟨_, rfl⟩
        have HT : Hid ((H.toks.take (k + 1)).flatten = (H.toks.take k).flatten ++ t) := by show _ = _; rw [htt]; exact flat_snoc' _ _ hkl
        rw [← htt] at HA it
        have hfl : ((H.toks.take k).flatten).length = 16 * k := by rw [toks_flat_len (fun t ht => h16 t (List.mem_of_mem_take ht)), List.length_take]; omega
        have hb1x : Hid (isB 16 t) := it
        obtain ⟨lk, hlk⟩ : ∃ lk, lk = l0 ++ (H.toks.take k).flatten := ⟨_, rfl⟩
        have hbn : lk.length ≤ 400 := by rw [hlk, List.length_append, hfl]; omega
        rw [← hlk] at hown
        have HLK := Lib.hid hlk
        clear htt hfl hfc it hc h16 hnil had hlk
        go_wp2_with (first
      | ((with_reducible refine at_d 49 ?_); go_loud (refine wl_fld (r := 53) fld34_7 rfl rfl rfl rfl (hk := ?_)))
      | ((with_reducible refine at_d 50 ?_); go_loud (refine wl_load1v rfl rfl rfl (hs := sc31) (hk := ?_)))
      | ((with_reducible refine at_d 56 ?_); go_loud (refine wl_fld (r := 53) fld34_7 rfl rfl rfl rfl (hk := ?_)))
      | ((with_reducible refine at_d 57 ?_); go_loud (refine wl_load1v rfl rfl rfl (hs := sc31) (hk := ?_)))
      | ((with_reducible refine at_d 59 ?_); go_loud (refine wl_idx (i := k) (b := b) (off := off) (n := H.toks.length) (c := cap) Tryd.underlying31 siz30 hkl rfl rfl (show Value.slice ad H.toks.length cap = _ by rw [HAD.out]) rfl (hk := ?_)))
      | ((with_reducible refine at_d 61 ?_); go_loud (refine wl_append rfl rfl elt35 rfl rfl hown (L := [(b1, blk 125 (hF H (.slice ad H.toks.length cap)) 34)]) hst (Src.of_bs (tok_bs hH' hb1x.out (by omega) HA.out)) (by intro h; cases h) (by intro j _; rfl) (by have n1 := N1.out; have n2 := N2.out; have n3 := N3.out; have n4 := N4.out; have n5 := N5.out; have n6 := N6.out; have n7 := N7.out; have n8 := N8.out; have n9 := N9.out; (try simp only [List.length_append]); (try simp only [List.length_cons]); (try simp only [List.length_nil]); omega) (by show _ ≤ maxLen; unfold maxLen; have n1 := N1.out; have n2 := N2.out; have n3 := N3.out; have n4 := N4.out; have n5 := N5.out; have n6 := N6.out; have n7 := N7.out; have n8 := N8.out; have n9 := N9.out; (try simp only [List.length_append]); (try simp only [List.length_cons]); (try simp only [List.length_nil]); omega) ?_; intro v61 w61 E61 hown61 hst61 _; have hst0 := hst61; clear hst hst61; have hst := hst0; clear hst0; replace hown := ap_own hb1x.out.1 hown61; clear hown61; have hb1' := HB1.out _ _ b1 hst (by first | exact List.mem_cons_self .. | exact List.mem_append_right _ (List.mem_cons_self ..) | exact List.mem_append_right _ (List.mem_append_right _ (List.mem_cons_self ..))))))
        go_roundw
        case rel => exact ⟨k + 1, E61, by omega, by go_num, by rw [HT.out, ← List.append_assoc, ← HLK.out]; exact hown, hst⟩
        case measure => simp [intOf]; omega
      · obtain rfl : k = H.toks.length := by omega
        rw [List.take_length] at hown
        have hfl : H.toks.flatten.length = 16 * H.toks.length := toks_flat_len h16
        obtain ⟨l1, hl1⟩ : ∃ l1, l1 = l0 ++ H.toks.flatten := ⟨_, rfl⟩
        rw [← hl1] at hown
        have hlen1 : l1.length ≤ 400 := by rw [hl1, List.length_append]; omega
        have HL1 := Lib.hid hl1
        clear hl1 hfl
        go_wp2_with (first
      | ((with_reducible refine at_d 49 ?_); go_loud (refine wl_fld (r := 53) fld34_7 rfl rfl rfl rfl (hk := ?_)))
      | ((with_reducible refine at_d 50 ?_); go_loud (refine wl_load1v rfl rfl rfl (hs := sc31) (hk := ?_))))
        clear hb1'
        go_loopw [3, 6] (fun v3 i wr => ∃ (k : Nat) (E' : List (Nat × Obj)), k ≤ 6 ∧ i = .int .i64 (k : Int) ∧ Own 1 5 v3 (l1 ++ ((H.knows.take k).map num).flatten).length (bF (l1 ++ ((H.knows.take k).map num).flatten)) E' ∧ St w [] (E' ++ [(b1, blk 125 (hF H (.slice ad H.toks.length cap)) 34)]) wr) (fun _ i _ => 6 - (intOf i).toNat)
        case atStart => exact ⟨0, _, by omega, rfl, by simpa using hown, hst⟩
        case round =>
          clear hst hown
          obtain ⟨k, E1, hk, rfl, hown, hst⟩ := hrel
          have hb1' := HB1.out _ _ b1 hst (List.mem_append_right _ (List.mem_cons_self ..))
          have hnl := nums_len (H.knows.take k) (fun x hx => hok.knows.2 x (List.mem_of_mem_take hx))
          rw [List.length_take] at hnl
          by_cases hk6 : k < 6
          · obtain ⟨x, hx⟩ : ∃ x, x = H.knows.getD k 0 := ⟨_, rfl⟩
            have HX : Hid (hF H (.slice ad H.toks.length cap) (54 + 1 * k) = .int .u64 (x : Int)) := by show _ = _; rw [Nat.one_mul, hF_knows H _ k hk6, kF, hx]
            have hx64 : x < 18446744073709551616 := by
              rw [hx, List.getD_eq_getElem?_getD, List.getElem?_eq_getElem (by rw [hok.knows.1]; exact hk6)]
              exact hok.knows.2 _ (List.getElem_mem _)
            have HT : Hid (((H.knows.take (k + 1)).map num).flatten = ((H.knows.take k).map num).flatten ++ num x) := by
              show _ = _
              rw [hx, List.take_succ_eq_append_getElem (by rw [hok.knows.1]; exact hk6), List.map_append, List.flatten_append, List.getD_eq_getElem?_getD, List.getElem?_eq_getElem (by rw [hok.knows.1]; exact hk6)]
              simp
            have hnx : (num x).length ≤ 10 := num_len_le 9 x (by have : (18446744073709551616 : Nat) ≤ 128 ^ (9 + 1) := by decide
                                                                 omega)
            have hbn : (l1 ++ ((H.knows.take k).map num).flatten).length ≤ 100000 := by rw [List.length_append]; omega
            obtain ⟨l2, hl2⟩ : ∃ l2, l2 = l1 ++ ((H.knows.take k).map num).flatten := ⟨_, rfl⟩
            rw [← hl2] at hown hbn
            have HL2 := Lib.hid hl2
            clear hx hnl hl2
            go_wp2_with (first
      | ((with_reducible refine at_d 68 ?_); go_loud (refine wl_fld (r := 54) fld34_8 rfl rfl rfl rfl (hk := ?_)))
      | ((with_reducible refine at_d 69 ?_); go_loud (refine wl_idxA (i := k) Tryd.underlying32 sc12.size hk6 rfl rfl rfl rfl (hk := ?_)))
      | ((with_reducible refine at_d 70 ?_); go_loud (refine wl_load1v rfl rfl rfl (by first | exact St.hasb hst (by repeat (first | exact Pick.head | apply Pick.tail)) | exact St.hasOld hst (by assumption) (by simp) | assumption) HX.out (by omega) sc12 (hk := ?_)))
      | ((with_reducible refine at_d 71 ?_); go_loud (refine wl_call pl75 rfl rfl rfl (refnum_any x _ hx64) ?_; rintro v71 w71 ⟨N71, nown71, hst71⟩; have hst0 := (hst.call hst71).perm (pm3 (C := [(b1, blk 125 (hF H (.slice ad H.toks.length cap)) 34)])); clear hst hst71; have hst := hst0; clear hst0; have nown := nown71; obtain ⟨na71, nc71, rfl, _, _, nz71⟩ := nown.slice; clear nown; have hb1' := HB1.out _ _ b1 hst (by first | exact List.mem_cons_self .. | exact List.mem_append_right _ (List.mem_cons_self ..) | exact List.mem_append_right _ (List.mem_append_right _ (List.mem_cons_self ..)))))
      | ((with_reducible refine at_d 72 ?_); go_loud (refine wl_append rfl rfl elt35 rfl rfl hown (L := (N71 ++ [(b1, blk 125 (hF H (.slice ad H.toks.length cap)) 34)])) hst (Src.of_bs (bs_ownp nown71 (num_lt _) (fun p hp => hst.own p (List.mem_append_right _ (List.mem_append_left _ hp))))) (fun e => (nz71 e).1) (by intro j _; rfl) (by have n1 := N1.out; have n2 := N2.out; have n3 := N3.out; have n4 := N4.out; have n5 := N5.out; have n6 := N6.out; have n7 := N7.out; have n8 := N8.out; have n9 := N9.out; (try simp only [List.length_append]); (try simp only [List.length_cons]); (try simp only [List.length_nil]); omega) (by show _ ≤ maxLen; unfold maxLen; have n1 := N1.out; have n2 := N2.out; have n3 := N3.out; have n4 := N4.out; have n5 := N5.out; have n6 := N6.out; have n7 := N7.out; have n8 := N8.out; have n9 := N9.out; (try simp only [List.length_append]); (try simp only [List.length_cons]); (try simp only [List.length_nil]); omega) ?_; intro v72 w72 E72 hown72 hst72 _; have hst0 := hst72.sub (List.Sublist.append_left (List.sublist_append_right N71 [(b1, blk 125 (hF H (.slice ad H.toks.length cap)) 34)]) _); clear hst hst72; have hst := hst0; clear hst0; replace hown := ap_own rfl hown72; clear hown72; have hb1' := HB1.out _ _ b1 hst (by first | exact List.mem_cons_self .. | exact List.mem_append_right _ (List.mem_cons_self ..) | exact List.mem_append_right _ (List.mem_append_right _ (List.mem_cons_self ..))))))
            go_roundw
            case rel => exact ⟨k + 1, E72, by omega, by go_num, by rw [HT.out, ← List.append_assoc, ← HL2.out]; exact hown, hst⟩
            case measure => simp [intOf]; omega
          · obtain rfl : k = 6 := by omega
            rw [List.take_of_length_le (by rw [hok.knows.1]; omega)] at hown hnl
            obtain ⟨l2, hl2⟩ : ∃ l2, l2 = l1 ++ (H.knows.map num).flatten := ⟨_, rfl⟩
            rw [← hl2] at hown
            have hlen2 : l2.length ≤ 500 := by rw [hl2, List.length_append]; have := hok.knows.1; omega
            have hfin : coreB H = (l2 ++ H.sum) ++ num sn := by rw [HCO.out, hl2, HL1.out, HL0.out]
            have HFIN := Lib.hid hfin
            clear hl2 hnl hfin
            go_wp2_with (first
      | ((with_reducible refine at_d 74 ?_); go_loud (refine wl_fld (r := 60) fld34_9 rfl rfl rfl rfl (hk := ?_)))
      | ((with_reducible refine at_d 76 ?_); go_loud (refine wl_append rfl rfl elt35 rfl rfl hown (L := [(b1, blk 125 (hF H (.slice ad H.toks.length cap)) 34)]) hst (Src.of_bs (HSU.out _ _ hst b1 (List.mem_append_right _ (List.mem_cons_self ..)))) (by intro h; cases h) (by intro j _; rfl) (by have n1 := N1.out; have n2 := N2.out; have n3 := N3.out; have n4 := N4.out; have n5 := N5.out; have n6 := N6.out; have n7 := N7.out; have n8 := N8.out; have n9 := N9.out; (try simp only [List.length_append]); (try simp only [List.length_cons]); (try simp only [List.length_nil]); omega) (by show _ ≤ maxLen; unfold maxLen; have n1 := N1.out; have n2 := N2.out; have n3 := N3.out; have n4 := N4.out; have n5 := N5.out; have n6 := N6.out; have n7 := N7.out; have n8 := N8.out; have n9 := N9.out; (try simp only [List.length_append]); (try simp only [List.length_cons]); (try simp only [List.length_nil]); omega) ?_; intro v76 w76 E76 hown76 hst76 _; have hst0 := hst76; clear hst hst76; have hst := hst0; clear hst0; replace hown := ap_own N8.out hown76; clear hown76; have hb1' := HB1.out _ _ b1 hst (by first | exact List.mem_cons_self .. | exact List.mem_append_right _ (List.mem_cons_self ..) | exact List.mem_append_right _ (List.mem_append_right _ (List.mem_cons_self ..)))))
      | ((with_reducible refine at_d 78 ?_); go_loud (refine wl_fld (r := 92) fld34_10 rfl rfl rfl rfl (hk := ?_)))
      | ((with_reducible refine at_d 79 ?_); go_loud (refine wl_load1v rfl rfl rfl (hs := sc3) (hk := ?_)))
      | ((with_reducible refine at_d 81 ?_); go_loud (rw [ES.out]; refine wl_call pl75 rfl rfl rfl (refnum_any sn _ (by omega)) ?_; rintro v81 w81 ⟨N81, nown81, hst81⟩; have hst0 := (hst.call hst81).perm (pm3 (C := [(b1, blk 125 (hF H (.slice ad H.toks.length cap)) 34)])); clear hst hst81; have hst := hst0; clear hst0; have nown := nown81; obtain ⟨na81, nc81, rfl, _, _, nz81⟩ := nown.slice; clear nown; have hb1' := HB1.out _ _ b1 hst (by first | exact List.mem_cons_self .. | exact List.mem_append_right _ (List.mem_cons_self ..) | exact List.mem_append_right _ (List.mem_append_right _ (List.mem_cons_self ..)))))
      | ((with_reducible refine at_d 82 ?_); go_loud (refine wl_append rfl rfl elt35 rfl rfl hown (L := (N81 ++ [(b1, blk 125 (hF H (.slice ad H.toks.length cap)) 34)])) hst (Src.of_bs (bs_ownp nown81 (num_lt _) (fun p hp => hst.own p (List.mem_append_right _ (List.mem_append_left _ hp))))) (fun e => (nz81 e).1) (by intro j _; rfl) (by have n1 := N1.out; have n2 := N2.out; have n3 := N3.out; have n4 := N4.out; have n5 := N5.out; have n6 := N6.out; have n7 := N7.out; have n8 := N8.out; have n9 := N9.out; (try simp only [List.length_append]); (try simp only [List.length_cons]); (try simp only [List.length_nil]); omega) (by show _ ≤ maxLen; unfold maxLen; have n1 := N1.out; have n2 := N2.out; have n3 := N3.out; have n4 := N4.out; have n5 := N5.out; have n6 := N6.out; have n7 := N7.out; have n8 := N8.out; have n9 := N9.out; (try simp only [List.length_append]); (try simp only [List.length_cons]); (try simp only [List.length_nil]); omega) ?_; intro v82 w82 E82 hown82 hst82 _; have hst0 := hst82.sub (List.Sublist.append_left (List.sublist_append_right N81 [(b1, blk 125 (hF H (.slice ad H.toks.length cap)) 34)]) _); clear hst hst82; have hst := hst0; clear hst0; replace hown := ap_own rfl hown82; clear hown82; have hb1' := HB1.out _ _ b1 hst (by first | exact List.mem_cons_self .. | exact List.mem_append_right _ (List.mem_cons_self ..) | exact List.mem_append_right _ (List.mem_append_right _ (List.mem_cons_self ..))))))
            go_ret
            exact ⟨_, rfl, E82, by rw [HFIN.out]; exact hown, hst.sub (List.sublist_append_left _ _)⟩
  · subst hcb
    have HCT : Hid (hF H (.slice ad H.toks.length cap) 35 = .bool false) := by show Value.bool H.control = _; rw [hct]
    clear hct HC
    go_enter Tryd.func53, Tryd.ntmps53
    have hst := St.refl w
    go_wp2_with (first
      | ((with_reducible refine at_d 1 ?_); go_loud (refine wl_box rfl rfl rfl (by first | rfl | exact row_one _) hst ?_; clear hst; intro b1 w1 hb1 hst))
      | ((with_reducible refine at_d 7 ?_); go_loud (refine wl_fld (r := 0) fld34_0 rfl rfl rfl rfl (hk := ?_)))
      | ((with_reducible refine at_d 8 ?_); go_loud (refine wl_load1v rfl rfl rfl (hs := sc3) (hk := ?_)))
      | ((with_reducible refine at_d 10 ?_); go_loud (rw [EW.out]; refine wl_call pl75 rfl rfl rfl (refnum_any wn _ (by omega)) ?_; rintro v10 w10 ⟨E10, hown, hst10⟩; have hst0 := hst.call hst10; clear hst hst10; have hst := hst0; clear hst0; have hb1' := HB1.out _ _ b1 hst (by first | exact List.mem_cons_self .. | exact List.mem_append_right _ (List.mem_cons_self ..) | exact List.mem_append_right _ (List.mem_append_right _ (List.mem_cons_self ..)))))
      | ((with_reducible refine at_d 12 ?_); go_loud (refine wl_fld (r := 1) fld34_1 rfl rfl rfl rfl (hk := ?_)))
      | ((with_reducible refine at_d 13 ?_); go_loud (refine wl_load1v rfl rfl rfl (hs := sc26) (hk := ?_)))
      | ((with_reducible refine at_d 14 ?_); go_loud (refine wl_call pl75 rfl rfl rfl (refnum_any H.seq _ HSQ.out) ?_; rintro v14 w14 ⟨N14, nown14, hst14⟩; have hst0 := (hst.call hst14).perm (pm3 (C := [(b1, blk 125 (hF H (.slice ad H.toks.length cap)) 34)])); clear hst hst14; have hst := hst0; clear hst0; have nown := nown14; obtain ⟨na14, nc14, rfl, _, _, nz14⟩ := nown.slice; clear nown; have hb1' := HB1.out _ _ b1 hst (by first | exact List.mem_cons_self .. | exact List.mem_append_right _ (List.mem_cons_self ..) | exact List.mem_append_right _ (List.mem_append_right _ (List.mem_cons_self ..)))))
      | ((with_reducible refine at_d 15 ?_); go_loud (refine wl_append rfl rfl elt35 rfl rfl hown (L := (N14 ++ [(b1, blk 125 (hF H (.slice ad H.toks.length cap)) 34)])) hst (Src.of_bs (bs_ownp nown14 (num_lt _) (fun p hp => hst.own p (List.mem_append_right _ (List.mem_append_left _ hp))))) (fun e => (nz14 e).1) (by intro j _; rfl) (by have n1 := N1.out; have n2 := N2.out; have n3 := N3.out; have n4 := N4.out; have n5 := N5.out; have n6 := N6.out; have n7 := N7.out; have n8 := N8.out; have n9 := N9.out; (try simp only [List.length_append]); (try simp only [List.length_cons]); (try simp only [List.length_nil]); omega) (by show _ ≤ maxLen; unfold maxLen; have n1 := N1.out; have n2 := N2.out; have n3 := N3.out; have n4 := N4.out; have n5 := N5.out; have n6 := N6.out; have n7 := N7.out; have n8 := N8.out; have n9 := N9.out; (try simp only [List.length_append]); (try simp only [List.length_cons]); (try simp only [List.length_nil]); omega) ?_; intro v15 w15 E15 hown15 hst15 _; have hst0 := hst15.sub (List.Sublist.append_left (List.sublist_append_right N14 [(b1, blk 125 (hF H (.slice ad H.toks.length cap)) 34)]) _); clear hst hst15; have hst := hst0; clear hst0; replace hown := ap_own rfl hown15; clear hown15; have hb1' := HB1.out _ _ b1 hst (by first | exact List.mem_cons_self .. | exact List.mem_append_right _ (List.mem_cons_self ..) | exact List.mem_append_right _ (List.mem_append_right _ (List.mem_cons_self ..)))))
      | ((with_reducible refine at_d 17 ?_); go_loud (refine wl_fld (r := 2) fld34_2 rfl rfl rfl rfl (hk := ?_)))
      | ((with_reducible refine at_d 19 ?_); go_loud (refine wl_append rfl rfl elt35 rfl rfl hown (L := [(b1, blk 125 (hF H (.slice ad H.toks.length cap)) 34)]) hst (Src.of_bs (HP.out _ _ hst b1 (List.mem_append_right _ (List.mem_cons_self ..)))) (by intro h; cases h) (by intro j _; rfl) (by have n1 := N1.out; have n2 := N2.out; have n3 := N3.out; have n4 := N4.out; have n5 := N5.out; have n6 := N6.out; have n7 := N7.out; have n8 := N8.out; have n9 := N9.out; (try simp only [List.length_append]); (try simp only [List.length_cons]); (try simp only [List.length_nil]); omega) (by show _ ≤ maxLen; unfold maxLen; have n1 := N1.out; have n2 := N2.out; have n3 := N3.out; have n4 := N4.out; have n5 := N5.out; have n6 := N6.out; have n7 := N7.out; have n8 := N8.out; have n9 := N9.out; (try simp only [List.length_append]); (try simp only [List.length_cons]); (try simp only [List.length_nil]); omega) ?_; intro v19 w19 E19 hown19 hst19 _; have hst0 := hst19; clear hst hst19; have hst := hst0; clear hst0; replace hown := ap_own N3.out hown19; clear hown19; have hb1' := HB1.out _ _ b1 hst (by first | exact List.mem_cons_self .. | exact List.mem_append_right _ (List.mem_cons_self ..) | exact List.mem_append_right _ (List.mem_append_right _ (List.mem_cons_self ..)))))
      | ((with_reducible refine at_d 21 ?_); go_loud (refine wl_fld (r := 34) fld34_3 rfl rfl rfl rfl (hk := ?_)))
      | ((with_reducible refine at_d 22 ?_); go_loud (refine wl_load1v rfl rfl rfl (hs := sc3) (hk := ?_)))
      | ((with_reducible refine at_d 24 ?_); go_loud (rw [EE.out]; refine wl_call pl75 rfl rfl rfl (refnum_any en _ (by omega)) ?_; rintro v24 w24 ⟨N24, nown24, hst24⟩; have hst0 := (hst.call hst24).perm (pm3 (C := [(b1, blk 125 (hF H (.slice ad H.toks.length cap)) 34)])); clear hst hst24; have hst := hst0; clear hst0; have nown := nown24; obtain ⟨na24, nc24, rfl, _, _, nz24⟩ := nown.slice; clear nown; have hb1' := HB1.out _ _ b1 hst (by first | exact List.mem_cons_self .. | exact List.mem_append_right _ (List.mem_cons_self ..) | exact List.mem_append_right _ (List.mem_append_right _ (List.mem_cons_self ..)))))
      | ((with_reducible refine at_d 25 ?_); go_loud (refine wl_append rfl rfl elt35 rfl rfl hown (L := (N24 ++ [(b1, blk 125 (hF H (.slice ad H.toks.length cap)) 34)])) hst (Src.of_bs (bs_ownp nown24 (num_lt _) (fun p hp => hst.own p (List.mem_append_right _ (List.mem_append_left _ hp))))) (fun e => (nz24 e).1) (by intro j _; rfl) (by have n1 := N1.out; have n2 := N2.out; have n3 := N3.out; have n4 := N4.out; have n5 := N5.out; have n6 := N6.out; have n7 := N7.out; have n8 := N8.out; have n9 := N9.out; (try simp only [List.length_append]); (try simp only [List.length_cons]); (try simp only [List.length_nil]); omega) (by show _ ≤ maxLen; unfold maxLen; have n1 := N1.out; have n2 := N2.out; have n3 := N3.out; have n4 := N4.out; have n5 := N5.out; have n6 := N6.out; have n7 := N7.out; have n8 := N8.out; have n9 := N9.out; (try simp only [List.length_append]); (try simp only [List.length_cons]); (try simp only [List.length_nil]); omega) ?_; intro v25 w25 E25 hown25 hst25 _; have hst0 := hst25.sub (List.Sublist.append_left (List.sublist_append_right N24 [(b1, blk 125 (hF H (.slice ad H.toks.length cap)) 34)]) _); clear hst hst25; have hst := hst0; clear hst0; replace hown := ap_own rfl hown25; clear hown25; have hb1' := HB1.out _ _ b1 hst (by first | exact List.mem_cons_self .. | exact List.mem_append_right _ (List.mem_cons_self ..) | exact List.mem_append_right _ (List.mem_append_right _ (List.mem_cons_self ..)))))
      | ((with_reducible refine at_d 26 ?_); go_loud (refine wl_fld (r := 35) fld34_4 rfl rfl rfl rfl (hk := ?_)))
      | ((with_reducible refine at_d 27 ?_); go_loud (refine wl_load1v rfl rfl rfl (by first | exact St.hasb hst (by repeat (first | exact Pick.head | apply Pick.tail)) | exact St.hasOld hst (by assumption) (by simp) | assumption) HCT.out (by omega) sc4 (hk := ?_)))
      | ((with_reducible refine at_d 30 ?_); go_loud (refine wl_buildSlice1 rfl rfl elt35 (by decide) (by (conv => lhs; whnf) <;> rfl) (by first | exact row_one _ | rfl) hst ?_; clear hst; intro b30 w30 hb30 hst))
      | ((with_reducible refine at_d 31 ?_); go_loud (have hst0 : St w [] (E25 ++ ((b30, blk 1 (fun _ => nB 0) 5) :: [(b1, blk 125 (hF H (.slice ad H.toks.length cap)) 34)])) _ := hst.perm List.perm_middle.symm; clear hst; have hst := hst0; clear hst0; refine wl_append rfl rfl elt35 rfl rfl hown (L := ([(b30, blk 1 (fun _ => nB 0) 5)] ++ [(b1, blk 125 (hF H (.slice ad H.toks.length cap)) 34)])) hst (Src.of_bs (byte_bs hst (List.mem_append_right E25 (List.mem_cons_self ..)) (by decide))) (by intro h; cases h) (by intro j _; rfl) (by have n1 := N1.out; have n2 := N2.out; have n3 := N3.out; have n4 := N4.out; have n5 := N5.out; have n6 := N6.out; have n7 := N7.out; have n8 := N8.out; have n9 := N9.out; (try simp only [List.length_append]); (try simp only [List.length_cons]); (try simp only [List.length_nil]); omega) (by show _ ≤ maxLen; unfold maxLen; have n1 := N1.out; have n2 := N2.out; have n3 := N3.out; have n4 := N4.out; have n5 := N5.out; have n6 := N6.out; have n7 := N7.out; have n8 := N8.out; have n9 := N9.out; (try simp only [List.length_append]); (try simp only [List.length_cons]); (try simp only [List.length_nil]); omega) ?_; intro v31 w31 E31 hown31 hst31 _; have hst0 := hst31.sub (List.Sublist.append_left (List.sublist_append_right [(b30, blk 1 (fun _ => nB 0) 5)] [(b1, blk 125 (hF H (.slice ad H.toks.length cap)) 34)]) _); clear hst hst31; have hst := hst0; clear hst0; replace hown := ap_own (show [0].length = 1 from rfl) hown31; clear hown31; have hb1' := HB1.out _ _ b1 hst (by first | exact List.mem_cons_self .. | exact List.mem_append_right _ (List.mem_cons_self ..) | exact List.mem_append_right _ (List.mem_append_right _ (List.mem_cons_self ..)))))
      | ((with_reducible refine at_d 33 ?_); go_loud (refine wl_fld (r := 36) fld34_5 rfl rfl rfl rfl (hk := ?_)))
      | ((with_reducible refine at_d 34 ?_); go_loud (refine wl_load1v rfl rfl rfl (hs := sc26) (hk := ?_)))
      | ((with_reducible refine at_d 35 ?_); go_loud (refine wl_call pl75 rfl rfl rfl (refnum_any H.time _ HTI.out) ?_; rintro v35 w35 ⟨N35, nown35, hst35⟩; have hst0 := (hst.call hst35).perm (pm3 (C := [(b1, blk 125 (hF H (.slice ad H.toks.length cap)) 34)])); clear hst hst35; have hst := hst0; clear hst0; have nown := nown35; obtain ⟨na35, nc35, rfl, _, _, nz35⟩ := nown.slice; clear nown; have hb1' := HB1.out _ _ b1 hst (by first | exact List.mem_cons_self .. | exact List.mem_append_right _ (List.mem_cons_self ..) | exact List.mem_append_right _ (List.mem_append_right _ (List.mem_cons_self ..)))))
      | ((with_reducible refine at_d 36 ?_); go_loud (refine wl_append rfl rfl elt35 rfl rfl hown (L := (N35 ++ [(b1, blk 125 (hF H (.slice ad H.toks.length cap)) 34)])) hst (Src.of_bs (bs_ownp nown35 (num_lt _) (fun p hp => hst.own p (List.mem_append_right _ (List.mem_append_left _ hp))))) (fun e => (nz35 e).1) (by intro j _; rfl) (by have n1 := N1.out; have n2 := N2.out; have n3 := N3.out; have n4 := N4.out; have n5 := N5.out; have n6 := N6.out; have n7 := N7.out; have n8 := N8.out; have n9 := N9.out; (try simp only [List.length_append]); (try simp only [List.length_cons]); (try simp only [List.length_nil]); omega) (by show _ ≤ maxLen; unfold maxLen; have n1 := N1.out; have n2 := N2.out; have n3 := N3.out; have n4 := N4.out; have n5 := N5.out; have n6 := N6.out; have n7 := N7.out; have n8 := N8.out; have n9 := N9.out; (try simp only [List.length_append]); (try simp only [List.length_cons]); (try simp only [List.length_nil]); omega) ?_; intro v36 w36 E36 hown36 hst36 _; have hst0 := hst36.sub (List.Sublist.append_left (List.sublist_append_right N35 [(b1, blk 125 (hF H (.slice ad H.toks.length cap)) 34)]) _); clear hst hst36; have hst := hst0; clear hst0; replace hown := ap_own rfl hown36; clear hown36; have hb1' := HB1.out _ _ b1 hst (by first | exact List.mem_cons_self .. | exact List.mem_append_right _ (List.mem_cons_self ..) | exact List.mem_append_right _ (List.mem_append_right _ (List.mem_cons_self ..)))))
      | ((with_reducible refine at_d 38 ?_); go_loud (refine wl_fld (r := 37) fld34_6 rfl rfl rfl rfl (hk := ?_)))
      | ((with_reducible refine at_d 40 ?_); go_loud (refine wl_append rfl rfl elt35 rfl rfl hown (L := [(b1, blk 125 (hF H (.slice ad H.toks.length cap)) 34)]) hst (Src.of_bs (HI.out _ _ hst b1 (List.mem_append_right _ (List.mem_cons_self ..)))) (by intro h; cases h) (by intro j _; rfl) (by have n1 := N1.out; have n2 := N2.out; have n3 := N3.out; have n4 := N4.out; have n5 := N5.out; have n6 := N6.out; have n7 := N7.out; have n8 := N8.out; have n9 := N9.out; (try simp only [List.length_append]); (try simp only [List.length_cons]); (try simp only [List.length_nil]); omega) (by show _ ≤ maxLen; unfold maxLen; have n1 := N1.out; have n2 := N2.out; have n3 := N3.out; have n4 := N4.out; have n5 := N5.out; have n6 := N6.out; have n7 := N7.out; have n8 := N8.out; have n9 := N9.out; (try simp only [List.length_append]); (try simp only [List.length_cons]); (try simp only [List.length_nil]); omega) ?_; intro v40 w40 E40 hown40 hst40 _; have hst0 := hst40; clear hst hst40; have hst := hst0; clear hst0; replace hown := ap_own N6.out hown40; clear hown40; have hb1' := HB1.out _ _ b1 hst (by first | exact List.mem_cons_self .. | exact List.mem_append_right _ (List.mem_cons_self ..) | exact List.mem_append_right _ (List.mem_append_right _ (List.mem_cons_self ..)))))
      | ((with_reducible refine at_d 42 ?_); go_loud (refine wl_fld (r := 53) fld34_7 rfl rfl rfl rfl (hk := ?_)))
      | ((with_reducible refine at_d 43 ?_); go_loud (refine wl_load1v rfl rfl rfl (hs := sc31) (hk := ?_)))
      | ((with_reducible refine at_d 46 ?_); go_loud (refine wl_call pl75 rfl rfl rfl (refnum_any H.toks.length _ (by omega)) ?_; rintro v46 w46 ⟨N46, nown46, hst46⟩; have hst0 := (hst.call hst46).perm (pm3 (C := [(b1, blk 125 (hF H (.slice ad H.toks.length cap)) 34)])); clear hst hst46; have hst := hst0; clear hst0; have nown := nown46; obtain ⟨na46, nc46, rfl, _, _, nz46⟩ := nown.slice; clear nown; have hb1' := HB1.out _ _ b1 hst (by first | exact List.mem_cons_self .. | exact List.mem_append_right _ (List.mem_cons_self ..) | exact List.mem_append_right _ (List.mem_append_right _ (List.mem_cons_self ..)))))
      | ((with_reducible refine at_d 47 ?_); go_loud (refine wl_append rfl rfl elt35 rfl rfl hown (L := (N46 ++ [(b1, blk 125 (hF H (.slice ad H.toks.length cap)) 34)])) hst (Src.of_bs (bs_ownp nown46 (num_lt _) (fun p hp => hst.own p (List.mem_append_right _ (List.mem_append_left _ hp))))) (fun e => (nz46 e).1) (by intro j _; rfl) (by have n1 := N1.out; have n2 := N2.out; have n3 := N3.out; have n4 := N4.out; have n5 := N5.out; have n6 := N6.out; have n7 := N7.out; have n8 := N8.out; have n9 := N9.out; (try simp only [List.length_append]); (try simp only [List.length_cons]); (try simp only [List.length_nil]); omega) (by show _ ≤ maxLen; unfold maxLen; have n1 := N1.out; have n2 := N2.out; have n3 := N3.out; have n4 := N4.out; have n5 := N5.out; have n6 := N6.out; have n7 := N7.out; have n8 := N8.out; have n9 := N9.out; (try simp only [List.length_append]); (try simp only [List.length_cons]); (try simp only [List.length_nil]); omega) ?_; intro v47 w47 E47 hown47 hst47 _; have hst0 := hst47.sub (List.Sublist.append_left (List.sublist_append_right N46 [(b1, blk 125 (hF H (.slice ad H.toks.length cap)) 34)]) _); clear hst hst47; have hst := hst0; clear hst0; replace hown := ap_own rfl hown47; clear hown47; have hb1' := HB1.out _ _ b1 hst (by first | exact List.mem_cons_self .. | exact List.mem_append_right _ (List.mem_cons_self ..) | exact List.mem_append_right _ (List.mem_append_right _ (List.mem_cons_self ..))))))
    obtain ⟨l0, hl0⟩ : ∃ l0, l0 = (((((((num wn ++ num H.seq) ++ H.prev) ++ num en) ++ [0]) ++ num H.time) ++ H.item) ++ num H.toks.length) := ⟨_, rfl⟩
    rw [← hl0] at hown
    have hlen0 : l0.length ≤ 200 := by
      rw [hl0]
      have n1 := N1.out; have n2 := N2.out; have n3 := N3.out; have n4 := N4.out; have n5 := N5.out; have n6 := N6.out; have n7 := N7.out
      simp only [List.length_append, List.length_cons, List.length_nil]; omega
    have HL0 := Lib.hid hl0
    clear hl0 hb1'
    go_loopw [3, 5] (fun v3 i wr => ∃ (k : Nat) (E' : List (Nat × Obj)), k ≤ H.toks.length ∧ i = .int .i64 (k : Int) ∧ Own 1 5 v3 (l0 ++ (H.toks.take k).flatten).length (bF (l0 ++ (H.toks.take k).flatten)) E' ∧ St w [] (E' ++ [(b1, blk 125 (hF H (.slice ad H.toks.length cap)) 34)]) wr) (fun _ i _ => H.toks.length - (intOf i).toNat)
    case atStart => exact ⟨0, _, by omega, rfl, by simpa using hown, hst⟩
    case round =>
      clear hst hown
      obtain ⟨k, E1, hk, rfl, hown, hst⟩ := hrel
      have hb1' := HB1.out _ _ b1 hst (List.mem_append_right _ (List.mem_cons_self ..))
      by_cases hkl : k < H.toks.length
      · obtain ⟨b, off, N, f, had, hH, hN, hfc⟩ := hc (by intro e; rw [e] at hkl; simp at hkl)
        have HAD := Lib.hid had
        have HA := Lib.hid (tok_cells h16 hkl hfc)
        have hH' := hst.hasOld hH (by simp)
        have it : isB 16 (H.toks.getD k []) := by rw [List.getD_eq_getElem?_getD, List.getElem?_eq_getElem hkl]; exact h16 _ (List.getElem_mem _)
        obtain ⟨t, htt⟩ : ∃ t, t = H.toks.getD k [] := ⟨_, rfl⟩
        have HT : Hid ((H.toks.take (k + 1)).flatten = (H.toks.take k).flatten ++ t) := by show _ = _; rw [htt]; exact flat_snoc' _ _ hkl
        rw [← htt] at HA it
        have hfl : ((H.toks.take k).flatten).length = 16 * k := by rw [toks_flat_len (fun t ht => h16 t (List.mem_of_mem_take ht)), List.length_take]; omega
        have hb1x : Hid (isB 16 t) := it
        obtain ⟨lk, hlk⟩ : ∃ lk, lk = l0 ++ (H.toks.take k).flatten := ⟨_, rfl⟩
        have hbn : lk.length ≤ 400 := by rw [hlk, List.length_append, hfl]; omega
        rw [← hlk] at hown
        have HLK := Lib.hid hlk
        clear htt hfl hfc it hc h16 hnil had hlk
        go_wp2_with (first
      | ((with_reducible refine at_d 49 ?_); go_loud (refine wl_fld (r := 53) fld34_7 rfl rfl rfl rfl (hk := ?_)))
      | ((with_reducible refine at_d 50 ?_); go_loud (refine wl_load1v rfl rfl rfl (hs := sc31) (hk := ?_)))
      | ((with_reducible refine at_d 56 ?_); go_loud (refine wl_fld (r := 53) fld34_7 rfl rfl rfl rfl (hk := ?_)))
      | ((with_reducible refine at_d 57 ?_); go_loud (refine wl_load1v rfl rfl rfl (hs := sc31) (hk := ?_)))
      | ((with_reducible refine at_d 59 ?_); go_loud (refine wl_idx (i := k) (b := b) (off := off) (n := H.toks.length) (c := cap) Tryd.underlying31 siz30 hkl rfl rfl (show Value.slice ad H.toks.length cap = _ by rw [HAD.out]) rfl (hk := ?_)))
      | ((with_reducible refine at_d 61 ?_); go_loud (refine wl_append rfl rfl elt35 rfl rfl hown (L := [(b1, blk 125 (hF H (.slice ad H.toks.length cap)) 34)]) hst (Src.of_bs (tok_bs hH' hb1x.out (by omega) HA.out)) (by intro h; cases h) (by intro j _; rfl) (by have n1 := N1.out; have n2 := N2.out; have n3 := N3.out; have n4 := N4.out; have n5 := N5.out; have n6 := N6.out; have n7 := N7.out; have n8 := N8.out; have n9 := N9.out; (try simp only [List.length_append]); (try simp only [List.length_cons]); (try simp only [List.length_nil]); omega) (by show _ ≤ maxLen; unfold maxLen; have n1 := N1.out; have n2 := N2.out; have n3 := N3.out; have n4 := N4.out; have n5 := N5.out; have n6 := N6.out; have n7 := N7.out; have n8 := N8.out; have n9 := N9.out; (try simp only [List.length_append]); (try simp only [List.length_cons]); (try simp only [List.length_nil]); omega) ?_; intro v61 w61 E61 hown61 hst61 _; have hst0 := hst61; clear hst hst61; have hst := hst0; clear hst0; replace hown := ap_own hb1x.out.1 hown61; clear hown61; have hb1' := HB1.out _ _ b1 hst (by first | exact List.mem_cons_self .. | exact List.mem_append_right _ (List.mem_cons_self ..) | exact List.mem_append_right _ (List.mem_append_right _ (List.mem_cons_self ..))))))
        go_roundw
        case rel => exact ⟨k + 1, E61, by omega, by go_num, by rw [HT.out, ← List.append_assoc, ← HLK.out]; exact hown, hst⟩
        case measure => simp [intOf]; omega
      · obtain rfl : k = H.toks.length := by omega
        rw [List.take_length] at hown
        have hfl : H.toks.flatten.length = 16 * H.toks.length := toks_flat_len h16
        obtain ⟨l1, hl1⟩ : ∃ l1, l1 = l0 ++ H.toks.flatten := ⟨_, rfl⟩
        rw [← hl1] at hown
        have hlen1 : l1.length ≤ 400 := by rw [hl1, List.length_append]; omega
        have HL1 := Lib.hid hl1
        clear hl1 hfl
        go_wp2_with (first
      | ((with_reducible refine at_d 49 ?_); go_loud (refine wl_fld (r := 53) fld34_7 rfl rfl rfl rfl (hk := ?_)))
      | ((with_reducible refine at_d 50 ?_); go_loud (refine wl_load1v rfl rfl rfl (hs := sc31) (hk := ?_))))
        clear hb1'
        go_loopw [3, 6] (fun v3 i wr => ∃ (k : Nat) (E' : List (Nat × Obj)), k ≤ 6 ∧ i = .int .i64 (k : Int) ∧ Own 1 5 v3 (l1 ++ ((H.knows.take k).map num).flatten).length (bF (l1 ++ ((H.knows.take k).map num).flatten)) E' ∧ St w [] (E' ++ [(b1, blk 125 (hF H (.slice ad H.toks.length cap)) 34)]) wr) (fun _ i _ => 6 - (intOf i).toNat)
        case atStart => exact ⟨0, _, by omega, rfl, by simpa using hown, hst⟩
        case round =>
          clear hst hown
          obtain ⟨k, E1, hk, rfl, hown, hst⟩ := hrel
          have hb1' := HB1.out _ _ b1 hst (List.mem_append_right _ (List.mem_cons_self ..))
          have hnl := nums_len (H.knows.take k) (fun x hx => hok.knows.2 x (List.mem_of_mem_take hx))
          rw [List.length_take] at hnl
          by_cases hk6 : k < 6
          · obtain ⟨x, hx⟩ : ∃ x, x = H.knows.getD k 0 := ⟨_, rfl⟩
            have HX : Hid (hF H (.slice ad H.toks.length cap) (54 + 1 * k) = .int .u64 (x : Int)) := by show _ = _; rw [Nat.one_mul, hF_knows H _ k hk6, kF, hx]
            have hx64 : x < 18446744073709551616 := by
              rw [hx, List.getD_eq_getElem?_getD, List.getElem?_eq_getElem (by rw [hok.knows.1]; exact hk6)]
              exact hok.knows.2 _ (List.getElem_mem _)
            have HT : Hid (((H.knows.take (k + 1)).map num).flatten = ((H.knows.take k).map num).flatten ++ num x) := by
              show _ = _
              rw [hx, List.take_succ_eq_append_getElem (by rw [hok.knows.1]; exact hk6), List.map_append, List.flatten_append, List.getD_eq_getElem?_getD, List.getElem?_eq_getElem (by rw [hok.knows.1]; exact hk6)]
              simp
            have hnx : (num x).length ≤ 10 := num_len_le 9 x (by have : (18446744073709551616 : Nat) ≤ 128 ^ (9 + 1) := by decide
                                                                 omega)
            have hbn : (l1 ++ ((H.knows.take k).map num).flatten).length ≤ 100000 := by rw [List.length_append]; omega
            obtain ⟨l2, hl2⟩ : ∃ l2, l2 = l1 ++ ((H.knows.take k).map num).flatten := ⟨_, rfl⟩
            rw [← hl2] at hown hbn
            have HL2 := Lib.hid hl2
            clear hx hnl hl2
            go_wp2_with (first
      | ((with_reducible refine at_d 68 ?_); go_loud (refine wl_fld (r := 54) fld34_8 rfl rfl rfl rfl (hk := ?_)))
      | ((with_reducible refine at_d 69 ?_); go_loud (refine wl_idxA (i := k) Tryd.underlying32 sc12.size hk6 rfl rfl rfl rfl (hk := ?_)))
      | ((with_reducible refine at_d 70 ?_); go_loud (refine wl_load1v rfl rfl rfl (by first | exact St.hasb hst (by repeat (first | exact Pick.head | apply Pick.tail)) | exact St.hasOld hst (by assumption) (by simp) | assumption) HX.out (by omega) sc12 (hk := ?_)))
      | ((with_reducible refine at_d 71 ?_); go_loud (refine wl_call pl75 rfl rfl rfl (refnum_any x _ hx64) ?_; rintro v71 w71 ⟨N71, nown71, hst71⟩; have hst0 := (hst.call hst71).perm (pm3 (C := [(b1, blk 125 (hF H (.slice ad H.toks.length cap)) 34)])); clear hst hst71; have hst := hst0; clear hst0; have nown := nown71; obtain ⟨na71, nc71, rfl, _, _, nz71⟩ := nown.slice; clear nown; have hb1' := HB1.out _ _ b1 hst (by first | exact List.mem_cons_self .. | exact List.mem_append_right _ (List.mem_cons_self ..) | exact List.mem_append_right _ (List.mem_append_right _ (List.mem_cons_self ..)))))
      | ((with_reducible refine at_d 72 ?_); go_loud (refine wl_append rfl rfl elt35 rfl rfl hown (L := (N71 ++ [(b1, blk 125 (hF H (.slice ad H.toks.length cap)) 34)])) hst (Src.of_bs (bs_ownp nown71 (num_lt _) (fun p hp => hst.own p (List.mem_append_right _ (List.mem_append_left _ hp))))) (fun e => (nz71 e).1) (by intro j _; rfl) (by have n1 := N1.out; have n2 := N2.out; have n3 := N3.out; have n4 := N4.out; have n5 := N5.out; have n6 := N6.out; have n7 := N7.out; have n8 := N8.out; have n9 := N9.out; (try simp only [List.length_append]); (try simp only [List.length_cons]); (try simp only [List.length_nil]); omega) (by show _ ≤ maxLen; unfold maxLen; have n1 := N1.out; have n2 := N2.out; have n3 := N3.out; have n4 := N4.out; have n5 := N5.out; have n6 := N6.out; have n7 := N7.out; have n8 := N8.out; have n9 := N9.out; (try simp only [List.length_append]); (try simp only [List.length_cons]); (try simp only [List.length_nil]); omega) ?_; intro v72 w72 E72 hown72 hst72 _; have hst0 := hst72.sub (List.Sublist.append_left (List.sublist_append_right N71 [(b1, blk 125 (hF H (.slice ad H.toks.length cap)) 34)]) _); clear hst hst72; have hst := hst0; clear hst0; replace hown := ap_own rfl hown72; clear hown72; have hb1' := HB1.out _ _ b1 hst (by first | exact List.mem_cons_self .. | exact List.mem_append_right _ (List.mem_cons_self ..) | exact List.mem_append_right _ (List.mem_append_right _ (List.mem_cons_self ..))))))
            go_roundw
            case rel => exact ⟨k + 1, E72, by omega, by go_num, by rw [HT.out, ← List.append_assoc, ← HL2.out]; exact hown, hst⟩
            case measure => simp [intOf]; omega
          · obtain rfl : k = 6 := by omega
            rw [List.take_of_length_le (by rw [hok.knows.1]; omega)] at hown hnl
            obtain ⟨l2, hl2⟩ : ∃ l2, l2 = l1 ++ (H.knows.map num).flatten := ⟨_, rfl⟩
            rw [← hl2] at hown
            have hlen2 : l2.length ≤ 500 := by rw [hl2, List.length_append]; have := hok.knows.1; omega
            have hfin : coreB H = (l2 ++ H.sum) ++ num sn := by rw [HCO.out, hl2, HL1.out, HL0.out]
            have HFIN := Lib.hid hfin
            clear hl2 hnl hfin
            go_wp2_with (first
      | ((with_reducible refine at_d 74 ?_); go_loud (refine wl_fld (r := 60) fld34_9 rfl rfl rfl rfl (hk := ?_)))
      | ((with_reducible refine at_d 76 ?_); go_loud (refine wl_append rfl rfl elt35 rfl rfl hown (L := [(b1, blk 125 (hF H (.slice ad H.toks.length cap)) 34)]) hst (Src.of_bs (HSU.out _ _ hst b1 (List.mem_append_right _ (List.mem_cons_self ..)))) (by intro h; cases h) (by intro j _; rfl) (by have n1 := N1.out; have n2 := N2.out; have n3 := N3.out; have n4 := N4.out; have n5 := N5.out; have n6 := N6.out; have n7 := N7.out; have n8 := N8.out; have n9 := N9.out; (try simp only [List.length_append]); (try simp only [List.length_cons]); (try simp only [List.length_nil]); omega) (by show _ ≤ maxLen; unfold maxLen; have n1 := N1.out; have n2 := N2.out; have n3 := N3.out; have n4 := N4.out; have n5 := N5.out; have n6 := N6.out; have n7 := N7.out; have n8 := N8.out; have n9 := N9.out; (try simp only [List.length_append]); (try simp only [List.length_cons]); (try simp only [List.length_nil]); omega) ?_; intro v76 w76 E76 hown76 hst76 _; have hst0 := hst76; clear hst hst76; have hst := hst0; clear hst0; replace hown := ap_own N8.out hown76; clear hown76; have hb1' := HB1.out _ _ b1 hst (by first | exact List.mem_cons_self .. | exact List.mem_append_right _ (List.mem_cons_self ..) | exact List.mem_append_right _ (List.mem_append_right _ (List.mem_cons_self ..)))))
      | ((with_reducible refine at_d 78 ?_); go_loud (refine wl_fld (r := 92) fld34_10 rfl rfl rfl rfl (hk := ?_)))
      | ((with_reducible refine at_d 79 ?_); go_loud (refine wl_load1v rfl rfl rfl (hs := sc3) (hk := ?_)))
      | ((with_reducible refine at_d 81 ?_); go_loud (rw [ES.out]; refine wl_call pl75 rfl rfl rfl (refnum_any sn _ (by omega)) ?_; rintro v81 w81 ⟨N81, nown81, hst81⟩; have hst0 := (hst.call hst81).perm (pm3 (C := [(b1, blk 125 (hF H (.slice ad H.toks.length cap)) 34)])); clear hst hst81; have hst := hst0; clear hst0; have nown := nown81; obtain ⟨na81, nc81, rfl, _, _, nz81⟩ := nown.slice; clear nown; have hb1' := HB1.out _ _ b1 hst (by first | exact List.mem_cons_self .. | exact List.mem_append_right _ (List.mem_cons_self ..) | exact List.mem_append_right _ (List.mem_append_right _ (List.mem_cons_self ..)))))
      | ((with_reducible refine at_d 82 ?_); go_loud (refine wl_append rfl rfl elt35 rfl rfl hown (L := (N81 ++ [(b1, blk 125 (hF H (.slice ad H.toks.length cap)) 34)])) hst (Src.of_bs (bs_ownp nown81 (num_lt _) (fun p hp => hst.own p (List.mem_append_right _ (List.mem_append_left _ hp))))) (fun e => (nz81 e).1) (by intro j _; rfl) (by have n1 := N1.out; have n2 := N2.out; have n3 := N3.out; have n4 := N4.out; have n5 := N5.out; have n6 := N6.out; have n7 := N7.out; have n8 := N8.out; have n9 := N9.out; (try simp only [List.length_append]); (try simp only [List.length_cons]); (try simp only [List.length_nil]); omega) (by show _ ≤ maxLen; unfold maxLen; have n1 := N1.out; have n2 := N2.out; have n3 := N3.out; have n4 := N4.out; have n5 := N5.out; have n6 := N6.out; have n7 := N7.out; have n8 := N8.out; have n9 := N9.out; (try simp only [List.length_append]); (try simp only [List.length_cons]); (try simp only [List.length_nil]); omega) ?_; intro v82 w82 E82 hown82 hst82 _; have hst0 := hst82.sub (List.Sublist.append_left (List.sublist_append_right N81 [(b1, blk 125 (hF H (.slice ad H.toks.length cap)) 34)]) _); clear hst hst82; have hst := hst0; clear hst0; replace hown := ap_own rfl hown82; clear hown82; have hb1' := HB1.out _ _ b1 hst (by first | exact List.mem_cons_self .. | exact List.mem_append_right _ (List.mem_cons_self ..) | exact List.mem_append_right _ (List.mem_append_right _ (List.mem_cons_self ..))))))
            go_ret
            exact ⟨_, rfl, E82, by rw [HFIN.out]; exact hown, hst.sub (List.sublist_append_left _ _)⟩
end Go.Proofs.YthbobmpeaemdnaaDoor
