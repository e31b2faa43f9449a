/- The walk of writer.Chain.Add. -/
import Derived.Test.YthbobmpeaemdnaaDoorAsk1
namespace Go.Proofs.YthbobmpeaemdnaaDoor
open Go.RowKit Go.Jal
/-- a header's cells in a slice's block, its tokens among the blocks ET -/
def HdIn (ET : List (Nat × Obj)) (g : Nat → Value) (i : Nat) (H : Hdr) : Prop :=
  ∃ tok Et, (∀ c, c < 125 → g (125 * i + c) = hF H tok c) ∧ Own 16 30 tok H.toks.length (bF H.toks.flatten) Et ∧ ∀ p ∈ Et, p ∈ ET
/-- a chain of the caller's own: its block, its headers' block, its tokens' blocks -/
def ChainO (bc : Nat) (wr : Int) (hs : List Hdr) (E : List (Nat × Obj)) : Prop :=
  ∃ hv g EH ET, E = (bc, blk 34 (cF wr hv (tipOf hs)) 92) :: (EH ++ ET) ∧ Own 125 34 hv hs.length g EH ∧ (∀ i H, hs[i]? = some H → H.Ok ∧ formed H = true ∧ HdIn ET g i H) ∧ hs.length ≤ 1000 ∧ -9223372036854775808 ≤ wr ∧ wr ≤ 9223372036854775807
theorem ChainO.read {bc : Nat} {wr : Int} {hs : List Hdr} {E : List (Nat × Obj)} {w : World} (h : ChainO bc wr hs E) (hE : ∀ p ∈ E, w.heap[p.1]? = some p.2) : ChainR w bc wr hs := by
  obtain ⟨hv, g, EH, ET, rfl, hown, hel, hl, h1, h2⟩ := h
  refine ⟨hv, ⟨_, _, hE _ (List.mem_cons_self ..)⟩, ?_, hl, fun H hH => ?_, h1, h2⟩
  · rcases hown with ⟨rfl, hz, rfl⟩ | ⟨b, cap, f, rfl, hc, hm, rfl, hf⟩
    · have : hs = [] := List.length_eq_zero_iff.1 hz
      subst this
      exact ⟨none, 0, rfl, Nat.le_refl _, by simp [maxLen], (by intro H h; cases h), fun _ => rfl, fun h => absurd rfl h⟩
    · refine ⟨_, cap, rfl, hc, hm, fun H hH => ?_, (by intro e; cases e), fun _ => ⟨b, 0, cap * 125, f, rfl, ⟨_, _, hE (b, blk (cap * 125) f 34) (by simp)⟩, by omega, fun i H hi => ?_⟩⟩
      · obtain ⟨i, hi⟩ := List.getElem?_of_mem hH
        exact (hel i H hi).1
      · obtain ⟨hok, _, tok, Et, hc1, hto, hsub⟩ := hel i H hi
        have hlt : i < hs.length := (List.getElem?_eq_some_iff.1 hi).1
        refine ⟨tok, toks_ownp hto hok.toks (fun p hp => hE p (by simp [hsub p hp])), fun c hc' => ?_⟩
        rw [show 0 + 125 * i + c = 125 * i + c by omega, hf _ (by omega), hc1 c hc']
  · obtain ⟨i, hi⟩ := List.getElem?_of_mem hH
    exact (hel i H hi).2.1
theorem tipOf_snoc (hs : List Hdr) (H : Hdr) : tipOf (hs ++ [H]) = hashB H := by simp [tipOf]
theorem cF_upd (wr : Int) (hv hv' : Value) (tip : List Nat) (T : TypeId) : blk 34 (upd (cF wr hv tip) 1 hv') T = blk 34 (cF wr hv' tip) T := blk_congr fun j hj => by
  unfold upd
  by_cases c : j = 1
  · subst c; rfl
  · rw [if_neg c]
    unfold cF
    by_cases d : j < 1
    · rw [blt_t d]; rfl
    · rw [blt_f (show 1 ≤ j by omega), blt_f (show 2 ≤ j by omega)]; rfl
theorem cF_blit (wr : Int) (hv : Value) (tip tip' : List Nat) (T : TypeId) : blk 34 (blit (cF wr hv tip) 2 32 (bF tip')) T = blk 34 (cF wr hv tip') T := blk_congr fun j hj => by
  unfold blit cF
  by_cases d : j < 1
  · rw [if_neg (by omega), blt_t d]; rfl
  · rw [blt_f (show 1 ≤ j by omega)]
    by_cases e : j < 2
    · rw [if_neg (by omega), blt_t e]; rfl
    · rw [if_pos (by omega), blt_f (show 2 ≤ j by omega)]; rfl
theorem Pick.app {b : Nat} {o : Obj} {L L' : List (Nat × Obj)} (h : Pick L b o L') : ∀ A : List (Nat × Obj), Pick (A ++ L) b o (A ++ L')
  | [] => h
  | _ :: A => .tail (Pick.app h A)
theorem pmA {α : Type} (x y z : α) (A B C : List α) : (x :: (A ++ (y :: z :: (B ++ C)))).Perm (B ++ (x :: (A ++ (y :: z :: C)))) := by
  have e1 : x :: (A ++ (y :: z :: (B ++ C))) = (x :: (A ++ [y, z])) ++ (B ++ C) := by simp
  have e2 : B ++ (x :: (A ++ (y :: z :: C))) = B ++ ((x :: (A ++ [y, z])) ++ C) := by simp
  rw [e1, e2, ← List.append_assoc, ← List.append_assoc]
  exact List.perm_append_comm.append_right _
theorem pmB {α : Type} (x y z : α) (A B C : List α) : (x :: (A ++ (y :: (B ++ (z :: C))))).Perm (y :: x :: z :: (A ++ (B ++ C))) := by
  refine .trans (.cons x (.trans List.perm_middle (.cons y ((List.perm_middle.append_left A).trans List.perm_middle)))) (.swap y x _)
theorem own_one {z : Nat} {e : TypeId} {v : Value} {n : Nat} {g : Nat → Value} {E : List (Nat × Obj)} (h : Own z e v n g E) : v.oneCell' = true := by
  obtain ⟨ad, c, rfl, _⟩ := h.slice
  rfl
theorem ChainO.snoc {bc : Nat} {wr : Int} {hs : List Hdr} {H : Hdr} {v t : Value} {g : Nat → Value} {EH ET Et : List (Nat × Obj)} (hown : Own 125 34 v (hs.length + 1) (glue (hs.length * 125) g (hF H t)) EH)
    (hel : ∀ i H, hs[i]? = some H → H.Ok ∧ formed H = true ∧ HdIn ET g i H) (hok : H.Ok) (hf : formed H = true) (ht : Own 16 30 t H.toks.length (bF H.toks.flatten) Et) (hl : hs.length < 1000) (h1 : -9223372036854775808 ≤ wr) (h2 : wr ≤ 9223372036854775807) :
    ChainO bc wr (hs ++ [H]) ((bc, blk 34 (cF wr v (hashB H)) 92) :: (EH ++ (Et ++ ET))) := by
  refine ⟨v, _, EH, Et ++ ET, by rw [tipOf_snoc], by rw [List.length_append]; exact hown, fun i G hi => ?_, by rw [List.length_append]; simp; omega, h1, h2⟩
  by_cases c : i < hs.length
  · rw [List.getElem?_append_left c] at hi
    obtain ⟨k1, k2, tok, E1, k3, k4, k5⟩ := hel i G hi
    exact ⟨k1, k2, tok, E1, fun j hj => by rw [← k3 j hj]; unfold glue; rw [if_pos (by omega)], k4, fun p hp => List.mem_append_right _ (k5 p hp)⟩
  · have hi2 : i < (hs ++ [H]).length := (List.getElem?_eq_some_iff.1 hi).1
    obtain rfl : i = hs.length := by simp at hi2; omega
    obtain rfl : H = G := by simpa using hi
    exact ⟨hok, hf, t, Et, fun j hj => by unfold glue; rw [if_neg (by omega)]; congr 1; omega, ht, fun p hp => List.mem_append_left _ hp⟩
theorem ask_formed {wr : Int} {hs : List Hdr} {H : Hdr} (h : askOf wr hs H = 0) : formed H = true := by
  unfold askOf at h
  split at h
  · rename_i c; exact c.1
  · cases h
set_option maxRecDepth 100000 in
set_option maxHeartbeats 4000000 in
theorem add_any (bc : Nat) (wr : Int) (hs : List Hdr) (H : Hdr) (tok : Value) (w : World) (E : List (Nat × Obj)) (h : ChainO bc wr hs E) (hE : ∀ p ∈ E, w.heap[p.1]? = some p.2) (hnd : (E.map Prod.fst).Nodup) (hok : H.Ok)
    (ht : ∀ L w', St w (E.map Prod.fst) L w' → Toks w' tok H.toks) (hK : ∀ L w', St w (E.map Prod.fst) L w' → Has w' 1 64 (wF Sha.K)) (hlen : hs.length < 1000) :
    Ret Tryd.prog 29 #[.pointer (some ⟨bc, 0, none⟩), .agg (row 125 (hF H tok))] w fun v' w' => v' = .int .i64 (askOf wr hs H) ∧ ∃ E', ChainO bc wr (if askOf wr hs H = 0 then hs ++ [H] else hs) E' ∧ St w (E.map Prod.fst) E' w' := by
  have hst := St.reflE hE hnd
  obtain ⟨M, hM⟩ : ∃ M, M = E.map Prod.fst := ⟨_, rfl⟩
  rw [← hM] at hst ht hK ⊢
  obtain ⟨tad, tcap, rfl, _⟩ := ht _ _ hst
  have HT := Lib.hid ht
  have HK := Lib.hid hK
  have HRD : Hid (∀ w', (∀ p ∈ E, w'.heap[p.1]? = some p.2) → ChainR w' bc wr hs) := by show ∀ _, _; exact fun w' h' => h.read h'
  obtain ⟨z, hz⟩ : ∃ z, z = askOf wr hs H := ⟨_, rfl⟩
  rw [← hz]
  have HZ : Hid (askOf wr hs H = z) := hz.symm
  clear ht hK hM
  go_enter Tryd.func29, Tryd.ntmps29
  by_cases ha : z = 0
  · have hf : formed H = true := ask_formed (hz.symm.trans ha)
    have h8 : H.toks.length ≤ 1000000 := by have := (formed_nat hf).2.2.2.2.2.2.1; omega
    obtain ⟨hv, g, EH, ET, hEE, hown, hel, hl, h1, h2⟩ := h
    have HEL := Lib.hid hel
    have HF := Lib.hid hf
    clear hz hel hf
    subst hEE
    go_wp2_with (first
      | ((with_reducible refine at_d 3 ?_); go_loud (refine wl_box rfl rfl rfl (by first | rfl | exact row_one _) hst ?_; clear hst; intro b3 w3 hb3 hst))
      | ((with_reducible refine at_d 7 ?_); go_loud ((first | (refine wl_loadAll rfl rfl rfl (hs := agg34) (hk := ?_)) | (refine wl_loadN rfl rfl rfl (hs := agg34) (hk := ?_)))))
      | ((with_reducible refine at_d 8 ?_); go_loud (refine wl_call pl48 rfl rfl rfl (ask_any bc wr hs H _ _ (HRD.out _ (fun p hp => hst.own p (List.mem_cons_of_mem _ hp))) hok (HT.out _ _ hst)) ?_; rintro v8 w8 ⟨rfl, hst8⟩; rw [HZ.out]; replace hst := hst.call hst8; clear hst8))
      | ((with_reducible refine at_d 10 ?_); go_loud (refine wl_cmp (p := z) (q := 0) (by first | exact decide_eq_true (by omega) | exact decide_eq_false (by omega)) rfl rfl rfl rfl rfl (hk := ?_))))
    simp only [List.nil_append] at hst
    refine rg_start (St w M ((b3, blk 125 (hF H (.slice tad H.toks.length tcap)) 34) :: (bc, blk 34 (cF wr hv (tipOf hs)) 92) :: (EH ++ ET))) mixed (hst.drew) ?_
    refine rg_take [0, 1, 2, 3, 4, 5] 6 _ rfl (by kernel_rfl) (by kernel_rfl) rfl (cls_st _ _ _) (fun _ _ _ _ _ h => h) ?_
    refine tk_wp (hk := ?_)
    refine tk_wp (hk := ?_)
    refine tk_wp (hk := ?_)
    refine tk_fld (r := 1) fld92_1 rfl rfl rfl rfl rfl (hk := ?_)
    refine tk_load1 rfl rfl (by rfl) rfl (hs := sc90) (hk := ?_)
    first | (refine tk_loadAll rfl rfl (by rfl) rfl (hs := agg34) (hk := ?_)) | (refine tk_loadN rfl rfl (by rfl) rfl (hs := agg34) (hk := ?_))
    refine tk_nil ?_
    refine rg_st (i := 6) (n := 5) (by kernel_rfl) rfl rfl rfl (fun w' hst => wo_call pl49 rfl rfl (copied_any H _ _ (HT.out _ _ hst) h8) (fun v18 w18 hR18 => ?_))
    obtain ⟨t18, E18, rfl, hown18, hst18⟩ := hR18
    refine ⟨E18, hst.call hst18, ?_⟩
    simp only [put_lit, setL]
    refine rg_st (i := 7) (n := 4) (by kernel_rfl) rfl rfl rfl (fun w' hst => wo_buildSlice1 (v := .agg (row 125 (hF H t18))) rfl elt90 (by decide) rfl rfl hst (fun b19 w19 hb19 hst19 => ⟨[(b19, _)], hst19, ?_⟩))
    simp only [put_lit, setL]
    refine rg_turn (i := 8) (n := 3) (by kernel_rfl) rfl rfl rfl (by kernel_rfl) (fun w' hst => wo_append (L := (b19, blk 125 (hF H t18) 34) :: (E18 ++ ((b3, blk 125 (hF H (.slice tad H.toks.length tcap)) 34) :: (bc, blk 34 (cF wr hv (tipOf hs)) 92) :: ET))) (h := hF H t18) rfl elt90 rfl rfl hown (hst.perm (pmA _ _ _ _ _ _)) (.inr ⟨b19, 0, 125, _, rfl, hst.hasb Pick.head, by omega, fun j _ => by rw [Nat.zero_add]⟩) (by intro h; cases h) (fun j _ => hF_one H _ (own_one hown18) j) (by omega) (by unfold maxLen; omega) (fun v20 w20 E20 hown20 hst20 _ => ⟨St w M (E20 ++ ((b19, blk 125 (hF H t18) 34) :: (E18 ++ ((b3, blk 125 (hF H (.slice tad H.toks.length tcap)) 34) :: (bc, blk 34 (cF wr hv (tipOf hs)) 92) :: ET)))), hst20, cls_st _ _ _, ?_⟩))
    simp only [put_lit, setL]
    refine rg_take [9, 10] 1 _ rfl (by kernel_rfl) (by kernel_rfl) rfl (cls_st _ _ _) (fun _ _ _ _ _ h => h) ?_
    refine tk_wp (hk := ?_)
    refine tk_fld (r := 1) fld92_1 rfl rfl rfl rfl rfl (hk := ?_)
    refine tk_nil ?_
    refine rg_lastStore1 (i := 11) (v := v20) (by kernel_rfl) rfl rfl rfl (by kernel_rfl) (by kernel_rfl) rfl rfl (Pick.app (.tail (Pick.app (.tail .head) E18)) E20) (by omega) sc90 (own_one hown20) (by (conv => lhs; simp only [put_lit, put_none, setL]) <;> rfl) (fun w1 hst1 => ?_)
    rw [cF_upd] at hst1
    clear hst
    have hst : St w M _ w1 := (hst1.perm (pmB _ _ _ _ _ _)).drop
    clear hst1
    go_wp2_with (first
      | ((with_reducible refine at_d 24 ?_); go_loud ((first | (refine wl_loadAll rfl rfl rfl (hs := agg34) (hk := ?_)) | (refine wl_loadN rfl rfl rfl (hs := agg34) (hk := ?_)))))
      | ((with_reducible refine at_d 25 ?_); go_loud (refine wl_call pl10 rfl rfl rfl (hash_any H _ _ hok (HT.out _ _ hst) (HK.out _ _ hst)) ?_; rintro v25 w25 ⟨rfl, hst25⟩; replace hst := hst.call hst25; clear hst25))
      | ((with_reducible refine at_d 27 ?_); go_loud (refine wl_fld (r := 2) fld92_2 rfl rfl rfl rfl (hk := ?_)))
      | ((with_reducible refine at_n (.store 28 (.tmp 27) (.tmp 25)) ?_); go_loud ((first | (refine wl_storeAll rfl rfl rfl rfl (hs := agg28) (hk := ?_)) | (refine wl_storeN rfl rfl rfl rfl (hs := agg28) (hk := ?_))); clear hst; intro w1 hst)))
    rw [cF_blit] at hst
    go_ret
    exact ⟨_, rfl, rfl, _, ChainO.snoc hown20 HEL.out hok HF.out hown18 hlen h1 h2, hst.sub (List.Sublist.cons_cons _ (List.Sublist.cons _ (List.Sublist.refl _)))⟩
  · have HA : Hid ((if z = 0 then hs ++ [H] else hs) = hs) := if_neg ha
    have HO := Lib.hid h
    clear hz h
    go_wp2_with (first
      | ((with_reducible refine at_d 3 ?_); go_loud (refine wl_box rfl rfl rfl (by first | rfl | exact row_one _) hst ?_; clear hst; intro b3 w3 hb3 hst))
      | ((with_reducible refine at_d 7 ?_); go_loud ((first | (refine wl_loadAll rfl rfl rfl (hs := agg34) (hk := ?_)) | (refine wl_loadN rfl rfl rfl (hs := agg34) (hk := ?_)))))
      | ((with_reducible refine at_d 8 ?_); go_loud (refine wl_call pl48 rfl rfl rfl (ask_any bc wr hs H _ _ (HRD.out _ (fun p hp => hst.own p (List.mem_cons_of_mem _ hp))) hok (HT.out _ _ hst)) ?_; rintro v8 w8 ⟨rfl, hst8⟩; rw [HZ.out]; replace hst := hst.call hst8; clear hst8))
      | ((with_reducible refine at_d 10 ?_); go_loud (refine wl_cmp (p := z) (q := 0) (by first | exact decide_eq_true (by omega) | exact decide_eq_false (by omega)) rfl rfl rfl rfl rfl (hk := ?_))))
    go_ret
    exact ⟨_, rfl, rfl, E, by first | exact HO.out | (rw [HA.out]; exact HO.out), hst.sub (List.Sublist.cons _ (List.Sublist.refl _))⟩
end Go.Proofs.YthbobmpeaemdnaaDoor
