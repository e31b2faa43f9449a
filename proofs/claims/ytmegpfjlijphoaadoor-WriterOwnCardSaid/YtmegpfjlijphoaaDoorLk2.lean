/- The walks of writer.Linked and jalousieref13.Linked: both tell whether headers stand one behind the other. The walk of jalousieref13.Linked. -/
import Derived.Test.YtmegpfjlijphoaaDoorPl1
namespace Go.Jal
open Go.RowKit
/-- H stands right behind G -/
def nextTo (G H : Hdr) : Prop := H.writer = G.writer ∧ H.seq = G.seq + 1 ∧ H.prev = hashB G
/-- the first k are formed, each one behind the one ahead of it -/
def lkTo (hs : List Hdr) (k : Nat) : Prop := ∀ j, j < k → ∀ H, hs[j]? = some H → formed H = true ∧ ∀ i G, j = i + 1 → hs[i]? = some G → nextTo G H
open Classical in
noncomputable def linkedB (hs : List Hdr) : Bool := decide (lkTo hs hs.length)
open Classical in
theorem linked_yes {hs : List Hdr} (h : lkTo hs hs.length) : linkedB hs = true := by unfold linkedB; exact decide_eq_true h
open Classical in
theorem linked_no {hs : List Hdr} (h : ¬ lkTo hs hs.length) : linkedB hs = false := by unfold linkedB; exact decide_eq_false h
theorem lkTo.step {hs : List Hdr} {k : Nat} {H : Hdr} (h : lkTo hs k) (hH : hs[k]? = some H) (hf : formed H = true) (hn : ∀ i G, k = i + 1 → hs[i]? = some G → nextTo G H) : lkTo hs (k + 1) := by
  intro j hj H' hH'
  by_cases c : j < k
  · exact h j c H' hH'
  · obtain rfl : j = k := by omega
    obtain rfl : H = H' := Option.some.inj (hH.symm.trans hH')
    exact ⟨hf, hn⟩
theorem lkTo.not_formed {hs : List Hdr} {k : Nat} {H : Hdr} (hH : hs[k]? = some H) (hf : formed H = false) : ¬ lkTo hs hs.length := fun h => by
  have := (h k (List.getElem?_eq_some_iff.1 hH).1 H hH).1
  rw [hf] at this
  cases this
theorem lkTo.not_next {hs : List Hdr} {n : Nat} {G H : Hdr} (hH : hs[n + 1]? = some H) (hG : hs[n]? = some G) (hn : ¬ nextTo G H) : ¬ lkTo hs hs.length := fun h =>
  hn ((h (n + 1) (List.getElem?_eq_some_iff.1 hH).1 H hH).2 n G rfl hG)
end Go.Jal
namespace Go.Proofs.YtmegpfjlijphoaaDoor
open Go.RowKit Go.Jal
set_option maxRecDepth 100000 in
set_option maxHeartbeats 4000000 in
theorem linked_any (v : Value) (hs : List Hdr) (w0 : World) (h : Hds w0 v hs) (hl : hs.length < 1000) (hK : Has w0 1 64 (wF Sha.K)) :
    Ret Tryd.prog 24 #[v] w0 fun v' w' => v' = .bool (linkedB hs) ∧ St w0 [] [] w' := by
  obtain ⟨ad, c, rfl, hcap, hcm, _⟩ := id h
  unfold maxLen at hcm
  go_enter Tryd.func24, Tryd.ntmps24
  have hst := St.refl w0
  go_wp2_with (fail)
  go_loopw [7] (fun i wr => ∃ k : Nat, k ≤ hs.length ∧ i = .int .i64 (k : Int) ∧ lkTo hs k ∧ St w0 [] [] wr) (fun i _ => hs.length - (intOf i).toNat)
  case atStart => exact ⟨0, by omega, rfl, fun j hj => by omega, hst⟩
  case round =>
    clear hst
    obtain ⟨k, hk, rfl, hgood, hst⟩ := hrel
    by_cases hkl : k < hs.length
    · obtain ⟨H, hH⟩ : ∃ H, hs[k]? = some H := ⟨_, List.getElem?_eq_getElem hkl⟩
      obtain ⟨b, off, N, f, tok, rfl, hN, hbd, _, _, hok, ht, hcell⟩ := Hds.get h hH
      have HN := Lib.hid hN
      have HAH := Lib.hid hcell
      have HT : Hid (∀ L w', St w0 [] L w' → Toks w' tok H.toks) := by
        show ∀ _ _ _, _
        exact fun L w' h' => ht.keep h'.none
      have HONE : Hid (tok.oneCell' = true) := tok_one ht
      have HGD := Lib.hid hgood
      clear hcell ht hgood
      cases hf : formed H with
      | false =>
        have HF := Lib.hid hf
        have HNO : Hid (linkedB hs = false) := linked_no (lkTo.not_formed hH hf)
        clear hf hH h hN
        go_wp2_with (first
      | ((with_reducible refine at_d 10 ?_); go_loud (refine wl_idx (i := k) Tryd.underlying22 siz35 (by omega) rfl rfl rfl rfl (hk := ?_)))
      | ((with_reducible refine at_d 11 ?_); go_loud (refine wl_loadP rfl rfl rfl (HN.out.keep hst.none) agg35 (by omega) HAH.out (hk := ?_)))
      | ((with_reducible refine at_d 4 ?_); go_loud (refine wl_alloc rfl rfl hst zer35 ?_; clear hst; intro b4 w4 hb4 hst))
      | ((with_reducible refine at_n (.store 35 (.tmp 4) (.tmp 11)) ?_); go_loud (refine wl_storeAll rfl rfl rfl rfl (hs := agg35) (hv := fun j _ => hF_one _ _ HONE.out j) (hk := ?_); clear hst; intro w1 hst))
      | ((with_reducible refine at_d 12 ?_); go_loud ((first | (refine wl_loadAll rfl rfl rfl (hs := agg35) (hk := ?_)) | (refine wl_loadN rfl rfl rfl (hs := agg35) (hk := ?_)))))
      | ((with_reducible refine at_d 13 ?_); go_loud (refine wl_call pl26 rfl rfl rfl (formed_any H _ _ hok (HT.out _ _ hst)) ?_; rintro v13 w13 ⟨rfl, hst13⟩; replace hst := hst.call hst13; clear hst13; rw [HF.out])))
        go_ret
        exact ⟨_, rfl, by rw [HNO.out]; rfl, hst.none⟩
      | true =>
        have HF := Lib.hid hf
        have HHH := Lib.hid hH
        by_cases hk0 : k = 0
        · subst hk0
          have HNX : Hid (lkTo hs 1) := HGD.out.step hH hf (fun i G e => by omega)
          clear hf hH h hN
          go_wp2_with (first
      | ((with_reducible refine at_d 10 ?_); go_loud (refine wl_idx (i := 0) Tryd.underlying22 siz35 (by omega) rfl rfl rfl rfl (hk := ?_)))
      | ((with_reducible refine at_d 11 ?_); go_loud (refine wl_loadP rfl rfl rfl (HN.out.keep hst.none) agg35 (by omega) HAH.out (hk := ?_)))
      | ((with_reducible refine at_d 4 ?_); go_loud (refine wl_alloc rfl rfl hst zer35 ?_; clear hst; intro b4 w4 hb4 hst))
      | ((with_reducible refine at_n (.store 35 (.tmp 4) (.tmp 11)) ?_); go_loud (refine wl_storeAll rfl rfl rfl rfl (hs := agg35) (hv := fun j _ => hF_one _ _ HONE.out j) (hk := ?_); clear hst; intro w1 hst))
      | ((with_reducible refine at_d 12 ?_); go_loud ((first | (refine wl_loadAll rfl rfl rfl (hs := agg35) (hk := ?_)) | (refine wl_loadN rfl rfl rfl (hs := agg35) (hk := ?_)))))
      | ((with_reducible refine at_d 13 ?_); go_loud (refine wl_call pl26 rfl rfl rfl (formed_any H _ _ hok (HT.out _ _ hst)) ?_; rintro v13 w13 ⟨rfl, hst13⟩; replace hst := hst.call hst13; clear hst13; rw [HF.out])))
          refine rg_start (St w0 [] [(b4, blk 125 (hF H tok) 35)]) mixed (hst.drew) ?_
          refine rg_take [0, 1, 2, 3, 4, 5, 6, 7, 8, 9, 10, 11, 12, 13, 14, 15, 16, 17, 18, 19, 20, 21, 22, 23, 24, 25, 26, 27, 28, 29, 30, 31, 32, 33, 34, 35] 0 _ rfl (by kernel_rfl) (by kernel_rfl) rfl (cls_st _ _ _) (fun _ _ _ _ _ h => h) ?_
          refine tk_wp (hk := ?_)
          refine tk_wp (hk := ?_)
          refine tk_wp (hk := ?_)
          first | (refine tk_skip rfl (by rfl) (hk := ?_)) | (refine tk_fld (r := 0) fld35_0 rfl rfl rfl rfl rfl (hk := ?_))
          first | (refine tk_skip rfl (by rfl) (hk := ?_)) | (refine tk_load1 rfl rfl (by rfl) rfl (hs := sc3) (hk := ?_))
          first | (refine tk_skip rfl (by rfl) (hk := ?_)) | (refine tk_wp (hk := ?_))
          first | (refine tk_skip rfl (by rfl) (hk := ?_)) | (refine tk_wp (hk := ?_))
          first | (refine tk_skip rfl (by rfl) (hk := ?_)) | (refine tk_wp (hk := ?_))
          first | (refine tk_skip rfl (by rfl) (hk := ?_)) | (refine tk_wp (hk := ?_))
          first | (refine tk_skip rfl (by rfl) (hk := ?_)) | (refine tk_fld fld35_0 rfl rfl rfl rfl rfl (hk := ?_))
          first | (refine tk_skip rfl (by rfl) (hk := ?_)) | (refine tk_load1 rfl rfl (by rfl) rfl (hs := sc3) (hk := ?_))
          first | (refine tk_skip rfl (by rfl) (hk := ?_)) | (refine tk_wp (hk := ?_))
          first | (refine tk_skip rfl (by rfl) (hk := ?_)) | (refine tk_wp (hk := ?_))
          first | (refine tk_skip rfl (by rfl) (hk := ?_)) | (refine tk_fld (r := 1) fld35_1 rfl rfl rfl rfl rfl (hk := ?_))
          first | (refine tk_skip rfl (by rfl) (hk := ?_)) | (refine tk_load1 rfl rfl (by rfl) rfl (hs := sc27) (hk := ?_))
          first | (refine tk_skip rfl (by rfl) (hk := ?_)) | (refine tk_wp (hk := ?_))
          first | (refine tk_skip rfl (by rfl) (hk := ?_)) | (refine tk_wp (hk := ?_))
          first | (refine tk_skip rfl (by rfl) (hk := ?_)) | (refine tk_wp (hk := ?_))
          first | (refine tk_skip rfl (by rfl) (hk := ?_)) | (refine tk_wp (hk := ?_))
          first | (refine tk_skip rfl (by rfl) (hk := ?_)) | (refine tk_fld fld35_1 rfl rfl rfl rfl rfl (hk := ?_))
          first | (refine tk_skip rfl (by rfl) (hk := ?_)) | (refine tk_load1 rfl rfl (by rfl) rfl (hs := sc27) (hk := ?_))
          first | (refine tk_skip rfl (by rfl) (hk := ?_)) | (refine tk_wp (hk := ?_))
          first | (refine tk_skip rfl (by rfl) (hk := ?_)) | (refine tk_wp (hk := ?_))
          first | (refine tk_skip rfl (by rfl) (hk := ?_)) | (refine tk_wp (hk := ?_))
          first | (refine tk_skip rfl (by rfl) (hk := ?_)) | (refine tk_wp (hk := ?_))
          first | (refine tk_skip rfl (by rfl) (hk := ?_)) | (refine tk_fld (r := 2) fld35_2 rfl rfl rfl rfl rfl (hk := ?_))
          first | (refine tk_skip rfl (by rfl) (hk := ?_)) | (refine tk_loadP rfl rfl (by rfl) rfl (hs := agg29) (hv := (by first | exact hF_prev _ _ | exact hF_item _ _ | exact hF_knows _ _ | exact hF_sum _ _ | exact hF_code _ _)) (hk := ?_))
          first | (refine tk_skip rfl (by rfl) (hk := ?_)) | (refine tk_wp (hk := ?_))
          first | (refine tk_skip rfl (by rfl) (hk := ?_)) | (refine tk_wp (hk := ?_))
          first | (refine tk_skip rfl (by rfl) (hk := ?_)) | (refine tk_wp (hk := ?_))
          first | (refine tk_skip rfl (by rfl) (hk := ?_)) | (refine tk_wp (hk := ?_))
          first | (refine tk_skip rfl (by rfl) (hk := ?_)) | (first | (refine tk_loadAll rfl rfl (by rfl) rfl (hs := agg35) (hk := ?_)) | (refine tk_loadN rfl rfl (by rfl) rfl (hs := agg35) (hk := ?_)))
          first | (refine tk_skip rfl (by rfl) (hk := ?_)) | (refine tk_call pl28 rfl rfl (by rfl) rfl (fun w hst => hash_any G tokG w gok (HTG.out _ _ hst) (hK.keep hst.none)) (fun w u w' hR => (by obtain ⟨rfl, hs'⟩ := hR; exact ⟨rfl, hs'.below⟩)) (hk := ?_))
          first | (refine tk_skip rfl (by rfl) (hk := ?_)) | (refine tk_wp (hk := ?_))
          first | (refine tk_skip rfl (by rfl) (hk := ?_)) | (refine tk_wp (hk := ?_))
          refine tk_wp (hk := ?_)
          refine tk_nil ?_
          refine rg_done (by kernel_rfl) (fun w1 hst1 => ?_) _
          clear hst; have hst := hst1; clear hst1
          go_wp2_with (fail)
          go_roundw
          case rel => exact ⟨1, by omega, by go_num, HNX.out, hst.none⟩
          case measure => simp [intOf]; omega
        obtain ⟨n, rfl⟩ : ∃ n, k = n + 1 := ⟨k - 1, by omega⟩
        obtain ⟨G, hG⟩ : ∃ G, hs[n]? = some G := ⟨_, List.getElem?_eq_getElem (by omega)⟩
        have hfG := (HGD.out n (by omega) G hG).1
        have hsG := (formed_nat hfG).2.2.2.2.2.2.2.2.1
        obtain ⟨b', off', N', f', tokG, e1, hN', hbd', _, _, gok, gt, gcell⟩ := Hds.get h hG
        simp only [Option.some.injEq, Addr.mk.injEq, and_true] at e1
        obtain ⟨rfl, rfl⟩ := e1
        obtain ⟨T1, fr1, q1⟩ := HN.out
        obtain ⟨T2, fr2, q2⟩ := hN'
        have e3 : row N f = row N' f' := by
          have := Option.some.inj (q1.symm.trans q2)
          injection this
        have e4 : N = N' := by have := congrArg Array.size e3; simpa using this
        subst e4
        have e5 := row_inj e3
        have HAG : Hid (∀ j, j < 125 → f (off + 125 * n + j) = hF G tokG j) := by
          show ∀ j, _
          intro j hj
          rw [e5 _ (by omega)]
          exact gcell j hj
        have HTG : Hid (∀ L w', St w0 [] L w' → Toks w' tokG G.toks) := by
          show ∀ _ _ _, _
          exact fun L w' h' => gt.keep h'.none
        have hcase : (H.writer < G.writer ∨ G.writer < H.writer) ∨ ((H.writer ≤ G.writer ∧ G.writer ≤ H.writer) ∧ ((H.seq < G.seq + 1 ∨ G.seq + 1 < H.seq) ∨ ((H.seq ≤ G.seq + 1 ∧ G.seq + 1 ≤ H.seq) ∧ (Hid (H.prev ≠ hashB G) ∨ Hid (H.prev = hashB G))))) := by
          by_cases c1 : H.writer = G.writer
          · refine .inr ⟨by omega, ?_⟩
            by_cases c2 : H.seq = G.seq + 1
            · refine .inr ⟨by omega, ?_⟩
              by_cases c3 : H.prev = hashB G
              · exact .inr c3
              · exact .inl c3
            · exact .inl (by omega)
          · exact .inl (by omega)
        have HC : Hid (linkedB hs = false ∨ lkTo hs (n + 1 + 1)) := by
          show _ ∨ _
          by_cases c : nextTo G H
          · refine .inr (HGD.out.step hH hf fun i G' e hi => ?_)
            obtain rfl : n = i := by omega
            obtain rfl : G = G' := Option.some.inj (hG.symm.trans hi)
            exact c
          · exact .inl (linked_no (lkTo.not_next hH hG c))
        have HNE : Hid (¬ nextTo G H → linkedB hs = false) := fun c => linked_no (lkTo.not_next hH hG c)
        have HYE : Hid (nextTo G H → lkTo hs (n + 1 + 1)) := fun c => HGD.out.step hH hf fun i G' e hi => by
          obtain rfl : n = i := by omega
          obtain rfl : G = G' := Option.some.inj (hG.symm.trans hi)
          exact c
        clear hf hH h hN hG q1 q2 e3 e5 gcell gt HC hfG hk0
        go_wp2_with (first
      | ((with_reducible refine at_d 10 ?_); go_loud (refine wl_idx (i := (n + 1)) Tryd.underlying22 siz35 (by omega) rfl rfl rfl rfl (hk := ?_)))
      | ((with_reducible refine at_d 11 ?_); go_loud (refine wl_loadP rfl rfl rfl (HN.out.keep hst.none) agg35 (by omega) HAH.out (hk := ?_)))
      | ((with_reducible refine at_d 4 ?_); go_loud (refine wl_alloc rfl rfl hst zer35 ?_; clear hst; intro b4 w4 hb4 hst))
      | ((with_reducible refine at_n (.store 35 (.tmp 4) (.tmp 11)) ?_); go_loud (refine wl_storeAll rfl rfl rfl rfl (hs := agg35) (hv := fun j _ => hF_one _ _ HONE.out j) (hk := ?_); clear hst; intro w1 hst))
      | ((with_reducible refine at_d 12 ?_); go_loud ((first | (refine wl_loadAll rfl rfl rfl (hs := agg35) (hk := ?_)) | (refine wl_loadN rfl rfl rfl (hs := agg35) (hk := ?_)))))
      | ((with_reducible refine at_d 13 ?_); go_loud (refine wl_call pl26 rfl rfl rfl (formed_any H _ _ hok (HT.out _ _ hst)) ?_; rintro v13 w13 ⟨rfl, hst13⟩; replace hst := hst.call hst13; clear hst13; rw [HF.out])))
        rcases hcase with hw | ⟨hw, hs1 | ⟨hs1, HPN | HPE⟩⟩
        · have HNO : Hid (linkedB hs = false) := HNE.out fun c => by have := c.1; omega
          refine rg_start (St w0 [] [(b4, blk 125 (hF H tok) 35)]) mixed (hst.drew) ?_
          refine rg_take [0, 1, 2, 3, 4, 5, 6, 7, 8, 9, 10, 11, 12, 13, 14, 15, 16, 17, 18, 19, 20, 21, 22, 23, 24, 25, 26, 27, 28, 29, 30, 31, 32, 33, 34, 35] 0 _ rfl (by kernel_rfl) (by kernel_rfl) rfl (cls_st _ _ _) (fun _ _ _ _ _ h => h) ?_
          refine tk_wp (hk := ?_)
          refine tk_cmp (p := ((n : Int) + 1)) (q := 0) (by first | exact decide_eq_true (by omega) | exact decide_eq_false (by omega)) rfl rfl rfl rfl rfl rfl (hk := ?_)
          refine tk_wp (hk := ?_)
          first | (refine tk_skip rfl (by rfl) (hk := ?_)) | (refine tk_fld (r := 0) fld35_0 rfl rfl rfl rfl rfl (hk := ?_))
          first | (refine tk_skip rfl (by rfl) (hk := ?_)) | (refine tk_load1 rfl rfl (by rfl) rfl (hs := sc3) (hk := ?_))
          first | (refine tk_skip rfl (by rfl) (hk := ?_)) | (refine tk_wp (hk := ?_))
          first | (refine tk_skip rfl (by rfl) (hk := ?_)) | (refine tk_wp (hk := ?_))
          first | (refine tk_skip rfl (by rfl) (hk := ?_)) | (refine tk_ari (p := ((n : Int) + 1)) (q := 1) (r := (n : Int)) (k := .i64) (by simp only [ariI] <;> omega) (by show _ ∧ _; omega) rfl rfl rfl rfl rfl rfl (hk := ?_))
          first | (refine tk_skip rfl (by rfl) (hk := ?_)) | (refine tk_idx (i := n) Tryd.underlying22 siz35 (by omega) rfl rfl rfl rfl rfl (hk := ?_))
          first | (refine tk_skip rfl (by rfl) (hk := ?_)) | (refine tk_fld fld35_0 rfl rfl rfl rfl rfl (hk := ?_))
          first | (refine tk_skip rfl (by rfl) (hk := ?_)) | (refine tk_load1 rfl rfl (by rfl) rfl (fun w hst => HN.out.keep hst.none) (show f _ = .int .i64 G.writer from HAG.out 0 (by omega)) (by omega) sc3 (hk := ?_))
          first | (refine tk_skip rfl (by rfl) (hk := ?_)) | (refine tk_cmp (p := H.writer) (q := G.writer) (by first | exact decide_eq_true (by omega) | exact decide_eq_false (by omega)) rfl rfl rfl rfl rfl rfl (hk := ?_))
          first | (refine tk_skip rfl (by rfl) (hk := ?_)) | (refine tk_wp (hk := ?_))
          first | (refine tk_skip rfl (by rfl) (hk := ?_)) | (refine tk_fld (r := 1) fld35_1 rfl rfl rfl rfl rfl (hk := ?_))
          first | (refine tk_skip rfl (by rfl) (hk := ?_)) | (refine tk_load1 rfl rfl (by rfl) rfl (hs := sc27) (hk := ?_))
          first | (refine tk_skip rfl (by rfl) (hk := ?_)) | (refine tk_wp (hk := ?_))
          first | (refine tk_skip rfl (by rfl) (hk := ?_)) | (refine tk_wp (hk := ?_))
          first | (refine tk_skip rfl (by rfl) (hk := ?_)) | (refine tk_ari (p := ((n : Int) + 1)) (q := 1) (r := (n : Int)) (k := .i64) (by simp only [ariI] <;> omega) (by show _ ∧ _; omega) rfl rfl rfl rfl rfl rfl (hk := ?_))
          first | (refine tk_skip rfl (by rfl) (hk := ?_)) | (refine tk_idx (i := n) Tryd.underlying22 siz35 (by omega) rfl rfl rfl rfl rfl (hk := ?_))
          first | (refine tk_skip rfl (by rfl) (hk := ?_)) | (refine tk_fld fld35_1 rfl rfl rfl rfl rfl (hk := ?_))
          first | (refine tk_skip rfl (by rfl) (hk := ?_)) | (refine tk_load1 rfl rfl (by rfl) rfl (fun w hst => HN.out.keep hst.none) (show f _ = .int .u64 (G.seq : Int) from HAG.out 1 (by omega)) (by omega) sc12 (hk := ?_))
          first | (refine tk_skip rfl (by rfl) (hk := ?_)) | (refine tk_ari (p := (G.seq : Int)) (q := 1) (r := ((G.seq : Int) + 1)) (k := .u64) (by simp only [ariI] <;> omega) (by show _ ∧ _; omega) rfl rfl rfl rfl rfl rfl (hk := ?_))
          first | (refine tk_skip rfl (by rfl) (hk := ?_)) | (refine tk_cmp (p := (H.seq : Int)) (q := ((G.seq : Int) + 1)) (by first | exact decide_eq_true (by omega) | exact decide_eq_false (by omega)) rfl rfl rfl rfl rfl rfl (hk := ?_))
          first | (refine tk_skip rfl (by rfl) (hk := ?_)) | (refine tk_wp (hk := ?_))
          first | (refine tk_skip rfl (by rfl) (hk := ?_)) | (refine tk_wp (hk := ?_))
          first | (refine tk_skip rfl (by rfl) (hk := ?_)) | (refine tk_fld (r := 2) fld35_2 rfl rfl rfl rfl rfl (hk := ?_))
          first | (refine tk_skip rfl (by rfl) (hk := ?_)) | (refine tk_loadP rfl rfl (by rfl) rfl (hs := agg29) (hv := (by first | exact hF_prev _ _ | exact hF_item _ _ | exact hF_knows _ _ | exact hF_sum _ _ | exact hF_code _ _)) (hk := ?_))
          first | (refine tk_skip rfl (by rfl) (hk := ?_)) | (refine tk_wp (hk := ?_))
          first | (refine tk_skip rfl (by rfl) (hk := ?_)) | (refine tk_wp (hk := ?_))
          first | (refine tk_skip rfl (by rfl) (hk := ?_)) | (refine tk_ari (p := ((n : Int) + 1)) (q := 1) (r := (n : Int)) (k := .i64) (by simp only [ariI] <;> omega) (by show _ ∧ _; omega) rfl rfl rfl rfl rfl rfl (hk := ?_))
          first | (refine tk_skip rfl (by rfl) (hk := ?_)) | (refine tk_idx (i := n) Tryd.underlying22 siz35 (by omega) rfl rfl rfl rfl rfl (hk := ?_))
          first | (refine tk_skip rfl (by rfl) (hk := ?_)) | (refine tk_loadP rfl rfl (by rfl) rfl (fun w hst => HN.out.keep hst.none) agg35 (by omega) HAG.out (hk := ?_))
          first | (refine tk_skip rfl (by rfl) (hk := ?_)) | (refine tk_call pl28 rfl rfl (by rfl) rfl (fun w hst => hash_any G tokG w gok (HTG.out _ _ hst) (hK.keep hst.none)) (fun w u w' hR => (by obtain ⟨rfl, hs'⟩ := hR; exact ⟨rfl, hs'.below⟩)) (hk := ?_))
          first | (refine tk_skip rfl (by rfl) (hk := ?_)) | (first | (refine tk_neB rfl rfl rfl eqb29 rfl rfl hok.prev.1 (sha_len _) hok.prev.2 (sha_lt _) (r := true) (decide_eq_true HPN.out) (hk := ?_)) | (refine tk_neB rfl rfl rfl eqb29 rfl rfl hok.prev.1 (sha_len _) hok.prev.2 (sha_lt _) (r := false) (by rw [HPE.out]; simp) (hk := ?_)) | (refine tk_skip rfl (by rfl) (hk := ?_)))
          first | (refine tk_skip rfl (by rfl) (hk := ?_)) | (refine tk_wp (hk := ?_))
          refine tk_wp (hk := ?_)
          refine tk_nil ?_
          refine rg_done (by kernel_rfl) (fun w1 hst1 => ?_) _
          clear hst; have hst := hst1; clear hst1
          go_wp2_with (fail)
          go_ret
          exact ⟨_, rfl, by rw [HNO.out]; rfl, hst.none⟩
        · have HNO : Hid (linkedB hs = false) := HNE.out fun c => by have := c.2.1; omega
          refine rg_start (St w0 [] [(b4, blk 125 (hF H tok) 35)]) mixed (hst.drew) ?_
          refine rg_take [0, 1, 2, 3, 4, 5, 6, 7, 8, 9, 10, 11, 12, 13, 14, 15, 16, 17, 18, 19, 20, 21, 22, 23, 24, 25, 26, 27, 28, 29, 30, 31, 32, 33, 34, 35] 0 _ rfl (by kernel_rfl) (by kernel_rfl) rfl (cls_st _ _ _) (fun _ _ _ _ _ h => h) ?_
          refine tk_wp (hk := ?_)
          refine tk_cmp (p := ((n : Int) + 1)) (q := 0) (by first | exact decide_eq_true (by omega) | exact decide_eq_false (by omega)) rfl rfl rfl rfl rfl rfl (hk := ?_)
          refine tk_wp (hk := ?_)
          first | (refine tk_skip rfl (by rfl) (hk := ?_)) | (refine tk_fld (r := 0) fld35_0 rfl rfl rfl rfl rfl (hk := ?_))
          first | (refine tk_skip rfl (by rfl) (hk := ?_)) | (refine tk_load1 rfl rfl (by rfl) rfl (hs := sc3) (hk := ?_))
          first | (refine tk_skip rfl (by rfl) (hk := ?_)) | (refine tk_wp (hk := ?_))
          first | (refine tk_skip rfl (by rfl) (hk := ?_)) | (refine tk_wp (hk := ?_))
          first | (refine tk_skip rfl (by rfl) (hk := ?_)) | (refine tk_ari (p := ((n : Int) + 1)) (q := 1) (r := (n : Int)) (k := .i64) (by simp only [ariI] <;> omega) (by show _ ∧ _; omega) rfl rfl rfl rfl rfl rfl (hk := ?_))
          first | (refine tk_skip rfl (by rfl) (hk := ?_)) | (refine tk_idx (i := n) Tryd.underlying22 siz35 (by omega) rfl rfl rfl rfl rfl (hk := ?_))
          first | (refine tk_skip rfl (by rfl) (hk := ?_)) | (refine tk_fld fld35_0 rfl rfl rfl rfl rfl (hk := ?_))
          first | (refine tk_skip rfl (by rfl) (hk := ?_)) | (refine tk_load1 rfl rfl (by rfl) rfl (fun w hst => HN.out.keep hst.none) (show f _ = .int .i64 G.writer from HAG.out 0 (by omega)) (by omega) sc3 (hk := ?_))
          first | (refine tk_skip rfl (by rfl) (hk := ?_)) | (refine tk_cmp (p := H.writer) (q := G.writer) (by first | exact decide_eq_true (by omega) | exact decide_eq_false (by omega)) rfl rfl rfl rfl rfl rfl (hk := ?_))
          first | (refine tk_skip rfl (by rfl) (hk := ?_)) | (refine tk_wp (hk := ?_))
          first | (refine tk_skip rfl (by rfl) (hk := ?_)) | (refine tk_fld (r := 1) fld35_1 rfl rfl rfl rfl rfl (hk := ?_))
          first | (refine tk_skip rfl (by rfl) (hk := ?_)) | (refine tk_load1 rfl rfl (by rfl) rfl (hs := sc27) (hk := ?_))
          first | (refine tk_skip rfl (by rfl) (hk := ?_)) | (refine tk_wp (hk := ?_))
          first | (refine tk_skip rfl (by rfl) (hk := ?_)) | (refine tk_wp (hk := ?_))
          first | (refine tk_skip rfl (by rfl) (hk := ?_)) | (refine tk_ari (p := ((n : Int) + 1)) (q := 1) (r := (n : Int)) (k := .i64) (by simp only [ariI] <;> omega) (by show _ ∧ _; omega) rfl rfl rfl rfl rfl rfl (hk := ?_))
          first | (refine tk_skip rfl (by rfl) (hk := ?_)) | (refine tk_idx (i := n) Tryd.underlying22 siz35 (by omega) rfl rfl rfl rfl rfl (hk := ?_))
          first | (refine tk_skip rfl (by rfl) (hk := ?_)) | (refine tk_fld fld35_1 rfl rfl rfl rfl rfl (hk := ?_))
          first | (refine tk_skip rfl (by rfl) (hk := ?_)) | (refine tk_load1 rfl rfl (by rfl) rfl (fun w hst => HN.out.keep hst.none) (show f _ = .int .u64 (G.seq : Int) from HAG.out 1 (by omega)) (by omega) sc12 (hk := ?_))
          first | (refine tk_skip rfl (by rfl) (hk := ?_)) | (refine tk_ari (p := (G.seq : Int)) (q := 1) (r := ((G.seq : Int) + 1)) (k := .u64) (by simp only [ariI] <;> omega) (by show _ ∧ _; omega) rfl rfl rfl rfl rfl rfl (hk := ?_))
          first | (refine tk_skip rfl (by rfl) (hk := ?_)) | (refine tk_cmp (p := (H.seq : Int)) (q := ((G.seq : Int) + 1)) (by first | exact decide_eq_true (by omega) | exact decide_eq_false (by omega)) rfl rfl rfl rfl rfl rfl (hk := ?_))
          first | (refine tk_skip rfl (by rfl) (hk := ?_)) | (refine tk_wp (hk := ?_))
          first | (refine tk_skip rfl (by rfl) (hk := ?_)) | (refine tk_wp (hk := ?_))
          first | (refine tk_skip rfl (by rfl) (hk := ?_)) | (refine tk_fld (r := 2) fld35_2 rfl rfl rfl rfl rfl (hk := ?_))
          first | (refine tk_skip rfl (by rfl) (hk := ?_)) | (refine tk_loadP rfl rfl (by rfl) rfl (hs := agg29) (hv := (by first | exact hF_prev _ _ | exact hF_item _ _ | exact hF_knows _ _ | exact hF_sum _ _ | exact hF_code _ _)) (hk := ?_))
          first | (refine tk_skip rfl (by rfl) (hk := ?_)) | (refine tk_wp (hk := ?_))
          first | (refine tk_skip rfl (by rfl) (hk := ?_)) | (refine tk_wp (hk := ?_))
          first | (refine tk_skip rfl (by rfl) (hk := ?_)) | (refine tk_ari (p := ((n : Int) + 1)) (q := 1) (r := (n : Int)) (k := .i64) (by simp only [ariI] <;> omega) (by show _ ∧ _; omega) rfl rfl rfl rfl rfl rfl (hk := ?_))
          first | (refine tk_skip rfl (by rfl) (hk := ?_)) | (refine tk_idx (i := n) Tryd.underlying22 siz35 (by omega) rfl rfl rfl rfl rfl (hk := ?_))
          first | (refine tk_skip rfl (by rfl) (hk := ?_)) | (refine tk_loadP rfl rfl (by rfl) rfl (fun w hst => HN.out.keep hst.none) agg35 (by omega) HAG.out (hk := ?_))
          first | (refine tk_skip rfl (by rfl) (hk := ?_)) | (refine tk_call pl28 rfl rfl (by rfl) rfl (fun w hst => hash_any G tokG w gok (HTG.out _ _ hst) (hK.keep hst.none)) (fun w u w' hR => (by obtain ⟨rfl, hs'⟩ := hR; exact ⟨rfl, hs'.below⟩)) (hk := ?_))
          first | (refine tk_skip rfl (by rfl) (hk := ?_)) | (first | (refine tk_neB rfl rfl rfl eqb29 rfl rfl hok.prev.1 (sha_len _) hok.prev.2 (sha_lt _) (r := true) (decide_eq_true HPN.out) (hk := ?_)) | (refine tk_neB rfl rfl rfl eqb29 rfl rfl hok.prev.1 (sha_len _) hok.prev.2 (sha_lt _) (r := false) (by rw [HPE.out]; simp) (hk := ?_)) | (refine tk_skip rfl (by rfl) (hk := ?_)))
          first | (refine tk_skip rfl (by rfl) (hk := ?_)) | (refine tk_wp (hk := ?_))
          refine tk_wp (hk := ?_)
          refine tk_nil ?_
          refine rg_done (by kernel_rfl) (fun w1 hst1 => ?_) _
          clear hst; have hst := hst1; clear hst1
          go_wp2_with (fail)
          go_ret
          exact ⟨_, rfl, by rw [HNO.out]; rfl, hst.none⟩
        · have HNO : Hid (linkedB hs = false) := HNE.out fun c => HPN.out c.2.2
          refine rg_start (St w0 [] [(b4, blk 125 (hF H tok) 35)]) mixed (hst.drew) ?_
          refine rg_take [0, 1, 2, 3, 4, 5, 6, 7, 8, 9, 10, 11, 12, 13, 14, 15, 16, 17, 18, 19, 20, 21, 22, 23, 24, 25, 26, 27, 28, 29, 30, 31, 32, 33, 34, 35] 0 _ rfl (by kernel_rfl) (by kernel_rfl) rfl (cls_st _ _ _) (fun _ _ _ _ _ h => h) ?_
          refine tk_wp (hk := ?_)
          refine tk_cmp (p := ((n : Int) + 1)) (q := 0) (by first | exact decide_eq_true (by omega) | exact decide_eq_false (by omega)) rfl rfl rfl rfl rfl rfl (hk := ?_)
          refine tk_wp (hk := ?_)
          first | (refine tk_skip rfl (by rfl) (hk := ?_)) | (refine tk_fld (r := 0) fld35_0 rfl rfl rfl rfl rfl (hk := ?_))
          first | (refine tk_skip rfl (by rfl) (hk := ?_)) | (refine tk_load1 rfl rfl (by rfl) rfl (hs := sc3) (hk := ?_))
          first | (refine tk_skip rfl (by rfl) (hk := ?_)) | (refine tk_wp (hk := ?_))
          first | (refine tk_skip rfl (by rfl) (hk := ?_)) | (refine tk_wp (hk := ?_))
          first | (refine tk_skip rfl (by rfl) (hk := ?_)) | (refine tk_ari (p := ((n : Int) + 1)) (q := 1) (r := (n : Int)) (k := .i64) (by simp only [ariI] <;> omega) (by show _ ∧ _; omega) rfl rfl rfl rfl rfl rfl (hk := ?_))
          first | (refine tk_skip rfl (by rfl) (hk := ?_)) | (refine tk_idx (i := n) Tryd.underlying22 siz35 (by omega) rfl rfl rfl rfl rfl (hk := ?_))
          first | (refine tk_skip rfl (by rfl) (hk := ?_)) | (refine tk_fld fld35_0 rfl rfl rfl rfl rfl (hk := ?_))
          first | (refine tk_skip rfl (by rfl) (hk := ?_)) | (refine tk_load1 rfl rfl (by rfl) rfl (fun w hst => HN.out.keep hst.none) (show f _ = .int .i64 G.writer from HAG.out 0 (by omega)) (by omega) sc3 (hk := ?_))
          first | (refine tk_skip rfl (by rfl) (hk := ?_)) | (refine tk_cmp (p := H.writer) (q := G.writer) (by first | exact decide_eq_true (by omega) | exact decide_eq_false (by omega)) rfl rfl rfl rfl rfl rfl (hk := ?_))
          first | (refine tk_skip rfl (by rfl) (hk := ?_)) | (refine tk_wp (hk := ?_))
          first | (refine tk_skip rfl (by rfl) (hk := ?_)) | (refine tk_fld (r := 1) fld35_1 rfl rfl rfl rfl rfl (hk := ?_))
          first | (refine tk_skip rfl (by rfl) (hk := ?_)) | (refine tk_load1 rfl rfl (by rfl) rfl (hs := sc27) (hk := ?_))
          first | (refine tk_skip rfl (by rfl) (hk := ?_)) | (refine tk_wp (hk := ?_))
          first | (refine tk_skip rfl (by rfl) (hk := ?_)) | (refine tk_wp (hk := ?_))
          first | (refine tk_skip rfl (by rfl) (hk := ?_)) | (refine tk_ari (p := ((n : Int) + 1)) (q := 1) (r := (n : Int)) (k := .i64) (by simp only [ariI] <;> omega) (by show _ ∧ _; omega) rfl rfl rfl rfl rfl rfl (hk := ?_))
          first | (refine tk_skip rfl (by rfl) (hk := ?_)) | (refine tk_idx (i := n) Tryd.underlying22 siz35 (by omega) rfl rfl rfl rfl rfl (hk := ?_))
          first | (refine tk_skip rfl (by rfl) (hk := ?_)) | (refine tk_fld fld35_1 rfl rfl rfl rfl rfl (hk := ?_))
          first | (refine tk_skip rfl (by rfl) (hk := ?_)) | (refine tk_load1 rfl rfl (by rfl) rfl (fun w hst => HN.out.keep hst.none) (show f _ = .int .u64 (G.seq : Int) from HAG.out 1 (by omega)) (by omega) sc12 (hk := ?_))
          first | (refine tk_skip rfl (by rfl) (hk := ?_)) | (refine tk_ari (p := (G.seq : Int)) (q := 1) (r := ((G.seq : Int) + 1)) (k := .u64) (by simp only [ariI] <;> omega) (by show _ ∧ _; omega) rfl rfl rfl rfl rfl rfl (hk := ?_))
          first | (refine tk_skip rfl (by rfl) (hk := ?_)) | (refine tk_cmp (p := (H.seq : Int)) (q := ((G.seq : Int) + 1)) (by first | exact decide_eq_true (by omega) | exact decide_eq_false (by omega)) rfl rfl rfl rfl rfl rfl (hk := ?_))
          first | (refine tk_skip rfl (by rfl) (hk := ?_)) | (refine tk_wp (hk := ?_))
          first | (refine tk_skip rfl (by rfl) (hk := ?_)) | (refine tk_wp (hk := ?_))
          first | (refine tk_skip rfl (by rfl) (hk := ?_)) | (refine tk_fld (r := 2) fld35_2 rfl rfl rfl rfl rfl (hk := ?_))
          first | (refine tk_skip rfl (by rfl) (hk := ?_)) | (refine tk_loadP rfl rfl (by rfl) rfl (hs := agg29) (hv := (by first | exact hF_prev _ _ | exact hF_item _ _ | exact hF_knows _ _ | exact hF_sum _ _ | exact hF_code _ _)) (hk := ?_))
          first | (refine tk_skip rfl (by rfl) (hk := ?_)) | (refine tk_wp (hk := ?_))
          first | (refine tk_skip rfl (by rfl) (hk := ?_)) | (refine tk_wp (hk := ?_))
          first | (refine tk_skip rfl (by rfl) (hk := ?_)) | (refine tk_ari (p := ((n : Int) + 1)) (q := 1) (r := (n : Int)) (k := .i64) (by simp only [ariI] <;> omega) (by show _ ∧ _; omega) rfl rfl rfl rfl rfl rfl (hk := ?_))
          first | (refine tk_skip rfl (by rfl) (hk := ?_)) | (refine tk_idx (i := n) Tryd.underlying22 siz35 (by omega) rfl rfl rfl rfl rfl (hk := ?_))
          first | (refine tk_skip rfl (by rfl) (hk := ?_)) | (refine tk_loadP rfl rfl (by rfl) rfl (fun w hst => HN.out.keep hst.none) agg35 (by omega) HAG.out (hk := ?_))
          first | (refine tk_skip rfl (by rfl) (hk := ?_)) | (refine tk_call pl28 rfl rfl (by rfl) rfl (fun w hst => hash_any G tokG w gok (HTG.out _ _ hst) (hK.keep hst.none)) (fun w u w' hR => (by obtain ⟨rfl, hs'⟩ := hR; exact ⟨rfl, hs'.below⟩)) (hk := ?_))
          first | (refine tk_skip rfl (by rfl) (hk := ?_)) | (first | (refine tk_neB rfl rfl rfl eqb29 rfl rfl hok.prev.1 (sha_len _) hok.prev.2 (sha_lt _) (r := true) (decide_eq_true HPN.out) (hk := ?_)) | (refine tk_neB rfl rfl rfl eqb29 rfl rfl hok.prev.1 (sha_len _) hok.prev.2 (sha_lt _) (r := false) (by rw [HPE.out]; simp) (hk := ?_)) | (refine tk_skip rfl (by rfl) (hk := ?_)))
          first | (refine tk_skip rfl (by rfl) (hk := ?_)) | (refine tk_wp (hk := ?_))
          refine tk_wp (hk := ?_)
          refine tk_nil ?_
          refine rg_done (by kernel_rfl) (fun w1 hst1 => ?_) _
          clear hst; have hst := hst1; clear hst1
          go_wp2_with (fail)
          go_ret
          exact ⟨_, rfl, by rw [HNO.out]; rfl, hst.none⟩
        · have HYS : Hid (lkTo hs (n + 1 + 1)) := HYE.out ⟨by omega, by omega, HPE.out⟩
          refine rg_start (St w0 [] [(b4, blk 125 (hF H tok) 35)]) mixed (hst.drew) ?_
          refine rg_take [0, 1, 2, 3, 4, 5, 6, 7, 8, 9, 10, 11, 12, 13, 14, 15, 16, 17, 18, 19, 20, 21, 22, 23, 24, 25, 26, 27, 28, 29, 30, 31, 32, 33, 34, 35] 0 _ rfl (by kernel_rfl) (by kernel_rfl) rfl (cls_st _ _ _) (fun _ _ _ _ _ h => h) ?_
          refine tk_wp (hk := ?_)
          refine tk_cmp (p := ((n : Int) + 1)) (q := 0) (by first | exact decide_eq_true (by omega) | exact decide_eq_false (by omega)) rfl rfl rfl rfl rfl rfl (hk := ?_)
          refine tk_wp (hk := ?_)
          first | (refine tk_skip rfl (by rfl) (hk := ?_)) | (refine tk_fld (r := 0) fld35_0 rfl rfl rfl rfl rfl (hk := ?_))
          first | (refine tk_skip rfl (by rfl) (hk := ?_)) | (refine tk_load1 rfl rfl (by rfl) rfl (hs := sc3) (hk := ?_))
          first | (refine tk_skip rfl (by rfl) (hk := ?_)) | (refine tk_wp (hk := ?_))
          first | (refine tk_skip rfl (by rfl) (hk := ?_)) | (refine tk_wp (hk := ?_))
          first | (refine tk_skip rfl (by rfl) (hk := ?_)) | (refine tk_ari (p := ((n : Int) + 1)) (q := 1) (r := (n : Int)) (k := .i64) (by simp only [ariI] <;> omega) (by show _ ∧ _; omega) rfl rfl rfl rfl rfl rfl (hk := ?_))
          first | (refine tk_skip rfl (by rfl) (hk := ?_)) | (refine tk_idx (i := n) Tryd.underlying22 siz35 (by omega) rfl rfl rfl rfl rfl (hk := ?_))
          first | (refine tk_skip rfl (by rfl) (hk := ?_)) | (refine tk_fld fld35_0 rfl rfl rfl rfl rfl (hk := ?_))
          first | (refine tk_skip rfl (by rfl) (hk := ?_)) | (refine tk_load1 rfl rfl (by rfl) rfl (fun w hst => HN.out.keep hst.none) (show f _ = .int .i64 G.writer from HAG.out 0 (by omega)) (by omega) sc3 (hk := ?_))
          first | (refine tk_skip rfl (by rfl) (hk := ?_)) | (refine tk_cmp (p := H.writer) (q := G.writer) (by first | exact decide_eq_true (by omega) | exact decide_eq_false (by omega)) rfl rfl rfl rfl rfl rfl (hk := ?_))
          first | (refine tk_skip rfl (by rfl) (hk := ?_)) | (refine tk_wp (hk := ?_))
          first | (refine tk_skip rfl (by rfl) (hk := ?_)) | (refine tk_fld (r := 1) fld35_1 rfl rfl rfl rfl rfl (hk := ?_))
          first | (refine tk_skip rfl (by rfl) (hk := ?_)) | (refine tk_load1 rfl rfl (by rfl) rfl (hs := sc27) (hk := ?_))
          first | (refine tk_skip rfl (by rfl) (hk := ?_)) | (refine tk_wp (hk := ?_))
          first | (refine tk_skip rfl (by rfl) (hk := ?_)) | (refine tk_wp (hk := ?_))
          first | (refine tk_skip rfl (by rfl) (hk := ?_)) | (refine tk_ari (p := ((n : Int) + 1)) (q := 1) (r := (n : Int)) (k := .i64) (by simp only [ariI] <;> omega) (by show _ ∧ _; omega) rfl rfl rfl rfl rfl rfl (hk := ?_))
          first | (refine tk_skip rfl (by rfl) (hk := ?_)) | (refine tk_idx (i := n) Tryd.underlying22 siz35 (by omega) rfl rfl rfl rfl rfl (hk := ?_))
          first | (refine tk_skip rfl (by rfl) (hk := ?_)) | (refine tk_fld fld35_1 rfl rfl rfl rfl rfl (hk := ?_))
          first | (refine tk_skip rfl (by rfl) (hk := ?_)) | (refine tk_load1 rfl rfl (by rfl) rfl (fun w hst => HN.out.keep hst.none) (show f _ = .int .u64 (G.seq : Int) from HAG.out 1 (by omega)) (by omega) sc12 (hk := ?_))
          first | (refine tk_skip rfl (by rfl) (hk := ?_)) | (refine tk_ari (p := (G.seq : Int)) (q := 1) (r := ((G.seq : Int) + 1)) (k := .u64) (by simp only [ariI] <;> omega) (by show _ ∧ _; omega) rfl rfl rfl rfl rfl rfl (hk := ?_))
          first | (refine tk_skip rfl (by rfl) (hk := ?_)) | (refine tk_cmp (p := (H.seq : Int)) (q := ((G.seq : Int) + 1)) (by first | exact decide_eq_true (by omega) | exact decide_eq_false (by omega)) rfl rfl rfl rfl rfl rfl (hk := ?_))
          first | (refine tk_skip rfl (by rfl) (hk := ?_)) | (refine tk_wp (hk := ?_))
          first | (refine tk_skip rfl (by rfl) (hk := ?_)) | (refine tk_wp (hk := ?_))
          first | (refine tk_skip rfl (by rfl) (hk := ?_)) | (refine tk_fld (r := 2) fld35_2 rfl rfl rfl rfl rfl (hk := ?_))
          first | (refine tk_skip rfl (by rfl) (hk := ?_)) | (refine tk_loadP rfl rfl (by rfl) rfl (hs := agg29) (hv := (by first | exact hF_prev _ _ | exact hF_item _ _ | exact hF_knows _ _ | exact hF_sum _ _ | exact hF_code _ _)) (hk := ?_))
          first | (refine tk_skip rfl (by rfl) (hk := ?_)) | (refine tk_wp (hk := ?_))
          first | (refine tk_skip rfl (by rfl) (hk := ?_)) | (refine tk_wp (hk := ?_))
          first | (refine tk_skip rfl (by rfl) (hk := ?_)) | (refine tk_ari (p := ((n : Int) + 1)) (q := 1) (r := (n : Int)) (k := .i64) (by simp only [ariI] <;> omega) (by show _ ∧ _; omega) rfl rfl rfl rfl rfl rfl (hk := ?_))
          first | (refine tk_skip rfl (by rfl) (hk := ?_)) | (refine tk_idx (i := n) Tryd.underlying22 siz35 (by omega) rfl rfl rfl rfl rfl (hk := ?_))
          first | (refine tk_skip rfl (by rfl) (hk := ?_)) | (refine tk_loadP rfl rfl (by rfl) rfl (fun w hst => HN.out.keep hst.none) agg35 (by omega) HAG.out (hk := ?_))
          first | (refine tk_skip rfl (by rfl) (hk := ?_)) | (refine tk_call pl28 rfl rfl (by rfl) rfl (fun w hst => hash_any G tokG w gok (HTG.out _ _ hst) (hK.keep hst.none)) (fun w u w' hR => (by obtain ⟨rfl, hs'⟩ := hR; exact ⟨rfl, hs'.below⟩)) (hk := ?_))
          first | (refine tk_skip rfl (by rfl) (hk := ?_)) | (first | (refine tk_neB rfl rfl rfl eqb29 rfl rfl hok.prev.1 (sha_len _) hok.prev.2 (sha_lt _) (r := true) (decide_eq_true HPN.out) (hk := ?_)) | (refine tk_neB rfl rfl rfl eqb29 rfl rfl hok.prev.1 (sha_len _) hok.prev.2 (sha_lt _) (r := false) (by rw [HPE.out]; simp) (hk := ?_)) | (refine tk_skip rfl (by rfl) (hk := ?_)))
          first | (refine tk_skip rfl (by rfl) (hk := ?_)) | (refine tk_wp (hk := ?_))
          refine tk_wp (hk := ?_)
          refine tk_nil ?_
          refine rg_done (by kernel_rfl) (fun w1 hst1 => ?_) _
          clear hst; have hst := hst1; clear hst1
          go_wp2_with (fail)
          go_roundw
          case rel => exact ⟨n + 1 + 1, by omega, by go_num, HYS.out, hst.none⟩
          case measure => simp [intOf]; omega
    · obtain rfl : k = hs.length := by omega
      have HY : Hid (linkedB hs = true) := linked_yes hgood
      clear hgood h
      go_wp2_with (fail)
      go_ret
      exact ⟨_, rfl, by rw [HY.out]; rfl, hst.none⟩
end Go.Proofs.YtmegpfjlijphoaaDoor
namespace Go.Proofs.YtmegpfjlijphoaaDoor
open Go.RowKit Go.Jal
set_option maxRecDepth 100000 in
set_option maxHeartbeats 4000000 in
theorem reflinked_any (v : Value) (hs : List Hdr) (w0 : World) (h : Hds w0 v hs) (hl : hs.length < 1000) (hK : Has w0 0 64 (wF Sha.K)) :
    Ret Tryd.prog 25 #[v] w0 fun v' w' => v' = .bool (linkedB hs) ∧ St w0 [] [] w' := by
  obtain ⟨ad, c, rfl, hcap, hcm, _⟩ := id h
  unfold maxLen at hcm
  go_enter Tryd.func25, Tryd.ntmps25
  have hst := St.refl w0
  go_wp2_with (fail)
  go_loopw [3] (fun i wr => ∃ k : Nat, k ≤ hs.length ∧ i = .int .i64 (k : Int) ∧ lkTo hs k ∧ St w0 [] [] wr) (fun i _ => hs.length - (intOf i).toNat)
  case atStart => exact ⟨0, by omega, rfl, fun j hj => by omega, hst⟩
  case round =>
    clear hst
    obtain ⟨k, hk, rfl, hgood, hst⟩ := hrel
    by_cases hkl : k < hs.length
    · obtain ⟨H, hH⟩ : ∃ H, hs[k]? = some H := ⟨_, List.getElem?_eq_getElem hkl⟩
      obtain ⟨b, off, N, f, tok, rfl, hN, hbd, _, _, hok, ht, hcell⟩ := Hds.get h hH
      have HN := Lib.hid hN
      have HAH := Lib.hid hcell
      have HT : Hid (∀ L w', St w0 [] L w' → Toks w' tok H.toks) := by
        show ∀ _ _ _, _
        exact fun L w' h' => ht.keep h'.none
      have HONE : Hid (tok.oneCell' = true) := tok_one ht
      have HGD := Lib.hid hgood
      clear hcell ht hgood
      cases hf : formed H with
      | false =>
        have HF := Lib.hid hf
        have HNO : Hid (linkedB hs = false) := linked_no (lkTo.not_formed hH hf)
        clear hf hH h hN
        go_wp2_with (first
      | ((with_reducible refine at_d 12 ?_); go_loud (refine wl_idx (i := k) Tryd.underlying22 siz35 (by omega) rfl rfl rfl rfl (hk := ?_)))
      | ((with_reducible refine at_d 13 ?_); go_loud (refine wl_loadP rfl rfl rfl (HN.out.keep hst.none) agg35 (by omega) HAH.out (hk := ?_)))
      | ((with_reducible refine at_d 14 ?_); go_loud (refine wl_call pl29 rfl rfl rfl (refformed_any H _ _ hok (HT.out _ _ hst)) ?_; rintro v14 w14 ⟨rfl, hst14⟩; replace hst := hst.call hst14; clear hst14; rw [HF.out])))
        go_ret
        exact ⟨_, rfl, by rw [HNO.out]; rfl, hst.none⟩
      | true =>
        have HF := Lib.hid hf
        have HHH := Lib.hid hH
        by_cases hk0 : k = 0
        · subst hk0
          have HNX : Hid (lkTo hs 1) := HGD.out.step hH hf (fun i G e => by omega)
          clear hf hH h hN
          go_wp2_with (first
      | ((with_reducible refine at_d 12 ?_); go_loud (refine wl_idx (i := 0) Tryd.underlying22 siz35 (by omega) rfl rfl rfl rfl (hk := ?_)))
      | ((with_reducible refine at_d 13 ?_); go_loud (refine wl_loadP rfl rfl rfl (HN.out.keep hst.none) agg35 (by omega) HAH.out (hk := ?_)))
      | ((with_reducible refine at_d 14 ?_); go_loud (refine wl_call pl29 rfl rfl rfl (refformed_any H _ _ hok (HT.out _ _ hst)) ?_; rintro v14 w14 ⟨rfl, hst14⟩; replace hst := hst.call hst14; clear hst14; rw [HF.out])))
          refine rg_start (St w0 [] []) mixed (hst.drew) ?_
          refine rg_take [0, 1, 2, 3, 4, 5, 6, 7, 8, 9, 10, 11, 12, 13, 14, 15, 16, 17, 18, 19, 20, 21, 22, 23, 24, 25, 26, 27, 28, 29, 30, 31, 32, 33, 34, 35, 36, 37, 38, 39, 40, 41, 42, 43, 44] 0 _ rfl (by kernel_rfl) (by kernel_rfl) rfl (cls_st _ _ _) (fun _ _ _ _ _ h => h) ?_
          refine tk_wp (hk := ?_)
          refine tk_wp (hk := ?_)
          refine tk_wp (hk := ?_)
          first | (refine tk_skip rfl (by rfl) (hk := ?_)) | (refine tk_wp (hk := ?_))
          first | (refine tk_skip rfl (by rfl) (hk := ?_)) | (refine tk_wp (hk := ?_))
          first | (refine tk_skip rfl (by rfl) (hk := ?_)) | (refine tk_wp (hk := ?_))
          first | (refine tk_skip rfl (by rfl) (hk := ?_)) | (refine tk_fld fld35_0 rfl rfl rfl rfl rfl (hk := ?_))
          first | (refine tk_skip rfl (by rfl) (hk := ?_)) | (refine tk_load1 rfl rfl (by rfl) rfl (hs := sc3) (hk := ?_))
          first | (refine tk_skip rfl (by rfl) (hk := ?_)) | (refine tk_wp (hk := ?_))
          first | (refine tk_skip rfl (by rfl) (hk := ?_)) | (refine tk_wp (hk := ?_))
          first | (refine tk_skip rfl (by rfl) (hk := ?_)) | (refine tk_wp (hk := ?_))
          first | (refine tk_skip rfl (by rfl) (hk := ?_)) | (refine tk_wp (hk := ?_))
          first | (refine tk_skip rfl (by rfl) (hk := ?_)) | (refine tk_fld fld35_0 rfl rfl rfl rfl rfl (hk := ?_))
          first | (refine tk_skip rfl (by rfl) (hk := ?_)) | (refine tk_load1 rfl rfl (by rfl) rfl (hs := sc3) (hk := ?_))
          first | (refine tk_skip rfl (by rfl) (hk := ?_)) | (refine tk_wp (hk := ?_))
          first | (refine tk_skip rfl (by rfl) (hk := ?_)) | (refine tk_wp (hk := ?_))
          first | (refine tk_skip rfl (by rfl) (hk := ?_)) | (refine tk_wp (hk := ?_))
          first | (refine tk_skip rfl (by rfl) (hk := ?_)) | (refine tk_wp (hk := ?_))
          first | (refine tk_skip rfl (by rfl) (hk := ?_)) | (refine tk_wp (hk := ?_))
          first | (refine tk_skip rfl (by rfl) (hk := ?_)) | (refine tk_fld fld35_1 rfl rfl rfl rfl rfl (hk := ?_))
          first | (refine tk_skip rfl (by rfl) (hk := ?_)) | (refine tk_load1 rfl rfl (by rfl) rfl (hs := sc27) (hk := ?_))
          first | (refine tk_skip rfl (by rfl) (hk := ?_)) | (refine tk_wp (hk := ?_))
          first | (refine tk_skip rfl (by rfl) (hk := ?_)) | (refine tk_wp (hk := ?_))
          first | (refine tk_skip rfl (by rfl) (hk := ?_)) | (refine tk_wp (hk := ?_))
          first | (refine tk_skip rfl (by rfl) (hk := ?_)) | (refine tk_wp (hk := ?_))
          first | (refine tk_skip rfl (by rfl) (hk := ?_)) | (refine tk_fld fld35_1 rfl rfl rfl rfl rfl (hk := ?_))
          first | (refine tk_skip rfl (by rfl) (hk := ?_)) | (refine tk_load1 rfl rfl (by rfl) rfl (hs := sc27) (hk := ?_))
          first | (refine tk_skip rfl (by rfl) (hk := ?_)) | (refine tk_wp (hk := ?_))
          first | (refine tk_skip rfl (by rfl) (hk := ?_)) | (refine tk_wp (hk := ?_))
          first | (refine tk_skip rfl (by rfl) (hk := ?_)) | (refine tk_wp (hk := ?_))
          first | (refine tk_skip rfl (by rfl) (hk := ?_)) | (refine tk_wp (hk := ?_))
          first | (refine tk_skip rfl (by rfl) (hk := ?_)) | (refine tk_wp (hk := ?_))
          first | (refine tk_skip rfl (by rfl) (hk := ?_)) | (refine tk_wp (hk := ?_))
          first | (refine tk_skip rfl (by rfl) (hk := ?_)) | (refine tk_wp (hk := ?_))
          first | (refine tk_skip rfl (by rfl) (hk := ?_)) | (refine tk_fld fld35_2 rfl rfl rfl rfl rfl (hk := ?_))
          first | (refine tk_skip rfl (by rfl) (hk := ?_)) | (refine tk_loadP rfl rfl (by rfl) rfl (hs := agg29) (hv := (by first | exact hF_prev _ _ | exact hF_item _ _ | exact hF_knows _ _ | exact hF_sum _ _ | exact hF_code _ _)) (hk := ?_))
          first | (refine tk_skip rfl (by rfl) (hk := ?_)) | (refine tk_wp (hk := ?_))
          first | (refine tk_skip rfl (by rfl) (hk := ?_)) | (refine tk_wp (hk := ?_))
          first | (refine tk_skip rfl (by rfl) (hk := ?_)) | (refine tk_wp (hk := ?_))
          first | (refine tk_skip rfl (by rfl) (hk := ?_)) | (refine tk_wp (hk := ?_))
          first | (refine tk_skip rfl (by rfl) (hk := ?_)) | (first | (refine tk_loadAll rfl rfl (by rfl) rfl (hs := agg35) (hk := ?_)) | (refine tk_loadN rfl rfl (by rfl) rfl (hs := agg35) (hk := ?_)))
          first | (refine tk_skip rfl (by rfl) (hk := ?_)) | (refine tk_call pl23 rfl rfl (by rfl) rfl (fun w hst => refhash_any G tokG w gok (HTG.out _ _ hst) (hK.keep hst.none)) (fun w u w' hR => (by obtain ⟨rfl, hs'⟩ := hR; exact ⟨rfl, hs'.below⟩)) (hk := ?_))
          first | (refine tk_skip rfl (by rfl) (hk := ?_)) | (refine tk_wp (hk := ?_))
          first | (refine tk_skip rfl (by rfl) (hk := ?_)) | (refine tk_wp (hk := ?_))
          refine tk_wp (hk := ?_)
          refine tk_nil ?_
          refine rg_done (by kernel_rfl) (fun w1 hst1 => ?_) _
          clear hst; have hst := hst1; clear hst1
          go_wp2_with (fail)
          go_roundw
          case rel => exact ⟨1, by omega, by go_num, HNX.out, hst.none⟩
          case measure => simp [intOf]; omega
        obtain ⟨n, rfl⟩ : ∃ n, k = n + 1 := ⟨k - 1, by omega⟩
        obtain ⟨G, hG⟩ : ∃ G, hs[n]? = some G := ⟨_, List.getElem?_eq_getElem (by omega)⟩
        have hfG := (HGD.out n (by omega) G hG).1
        have hsG := (formed_nat hfG).2.2.2.2.2.2.2.2.1
        obtain ⟨b', off', N', f', tokG, e1, hN', hbd', _, _, gok, gt, gcell⟩ := Hds.get h hG
        simp only [Option.some.injEq, Addr.mk.injEq, and_true] at e1
        obtain ⟨rfl, rfl⟩ := e1
        obtain ⟨T1, fr1, q1⟩ := HN.out
        obtain ⟨T2, fr2, q2⟩ := hN'
        have e3 : row N f = row N' f' := by
          have := Option.some.inj (q1.symm.trans q2)
          injection this
        have e4 : N = N' := by have := congrArg Array.size e3; simpa using this
        subst e4
        have e5 := row_inj e3
        have HAG : Hid (∀ j, j < 125 → f (off + 125 * n + j) = hF G tokG j) := by
          show ∀ j, _
          intro j hj
          rw [e5 _ (by omega)]
          exact gcell j hj
        have HTG : Hid (∀ L w', St w0 [] L w' → Toks w' tokG G.toks) := by
          show ∀ _ _ _, _
          exact fun L w' h' => gt.keep h'.none
        have hcase : (H.writer < G.writer ∨ G.writer < H.writer) ∨ ((H.writer ≤ G.writer ∧ G.writer ≤ H.writer) ∧ ((H.seq < G.seq + 1 ∨ G.seq + 1 < H.seq) ∨ ((H.seq ≤ G.seq + 1 ∧ G.seq + 1 ≤ H.seq) ∧ (Hid (H.prev ≠ hashB G) ∨ Hid (H.prev = hashB G))))) := by
          by_cases c1 : H.writer = G.writer
          · refine .inr ⟨by omega, ?_⟩
            by_cases c2 : H.seq = G.seq + 1
            · refine .inr ⟨by omega, ?_⟩
              by_cases c3 : H.prev = hashB G
              · exact .inr c3
              · exact .inl c3
            · exact .inl (by omega)
          · exact .inl (by omega)
        have HC : Hid (linkedB hs = false ∨ lkTo hs (n + 1 + 1)) := by
          show _ ∨ _
          by_cases c : nextTo G H
          · refine .inr (HGD.out.step hH hf fun i G' e hi => ?_)
            obtain rfl : n = i := by omega
            obtain rfl : G = G' := Option.some.inj (hG.symm.trans hi)
            exact c
          · exact .inl (linked_no (lkTo.not_next hH hG c))
        have HNE : Hid (¬ nextTo G H → linkedB hs = false) := fun c => linked_no (lkTo.not_next hH hG c)
        have HYE : Hid (nextTo G H → lkTo hs (n + 1 + 1)) := fun c => HGD.out.step hH hf fun i G' e hi => by
          obtain rfl : n = i := by omega
          obtain rfl : G = G' := Option.some.inj (hG.symm.trans hi)
          exact c
        clear hf hH h hN hG q1 q2 e3 e5 gcell gt HC hfG hk0
        go_wp2_with (first
      | ((with_reducible refine at_d 12 ?_); go_loud (refine wl_idx (i := (n + 1)) Tryd.underlying22 siz35 (by omega) rfl rfl rfl rfl (hk := ?_)))
      | ((with_reducible refine at_d 13 ?_); go_loud (refine wl_loadP rfl rfl rfl (HN.out.keep hst.none) agg35 (by omega) HAH.out (hk := ?_)))
      | ((with_reducible refine at_d 14 ?_); go_loud (refine wl_call pl29 rfl rfl rfl (refformed_any H _ _ hok (HT.out _ _ hst)) ?_; rintro v14 w14 ⟨rfl, hst14⟩; replace hst := hst.call hst14; clear hst14; rw [HF.out])))
        rcases hcase with hw | ⟨hw, hs1 | ⟨hs1, HPN | HPE⟩⟩
        · have HNO : Hid (linkedB hs = false) := HNE.out fun c => by have := c.1; omega
          refine rg_start (St w0 [] []) mixed (hst.drew) ?_
          refine rg_take [0, 1, 2, 3, 4, 5, 6, 7, 8, 9, 10, 11, 12, 13, 14, 15, 16, 17, 18, 19, 20, 21, 22, 23, 24, 25, 26, 27, 28, 29, 30, 31, 32, 33, 34, 35, 36, 37, 38, 39, 40, 41, 42, 43, 44] 0 _ rfl (by kernel_rfl) (by kernel_rfl) rfl (cls_st _ _ _) (fun _ _ _ _ _ h => h) ?_
          refine tk_wp (hk := ?_)
          refine tk_cmp (p := ((n : Int) + 1)) (q := 0) (by first | exact decide_eq_true (by omega) | exact decide_eq_false (by omega)) rfl rfl rfl rfl rfl rfl (hk := ?_)
          refine tk_wp (hk := ?_)
          first | (refine tk_skip rfl (by rfl) (hk := ?_)) | (refine tk_wp (hk := ?_))
          first | (refine tk_skip rfl (by rfl) (hk := ?_)) | (refine tk_wp (hk := ?_))
          first | (refine tk_skip rfl (by rfl) (hk := ?_)) | (refine tk_idx (i := (n + 1)) Tryd.underlying22 siz35 (by omega) rfl rfl rfl rfl rfl (hk := ?_))
          first | (refine tk_skip rfl (by rfl) (hk := ?_)) | (refine tk_fld fld35_0 rfl rfl rfl rfl rfl (hk := ?_))
          first | (refine tk_skip rfl (by rfl) (hk := ?_)) | (refine tk_load1 rfl rfl (by rfl) rfl (fun w hst => HN.out.keep hst.none) (show f _ = .int .i64 H.writer from HAH.out 0 (by omega)) (by omega) sc3 (hk := ?_))
          first | (refine tk_skip rfl (by rfl) (hk := ?_)) | (refine tk_wp (hk := ?_))
          first | (refine tk_skip rfl (by rfl) (hk := ?_)) | (refine tk_wp (hk := ?_))
          first | (refine tk_skip rfl (by rfl) (hk := ?_)) | (refine tk_ari (p := ((n : Int) + 1)) (q := 1) (r := (n : Int)) (k := .i64) (by simp only [ariI] <;> omega) (by show _ ∧ _; omega) rfl rfl rfl rfl rfl rfl (hk := ?_))
          first | (refine tk_skip rfl (by rfl) (hk := ?_)) | (refine tk_idx (i := n) Tryd.underlying22 siz35 (by omega) rfl rfl rfl rfl rfl (hk := ?_))
          first | (refine tk_skip rfl (by rfl) (hk := ?_)) | (refine tk_fld fld35_0 rfl rfl rfl rfl rfl (hk := ?_))
          first | (refine tk_skip rfl (by rfl) (hk := ?_)) | (refine tk_load1 rfl rfl (by rfl) rfl (fun w hst => HN.out.keep hst.none) (show f _ = .int .i64 G.writer from HAG.out 0 (by omega)) (by omega) sc3 (hk := ?_))
          first | (refine tk_skip rfl (by rfl) (hk := ?_)) | (refine tk_cmp (p := H.writer) (q := G.writer) (by first | exact decide_eq_true (by omega) | exact decide_eq_false (by omega)) rfl rfl rfl rfl rfl rfl (hk := ?_))
          first | (refine tk_skip rfl (by rfl) (hk := ?_)) | (refine tk_wp (hk := ?_))
          first | (refine tk_skip rfl (by rfl) (hk := ?_)) | (refine tk_wp (hk := ?_))
          first | (refine tk_skip rfl (by rfl) (hk := ?_)) | (refine tk_wp (hk := ?_))
          first | (refine tk_skip rfl (by rfl) (hk := ?_)) | (refine tk_idx (i := (n + 1)) Tryd.underlying22 siz35 (by omega) rfl rfl rfl rfl rfl (hk := ?_))
          first | (refine tk_skip rfl (by rfl) (hk := ?_)) | (refine tk_fld fld35_1 rfl rfl rfl rfl rfl (hk := ?_))
          first | (refine tk_skip rfl (by rfl) (hk := ?_)) | (refine tk_load1 rfl rfl (by rfl) rfl (fun w hst => HN.out.keep hst.none) (show f _ = .int .u64 (H.seq : Int) from HAH.out 1 (by omega)) (by omega) sc12 (hk := ?_))
          first | (refine tk_skip rfl (by rfl) (hk := ?_)) | (refine tk_wp (hk := ?_))
          first | (refine tk_skip rfl (by rfl) (hk := ?_)) | (refine tk_wp (hk := ?_))
          first | (refine tk_skip rfl (by rfl) (hk := ?_)) | (refine tk_ari (p := ((n : Int) + 1)) (q := 1) (r := (n : Int)) (k := .i64) (by simp only [ariI] <;> omega) (by show _ ∧ _; omega) rfl rfl rfl rfl rfl rfl (hk := ?_))
          first | (refine tk_skip rfl (by rfl) (hk := ?_)) | (refine tk_idx (i := n) Tryd.underlying22 siz35 (by omega) rfl rfl rfl rfl rfl (hk := ?_))
          first | (refine tk_skip rfl (by rfl) (hk := ?_)) | (refine tk_fld fld35_1 rfl rfl rfl rfl rfl (hk := ?_))
          first | (refine tk_skip rfl (by rfl) (hk := ?_)) | (refine tk_load1 rfl rfl (by rfl) rfl (fun w hst => HN.out.keep hst.none) (show f _ = .int .u64 (G.seq : Int) from HAG.out 1 (by omega)) (by omega) sc12 (hk := ?_))
          first | (refine tk_skip rfl (by rfl) (hk := ?_)) | (refine tk_ari (p := (G.seq : Int)) (q := 1) (r := ((G.seq : Int) + 1)) (k := .u64) (by simp only [ariI] <;> omega) (by show _ ∧ _; omega) rfl rfl rfl rfl rfl rfl (hk := ?_))
          first | (refine tk_skip rfl (by rfl) (hk := ?_)) | (refine tk_cmp (p := (H.seq : Int)) (q := ((G.seq : Int) + 1)) (by first | exact decide_eq_true (by omega) | exact decide_eq_false (by omega)) rfl rfl rfl rfl rfl rfl (hk := ?_))
          first | (refine tk_skip rfl (by rfl) (hk := ?_)) | (refine tk_wp (hk := ?_))
          first | (refine tk_skip rfl (by rfl) (hk := ?_)) | (refine tk_wp (hk := ?_))
          first | (refine tk_skip rfl (by rfl) (hk := ?_)) | (refine tk_wp (hk := ?_))
          first | (refine tk_skip rfl (by rfl) (hk := ?_)) | (refine tk_wp (hk := ?_))
          first | (refine tk_skip rfl (by rfl) (hk := ?_)) | (refine tk_idx (i := (n + 1)) Tryd.underlying22 siz35 (by omega) rfl rfl rfl rfl rfl (hk := ?_))
          first | (refine tk_skip rfl (by rfl) (hk := ?_)) | (refine tk_fld fld35_2 rfl rfl rfl rfl rfl (hk := ?_))
          first | (refine tk_skip rfl (by rfl) (hk := ?_)) | (refine tk_loadP rfl rfl (by rfl) rfl (fun w hst => HN.out.keep hst.none) agg29 (by omega) (g := bF H.prev) (fun j hj => (by rw [Nat.add_assoc _ 2 j]; exact (HAH.out (2 + j) (by omega)).trans (hF_prev _ _ j hj))) (hk := ?_))
          first | (refine tk_skip rfl (by rfl) (hk := ?_)) | (refine tk_wp (hk := ?_))
          first | (refine tk_skip rfl (by rfl) (hk := ?_)) | (refine tk_wp (hk := ?_))
          first | (refine tk_skip rfl (by rfl) (hk := ?_)) | (refine tk_ari (p := ((n : Int) + 1)) (q := 1) (r := (n : Int)) (k := .i64) (by simp only [ariI] <;> omega) (by show _ ∧ _; omega) rfl rfl rfl rfl rfl rfl (hk := ?_))
          first | (refine tk_skip rfl (by rfl) (hk := ?_)) | (refine tk_idx (i := n) Tryd.underlying22 siz35 (by omega) rfl rfl rfl rfl rfl (hk := ?_))
          first | (refine tk_skip rfl (by rfl) (hk := ?_)) | (refine tk_loadP rfl rfl (by rfl) rfl (fun w hst => HN.out.keep hst.none) agg35 (by omega) HAG.out (hk := ?_))
          first | (refine tk_skip rfl (by rfl) (hk := ?_)) | (refine tk_call pl23 rfl rfl (by rfl) rfl (fun w hst => refhash_any G tokG w gok (HTG.out _ _ hst) (hK.keep hst.none)) (fun w u w' hR => (by obtain ⟨rfl, hs'⟩ := hR; exact ⟨rfl, hs'.below⟩)) (hk := ?_))
          first | (refine tk_skip rfl (by rfl) (hk := ?_)) | (first | (refine tk_neB rfl rfl rfl eqb29 rfl rfl hok.prev.1 (sha_len _) hok.prev.2 (sha_lt _) (r := true) (decide_eq_true HPN.out) (hk := ?_)) | (refine tk_neB rfl rfl rfl eqb29 rfl rfl hok.prev.1 (sha_len _) hok.prev.2 (sha_lt _) (r := false) (by rw [HPE.out]; simp) (hk := ?_)) | (refine tk_skip rfl (by rfl) (hk := ?_)))
          first | (refine tk_skip rfl (by rfl) (hk := ?_)) | (refine tk_wp (hk := ?_))
          refine tk_wp (hk := ?_)
          refine tk_nil ?_
          refine rg_done (by kernel_rfl) (fun w1 hst1 => ?_) _
          clear hst; have hst := hst1; clear hst1
          go_wp2_with (fail)
          go_ret
          exact ⟨_, rfl, by rw [HNO.out]; rfl, hst.none⟩
        · have HNO : Hid (linkedB hs = false) := HNE.out fun c => by have := c.2.1; omega
          refine rg_start (St w0 [] []) mixed (hst.drew) ?_
          refine rg_take [0, 1, 2, 3, 4, 5, 6, 7, 8, 9, 10, 11, 12, 13, 14, 15, 16, 17, 18, 19, 20, 21, 22, 23, 24, 25, 26, 27, 28, 29, 30, 31, 32, 33, 34, 35, 36, 37, 38, 39, 40, 41, 42, 43, 44] 0 _ rfl (by kernel_rfl) (by kernel_rfl) rfl (cls_st _ _ _) (fun _ _ _ _ _ h => h) ?_
          refine tk_wp (hk := ?_)
          refine tk_cmp (p := ((n : Int) + 1)) (q := 0) (by first | exact decide_eq_true (by omega) | exact decide_eq_false (by omega)) rfl rfl rfl rfl rfl rfl (hk := ?_)
          refine tk_wp (hk := ?_)
          first | (refine tk_skip rfl (by rfl) (hk := ?_)) | (refine tk_wp (hk := ?_))
          first | (refine tk_skip rfl (by rfl) (hk := ?_)) | (refine tk_wp (hk := ?_))
          first | (refine tk_skip rfl (by rfl) (hk := ?_)) | (refine tk_idx (i := (n + 1)) Tryd.underlying22 siz35 (by omega) rfl rfl rfl rfl rfl (hk := ?_))
          first | (refine tk_skip rfl (by rfl) (hk := ?_)) | (refine tk_fld fld35_0 rfl rfl rfl rfl rfl (hk := ?_))
          first | (refine tk_skip rfl (by rfl) (hk := ?_)) | (refine tk_load1 rfl rfl (by rfl) rfl (fun w hst => HN.out.keep hst.none) (show f _ = .int .i64 H.writer from HAH.out 0 (by omega)) (by omega) sc3 (hk := ?_))
          first | (refine tk_skip rfl (by rfl) (hk := ?_)) | (refine tk_wp (hk := ?_))
          first | (refine tk_skip rfl (by rfl) (hk := ?_)) | (refine tk_wp (hk := ?_))
          first | (refine tk_skip rfl (by rfl) (hk := ?_)) | (refine tk_ari (p := ((n : Int) + 1)) (q := 1) (r := (n : Int)) (k := .i64) (by simp only [ariI] <;> omega) (by show _ ∧ _; omega) rfl rfl rfl rfl rfl rfl (hk := ?_))
          first | (refine tk_skip rfl (by rfl) (hk := ?_)) | (refine tk_idx (i := n) Tryd.underlying22 siz35 (by omega) rfl rfl rfl rfl rfl (hk := ?_))
          first | (refine tk_skip rfl (by rfl) (hk := ?_)) | (refine tk_fld fld35_0 rfl rfl rfl rfl rfl (hk := ?_))
          first | (refine tk_skip rfl (by rfl) (hk := ?_)) | (refine tk_load1 rfl rfl (by rfl) rfl (fun w hst => HN.out.keep hst.none) (show f _ = .int .i64 G.writer from HAG.out 0 (by omega)) (by omega) sc3 (hk := ?_))
          first | (refine tk_skip rfl (by rfl) (hk := ?_)) | (refine tk_cmp (p := H.writer) (q := G.writer) (by first | exact decide_eq_true (by omega) | exact decide_eq_false (by omega)) rfl rfl rfl rfl rfl rfl (hk := ?_))
          first | (refine tk_skip rfl (by rfl) (hk := ?_)) | (refine tk_wp (hk := ?_))
          first | (refine tk_skip rfl (by rfl) (hk := ?_)) | (refine tk_wp (hk := ?_))
          first | (refine tk_skip rfl (by rfl) (hk := ?_)) | (refine tk_wp (hk := ?_))
          first | (refine tk_skip rfl (by rfl) (hk := ?_)) | (refine tk_idx (i := (n + 1)) Tryd.underlying22 siz35 (by omega) rfl rfl rfl rfl rfl (hk := ?_))
          first | (refine tk_skip rfl (by rfl) (hk := ?_)) | (refine tk_fld fld35_1 rfl rfl rfl rfl rfl (hk := ?_))
          first | (refine tk_skip rfl (by rfl) (hk := ?_)) | (refine tk_load1 rfl rfl (by rfl) rfl (fun w hst => HN.out.keep hst.none) (show f _ = .int .u64 (H.seq : Int) from HAH.out 1 (by omega)) (by omega) sc12 (hk := ?_))
          first | (refine tk_skip rfl (by rfl) (hk := ?_)) | (refine tk_wp (hk := ?_))
          first | (refine tk_skip rfl (by rfl) (hk := ?_)) | (refine tk_wp (hk := ?_))
          first | (refine tk_skip rfl (by rfl) (hk := ?_)) | (refine tk_ari (p := ((n : Int) + 1)) (q := 1) (r := (n : Int)) (k := .i64) (by simp only [ariI] <;> omega) (by show _ ∧ _; omega) rfl rfl rfl rfl rfl rfl (hk := ?_))
          first | (refine tk_skip rfl (by rfl) (hk := ?_)) | (refine tk_idx (i := n) Tryd.underlying22 siz35 (by omega) rfl rfl rfl rfl rfl (hk := ?_))
          first | (refine tk_skip rfl (by rfl) (hk := ?_)) | (refine tk_fld fld35_1 rfl rfl rfl rfl rfl (hk := ?_))
          first | (refine tk_skip rfl (by rfl) (hk := ?_)) | (refine tk_load1 rfl rfl (by rfl) rfl (fun w hst => HN.out.keep hst.none) (show f _ = .int .u64 (G.seq : Int) from HAG.out 1 (by omega)) (by omega) sc12 (hk := ?_))
          first | (refine tk_skip rfl (by rfl) (hk := ?_)) | (refine tk_ari (p := (G.seq : Int)) (q := 1) (r := ((G.seq : Int) + 1)) (k := .u64) (by simp only [ariI] <;> omega) (by show _ ∧ _; omega) rfl rfl rfl rfl rfl rfl (hk := ?_))
          first | (refine tk_skip rfl (by rfl) (hk := ?_)) | (refine tk_cmp (p := (H.seq : Int)) (q := ((G.seq : Int) + 1)) (by first | exact decide_eq_true (by omega) | exact decide_eq_false (by omega)) rfl rfl rfl rfl rfl rfl (hk := ?_))
          first | (refine tk_skip rfl (by rfl) (hk := ?_)) | (refine tk_wp (hk := ?_))
          first | (refine tk_skip rfl (by rfl) (hk := ?_)) | (refine tk_wp (hk := ?_))
          first | (refine tk_skip rfl (by rfl) (hk := ?_)) | (refine tk_wp (hk := ?_))
          first | (refine tk_skip rfl (by rfl) (hk := ?_)) | (refine tk_wp (hk := ?_))
          first | (refine tk_skip rfl (by rfl) (hk := ?_)) | (refine tk_idx (i := (n + 1)) Tryd.underlying22 siz35 (by omega) rfl rfl rfl rfl rfl (hk := ?_))
          first | (refine tk_skip rfl (by rfl) (hk := ?_)) | (refine tk_fld fld35_2 rfl rfl rfl rfl rfl (hk := ?_))
          first | (refine tk_skip rfl (by rfl) (hk := ?_)) | (refine tk_loadP rfl rfl (by rfl) rfl (fun w hst => HN.out.keep hst.none) agg29 (by omega) (g := bF H.prev) (fun j hj => (by rw [Nat.add_assoc _ 2 j]; exact (HAH.out (2 + j) (by omega)).trans (hF_prev _ _ j hj))) (hk := ?_))
          first | (refine tk_skip rfl (by rfl) (hk := ?_)) | (refine tk_wp (hk := ?_))
          first | (refine tk_skip rfl (by rfl) (hk := ?_)) | (refine tk_wp (hk := ?_))
          first | (refine tk_skip rfl (by rfl) (hk := ?_)) | (refine tk_ari (p := ((n : Int) + 1)) (q := 1) (r := (n : Int)) (k := .i64) (by simp only [ariI] <;> omega) (by show _ ∧ _; omega) rfl rfl rfl rfl rfl rfl (hk := ?_))
          first | (refine tk_skip rfl (by rfl) (hk := ?_)) | (refine tk_idx (i := n) Tryd.underlying22 siz35 (by omega) rfl rfl rfl rfl rfl (hk := ?_))
          first | (refine tk_skip rfl (by rfl) (hk := ?_)) | (refine tk_loadP rfl rfl (by rfl) rfl (fun w hst => HN.out.keep hst.none) agg35 (by omega) HAG.out (hk := ?_))
          first | (refine tk_skip rfl (by rfl) (hk := ?_)) | (refine tk_call pl23 rfl rfl (by rfl) rfl (fun w hst => refhash_any G tokG w gok (HTG.out _ _ hst) (hK.keep hst.none)) (fun w u w' hR => (by obtain ⟨rfl, hs'⟩ := hR; exact ⟨rfl, hs'.below⟩)) (hk := ?_))
          first | (refine tk_skip rfl (by rfl) (hk := ?_)) | (first | (refine tk_neB rfl rfl rfl eqb29 rfl rfl hok.prev.1 (sha_len _) hok.prev.2 (sha_lt _) (r := true) (decide_eq_true HPN.out) (hk := ?_)) | (refine tk_neB rfl rfl rfl eqb29 rfl rfl hok.prev.1 (sha_len _) hok.prev.2 (sha_lt _) (r := false) (by rw [HPE.out]; simp) (hk := ?_)) | (refine tk_skip rfl (by rfl) (hk := ?_)))
          first | (refine tk_skip rfl (by rfl) (hk := ?_)) | (refine tk_wp (hk := ?_))
          refine tk_wp (hk := ?_)
          refine tk_nil ?_
          refine rg_done (by kernel_rfl) (fun w1 hst1 => ?_) _
          clear hst; have hst := hst1; clear hst1
          go_wp2_with (fail)
          go_ret
          exact ⟨_, rfl, by rw [HNO.out]; rfl, hst.none⟩
        · have HNO : Hid (linkedB hs = false) := HNE.out fun c => HPN.out c.2.2
          refine rg_start (St w0 [] []) mixed (hst.drew) ?_
          refine rg_take [0, 1, 2, 3, 4, 5, 6, 7, 8, 9, 10, 11, 12, 13, 14, 15, 16, 17, 18, 19, 20, 21, 22, 23, 24, 25, 26, 27, 28, 29, 30, 31, 32, 33, 34, 35, 36, 37, 38, 39, 40, 41, 42, 43, 44] 0 _ rfl (by kernel_rfl) (by kernel_rfl) rfl (cls_st _ _ _) (fun _ _ _ _ _ h => h) ?_
          refine tk_wp (hk := ?_)
          refine tk_cmp (p := ((n : Int) + 1)) (q := 0) (by first | exact decide_eq_true (by omega) | exact decide_eq_false (by omega)) rfl rfl rfl rfl rfl rfl (hk := ?_)
          refine tk_wp (hk := ?_)
          first | (refine tk_skip rfl (by rfl) (hk := ?_)) | (refine tk_wp (hk := ?_))
          first | (refine tk_skip rfl (by rfl) (hk := ?_)) | (refine tk_wp (hk := ?_))
          first | (refine tk_skip rfl (by rfl) (hk := ?_)) | (refine tk_idx (i := (n + 1)) Tryd.underlying22 siz35 (by omega) rfl rfl rfl rfl rfl (hk := ?_))
          first | (refine tk_skip rfl (by rfl) (hk := ?_)) | (refine tk_fld fld35_0 rfl rfl rfl rfl rfl (hk := ?_))
          first | (refine tk_skip rfl (by rfl) (hk := ?_)) | (refine tk_load1 rfl rfl (by rfl) rfl (fun w hst => HN.out.keep hst.none) (show f _ = .int .i64 H.writer from HAH.out 0 (by omega)) (by omega) sc3 (hk := ?_))
          first | (refine tk_skip rfl (by rfl) (hk := ?_)) | (refine tk_wp (hk := ?_))
          first | (refine tk_skip rfl (by rfl) (hk := ?_)) | (refine tk_wp (hk := ?_))
          first | (refine tk_skip rfl (by rfl) (hk := ?_)) | (refine tk_ari (p := ((n : Int) + 1)) (q := 1) (r := (n : Int)) (k := .i64) (by simp only [ariI] <;> omega) (by show _ ∧ _; omega) rfl rfl rfl rfl rfl rfl (hk := ?_))
          first | (refine tk_skip rfl (by rfl) (hk := ?_)) | (refine tk_idx (i := n) Tryd.underlying22 siz35 (by omega) rfl rfl rfl rfl rfl (hk := ?_))
          first | (refine tk_skip rfl (by rfl) (hk := ?_)) | (refine tk_fld fld35_0 rfl rfl rfl rfl rfl (hk := ?_))
          first | (refine tk_skip rfl (by rfl) (hk := ?_)) | (refine tk_load1 rfl rfl (by rfl) rfl (fun w hst => HN.out.keep hst.none) (show f _ = .int .i64 G.writer from HAG.out 0 (by omega)) (by omega) sc3 (hk := ?_))
          first | (refine tk_skip rfl (by rfl) (hk := ?_)) | (refine tk_cmp (p := H.writer) (q := G.writer) (by first | exact decide_eq_true (by omega) | exact decide_eq_false (by omega)) rfl rfl rfl rfl rfl rfl (hk := ?_))
          first | (refine tk_skip rfl (by rfl) (hk := ?_)) | (refine tk_wp (hk := ?_))
          first | (refine tk_skip rfl (by rfl) (hk := ?_)) | (refine tk_wp (hk := ?_))
          first | (refine tk_skip rfl (by rfl) (hk := ?_)) | (refine tk_wp (hk := ?_))
          first | (refine tk_skip rfl (by rfl) (hk := ?_)) | (refine tk_idx (i := (n + 1)) Tryd.underlying22 siz35 (by omega) rfl rfl rfl rfl rfl (hk := ?_))
          first | (refine tk_skip rfl (by rfl) (hk := ?_)) | (refine tk_fld fld35_1 rfl rfl rfl rfl rfl (hk := ?_))
          first | (refine tk_skip rfl (by rfl) (hk := ?_)) | (refine tk_load1 rfl rfl (by rfl) rfl (fun w hst => HN.out.keep hst.none) (show f _ = .int .u64 (H.seq : Int) from HAH.out 1 (by omega)) (by omega) sc12 (hk := ?_))
          first | (refine tk_skip rfl (by rfl) (hk := ?_)) | (refine tk_wp (hk := ?_))
          first | (refine tk_skip rfl (by rfl) (hk := ?_)) | (refine tk_wp (hk := ?_))
          first | (refine tk_skip rfl (by rfl) (hk := ?_)) | (refine tk_ari (p := ((n : Int) + 1)) (q := 1) (r := (n : Int)) (k := .i64) (by simp only [ariI] <;> omega) (by show _ ∧ _; omega) rfl rfl rfl rfl rfl rfl (hk := ?_))
          first | (refine tk_skip rfl (by rfl) (hk := ?_)) | (refine tk_idx (i := n) Tryd.underlying22 siz35 (by omega) rfl rfl rfl rfl rfl (hk := ?_))
          first | (refine tk_skip rfl (by rfl) (hk := ?_)) | (refine tk_fld fld35_1 rfl rfl rfl rfl rfl (hk := ?_))
          first | (refine tk_skip rfl (by rfl) (hk := ?_)) | (refine tk_load1 rfl rfl (by rfl) rfl (fun w hst => HN.out.keep hst.none) (show f _ = .int .u64 (G.seq : Int) from HAG.out 1 (by omega)) (by omega) sc12 (hk := ?_))
          first | (refine tk_skip rfl (by rfl) (hk := ?_)) | (refine tk_ari (p := (G.seq : Int)) (q := 1) (r := ((G.seq : Int) + 1)) (k := .u64) (by simp only [ariI] <;> omega) (by show _ ∧ _; omega) rfl rfl rfl rfl rfl rfl (hk := ?_))
          first | (refine tk_skip rfl (by rfl) (hk := ?_)) | (refine tk_cmp (p := (H.seq : Int)) (q := ((G.seq : Int) + 1)) (by first | exact decide_eq_true (by omega) | exact decide_eq_false (by omega)) rfl rfl rfl rfl rfl rfl (hk := ?_))
          first | (refine tk_skip rfl (by rfl) (hk := ?_)) | (refine tk_wp (hk := ?_))
          first | (refine tk_skip rfl (by rfl) (hk := ?_)) | (refine tk_wp (hk := ?_))
          first | (refine tk_skip rfl (by rfl) (hk := ?_)) | (refine tk_wp (hk := ?_))
          first | (refine tk_skip rfl (by rfl) (hk := ?_)) | (refine tk_wp (hk := ?_))
          first | (refine tk_skip rfl (by rfl) (hk := ?_)) | (refine tk_idx (i := (n + 1)) Tryd.underlying22 siz35 (by omega) rfl rfl rfl rfl rfl (hk := ?_))
          first | (refine tk_skip rfl (by rfl) (hk := ?_)) | (refine tk_fld fld35_2 rfl rfl rfl rfl rfl (hk := ?_))
          first | (refine tk_skip rfl (by rfl) (hk := ?_)) | (refine tk_loadP rfl rfl (by rfl) rfl (fun w hst => HN.out.keep hst.none) agg29 (by omega) (g := bF H.prev) (fun j hj => (by rw [Nat.add_assoc _ 2 j]; exact (HAH.out (2 + j) (by omega)).trans (hF_prev _ _ j hj))) (hk := ?_))
          first | (refine tk_skip rfl (by rfl) (hk := ?_)) | (refine tk_wp (hk := ?_))
          first | (refine tk_skip rfl (by rfl) (hk := ?_)) | (refine tk_wp (hk := ?_))
          first | (refine tk_skip rfl (by rfl) (hk := ?_)) | (refine tk_ari (p := ((n : Int) + 1)) (q := 1) (r := (n : Int)) (k := .i64) (by simp only [ariI] <;> omega) (by show _ ∧ _; omega) rfl rfl rfl rfl rfl rfl (hk := ?_))
          first | (refine tk_skip rfl (by rfl) (hk := ?_)) | (refine tk_idx (i := n) Tryd.underlying22 siz35 (by omega) rfl rfl rfl rfl rfl (hk := ?_))
          first | (refine tk_skip rfl (by rfl) (hk := ?_)) | (refine tk_loadP rfl rfl (by rfl) rfl (fun w hst => HN.out.keep hst.none) agg35 (by omega) HAG.out (hk := ?_))
          first | (refine tk_skip rfl (by rfl) (hk := ?_)) | (refine tk_call pl23 rfl rfl (by rfl) rfl (fun w hst => refhash_any G tokG w gok (HTG.out _ _ hst) (hK.keep hst.none)) (fun w u w' hR => (by obtain ⟨rfl, hs'⟩ := hR; exact ⟨rfl, hs'.below⟩)) (hk := ?_))
          first | (refine tk_skip rfl (by rfl) (hk := ?_)) | (first | (refine tk_neB rfl rfl rfl eqb29 rfl rfl hok.prev.1 (sha_len _) hok.prev.2 (sha_lt _) (r := true) (decide_eq_true HPN.out) (hk := ?_)) | (refine tk_neB rfl rfl rfl eqb29 rfl rfl hok.prev.1 (sha_len _) hok.prev.2 (sha_lt _) (r := false) (by rw [HPE.out]; simp) (hk := ?_)) | (refine tk_skip rfl (by rfl) (hk := ?_)))
          first | (refine tk_skip rfl (by rfl) (hk := ?_)) | (refine tk_wp (hk := ?_))
          refine tk_wp (hk := ?_)
          refine tk_nil ?_
          refine rg_done (by kernel_rfl) (fun w1 hst1 => ?_) _
          clear hst; have hst := hst1; clear hst1
          go_wp2_with (fail)
          go_ret
          exact ⟨_, rfl, by rw [HNO.out]; rfl, hst.none⟩
        · have HYS : Hid (lkTo hs (n + 1 + 1)) := HYE.out ⟨by omega, by omega, HPE.out⟩
          refine rg_start (St w0 [] []) mixed (hst.drew) ?_
          refine rg_take [0, 1, 2, 3, 4, 5, 6, 7, 8, 9, 10, 11, 12, 13, 14, 15, 16, 17, 18, 19, 20, 21, 22, 23, 24, 25, 26, 27, 28, 29, 30, 31, 32, 33, 34, 35, 36, 37, 38, 39, 40, 41, 42, 43, 44] 0 _ rfl (by kernel_rfl) (by kernel_rfl) rfl (cls_st _ _ _) (fun _ _ _ _ _ h => h) ?_
          refine tk_wp (hk := ?_)
          refine tk_cmp (p := ((n : Int) + 1)) (q := 0) (by first | exact decide_eq_true (by omega) | exact decide_eq_false (by omega)) rfl rfl rfl rfl rfl rfl (hk := ?_)
          refine tk_wp (hk := ?_)
          first | (refine tk_skip rfl (by rfl) (hk := ?_)) | (refine tk_wp (hk := ?_))
          first | (refine tk_skip rfl (by rfl) (hk := ?_)) | (refine tk_wp (hk := ?_))
          first | (refine tk_skip rfl (by rfl) (hk := ?_)) | (refine tk_idx (i := (n + 1)) Tryd.underlying22 siz35 (by omega) rfl rfl rfl rfl rfl (hk := ?_))
          first | (refine tk_skip rfl (by rfl) (hk := ?_)) | (refine tk_fld fld35_0 rfl rfl rfl rfl rfl (hk := ?_))
          first | (refine tk_skip rfl (by rfl) (hk := ?_)) | (refine tk_load1 rfl rfl (by rfl) rfl (fun w hst => HN.out.keep hst.none) (show f _ = .int .i64 H.writer from HAH.out 0 (by omega)) (by omega) sc3 (hk := ?_))
          first | (refine tk_skip rfl (by rfl) (hk := ?_)) | (refine tk_wp (hk := ?_))
          first | (refine tk_skip rfl (by rfl) (hk := ?_)) | (refine tk_wp (hk := ?_))
          first | (refine tk_skip rfl (by rfl) (hk := ?_)) | (refine tk_ari (p := ((n : Int) + 1)) (q := 1) (r := (n : Int)) (k := .i64) (by simp only [ariI] <;> omega) (by show _ ∧ _; omega) rfl rfl rfl rfl rfl rfl (hk := ?_))
          first | (refine tk_skip rfl (by rfl) (hk := ?_)) | (refine tk_idx (i := n) Tryd.underlying22 siz35 (by omega) rfl rfl rfl rfl rfl (hk := ?_))
          first | (refine tk_skip rfl (by rfl) (hk := ?_)) | (refine tk_fld fld35_0 rfl rfl rfl rfl rfl (hk := ?_))
          first | (refine tk_skip rfl (by rfl) (hk := ?_)) | (refine tk_load1 rfl rfl (by rfl) rfl (fun w hst => HN.out.keep hst.none) (show f _ = .int .i64 G.writer from HAG.out 0 (by omega)) (by omega) sc3 (hk := ?_))
          first | (refine tk_skip rfl (by rfl) (hk := ?_)) | (refine tk_cmp (p := H.writer) (q := G.writer) (by first | exact decide_eq_true (by omega) | exact decide_eq_false (by omega)) rfl rfl rfl rfl rfl rfl (hk := ?_))
          first | (refine tk_skip rfl (by rfl) (hk := ?_)) | (refine tk_wp (hk := ?_))
          first | (refine tk_skip rfl (by rfl) (hk := ?_)) | (refine tk_wp (hk := ?_))
          first | (refine tk_skip rfl (by rfl) (hk := ?_)) | (refine tk_wp (hk := ?_))
          first | (refine tk_skip rfl (by rfl) (hk := ?_)) | (refine tk_idx (i := (n + 1)) Tryd.underlying22 siz35 (by omega) rfl rfl rfl rfl rfl (hk := ?_))
          first | (refine tk_skip rfl (by rfl) (hk := ?_)) | (refine tk_fld fld35_1 rfl rfl rfl rfl rfl (hk := ?_))
          first | (refine tk_skip rfl (by rfl) (hk := ?_)) | (refine tk_load1 rfl rfl (by rfl) rfl (fun w hst => HN.out.keep hst.none) (show f _ = .int .u64 (H.seq : Int) from HAH.out 1 (by omega)) (by omega) sc12 (hk := ?_))
          first | (refine tk_skip rfl (by rfl) (hk := ?_)) | (refine tk_wp (hk := ?_))
          first | (refine tk_skip rfl (by rfl) (hk := ?_)) | (refine tk_wp (hk := ?_))
          first | (refine tk_skip rfl (by rfl) (hk := ?_)) | (refine tk_ari (p := ((n : Int) + 1)) (q := 1) (r := (n : Int)) (k := .i64) (by simp only [ariI] <;> omega) (by show _ ∧ _; omega) rfl rfl rfl rfl rfl rfl (hk := ?_))
          first | (refine tk_skip rfl (by rfl) (hk := ?_)) | (refine tk_idx (i := n) Tryd.underlying22 siz35 (by omega) rfl rfl rfl rfl rfl (hk := ?_))
          first | (refine tk_skip rfl (by rfl) (hk := ?_)) | (refine tk_fld fld35_1 rfl rfl rfl rfl rfl (hk := ?_))
          first | (refine tk_skip rfl (by rfl) (hk := ?_)) | (refine tk_load1 rfl rfl (by rfl) rfl (fun w hst => HN.out.keep hst.none) (show f _ = .int .u64 (G.seq : Int) from HAG.out 1 (by omega)) (by omega) sc12 (hk := ?_))
          first | (refine tk_skip rfl (by rfl) (hk := ?_)) | (refine tk_ari (p := (G.seq : Int)) (q := 1) (r := ((G.seq : Int) + 1)) (k := .u64) (by simp only [ariI] <;> omega) (by show _ ∧ _; omega) rfl rfl rfl rfl rfl rfl (hk := ?_))
          first | (refine tk_skip rfl (by rfl) (hk := ?_)) | (refine tk_cmp (p := (H.seq : Int)) (q := ((G.seq : Int) + 1)) (by first | exact decide_eq_true (by omega) | exact decide_eq_false (by omega)) rfl rfl rfl rfl rfl rfl (hk := ?_))
          first | (refine tk_skip rfl (by rfl) (hk := ?_)) | (refine tk_wp (hk := ?_))
          first | (refine tk_skip rfl (by rfl) (hk := ?_)) | (refine tk_wp (hk := ?_))
          first | (refine tk_skip rfl (by rfl) (hk := ?_)) | (refine tk_wp (hk := ?_))
          first | (refine tk_skip rfl (by rfl) (hk := ?_)) | (refine tk_wp (hk := ?_))
          first | (refine tk_skip rfl (by rfl) (hk := ?_)) | (refine tk_idx (i := (n + 1)) Tryd.underlying22 siz35 (by omega) rfl rfl rfl rfl rfl (hk := ?_))
          first | (refine tk_skip rfl (by rfl) (hk := ?_)) | (refine tk_fld fld35_2 rfl rfl rfl rfl rfl (hk := ?_))
          first | (refine tk_skip rfl (by rfl) (hk := ?_)) | (refine tk_loadP rfl rfl (by rfl) rfl (fun w hst => HN.out.keep hst.none) agg29 (by omega) (g := bF H.prev) (fun j hj => (by rw [Nat.add_assoc _ 2 j]; exact (HAH.out (2 + j) (by omega)).trans (hF_prev _ _ j hj))) (hk := ?_))
          first | (refine tk_skip rfl (by rfl) (hk := ?_)) | (refine tk_wp (hk := ?_))
          first | (refine tk_skip rfl (by rfl) (hk := ?_)) | (refine tk_wp (hk := ?_))
          first | (refine tk_skip rfl (by rfl) (hk := ?_)) | (refine tk_ari (p := ((n : Int) + 1)) (q := 1) (r := (n : Int)) (k := .i64) (by simp only [ariI] <;> omega) (by show _ ∧ _; omega) rfl rfl rfl rfl rfl rfl (hk := ?_))
          first | (refine tk_skip rfl (by rfl) (hk := ?_)) | (refine tk_idx (i := n) Tryd.underlying22 siz35 (by omega) rfl rfl rfl rfl rfl (hk := ?_))
          first | (refine tk_skip rfl (by rfl) (hk := ?_)) | (refine tk_loadP rfl rfl (by rfl) rfl (fun w hst => HN.out.keep hst.none) agg35 (by omega) HAG.out (hk := ?_))
          first | (refine tk_skip rfl (by rfl) (hk := ?_)) | (refine tk_call pl23 rfl rfl (by rfl) rfl (fun w hst => refhash_any G tokG w gok (HTG.out _ _ hst) (hK.keep hst.none)) (fun w u w' hR => (by obtain ⟨rfl, hs'⟩ := hR; exact ⟨rfl, hs'.below⟩)) (hk := ?_))
          first | (refine tk_skip rfl (by rfl) (hk := ?_)) | (first | (refine tk_neB rfl rfl rfl eqb29 rfl rfl hok.prev.1 (sha_len _) hok.prev.2 (sha_lt _) (r := true) (decide_eq_true HPN.out) (hk := ?_)) | (refine tk_neB rfl rfl rfl eqb29 rfl rfl hok.prev.1 (sha_len _) hok.prev.2 (sha_lt _) (r := false) (by rw [HPE.out]; simp) (hk := ?_)) | (refine tk_skip rfl (by rfl) (hk := ?_)))
          first | (refine tk_skip rfl (by rfl) (hk := ?_)) | (refine tk_wp (hk := ?_))
          refine tk_wp (hk := ?_)
          refine tk_nil ?_
          refine rg_done (by kernel_rfl) (fun w1 hst1 => ?_) _
          clear hst; have hst := hst1; clear hst1
          go_wp2_with (fail)
          go_roundw
          case rel => exact ⟨n + 1 + 1, by omega, by go_num, HYS.out, hst.none⟩
          case measure => simp [intOf]; omega
    · obtain rfl : k = hs.length := by omega
      have HY : Hid (linkedB hs = true) := linked_yes hgood
      clear hgood h
      go_wp2_with (fail)
      go_ret
      exact ⟨_, rfl, by rw [HY.out]; rfl, hst.none⟩
end Go.Proofs.YtmegpfjlijphoaaDoor
