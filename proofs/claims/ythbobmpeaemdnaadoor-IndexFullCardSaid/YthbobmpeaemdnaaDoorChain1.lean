/- Tokens copied, headers copied. -/
import Derived.Test.YthbobmpeaemdnaaDoorHd4
namespace Go.Proofs.YthbobmpeaemdnaaDoor
open Go.RowKit Go.Jal

theorem toks_ownp {w : World} {E : List (Nat × Obj)} {v : Value} {ts : List (List Nat)} (h : Own 16 30 v ts.length (bF ts.flatten) E) (h16 : ∀ t ∈ ts, isB 16 t) (hE : ∀ p ∈ E, w.heap[p.1]? = some p.2) : Toks w v ts := by
  rcases h with ⟨rfl, h2, rfl⟩ | ⟨b, cap, f, rfl, h2, h3, rfl, h5⟩
  · obtain rfl : ts = [] := List.length_eq_zero_iff.1 h2
    exact ⟨none, 0, rfl, Nat.le_refl _, by simp [maxLen], h16, fun _ => rfl, fun h => absurd rfl h⟩
  · exact ⟨_, cap, rfl, h2, h3, h16, (by intro e; cases e), fun _ => ⟨b, 0, cap * 16, f, rfl, ⟨_, _, hE (b, blk (cap * 16) f 30) (by simp)⟩, by omega, fun j hj => by rw [Nat.zero_add]; exact h5 j (by omega)⟩⟩
theorem toks_src {w : World} {ad : Option Addr} {n c : Nat} {ts : List (List Nat)} (h : Toks w (.slice ad n c) ts) : Src w ad (n * 16) (bF ts.flatten) ∧ n = ts.length ∧ (ad = none → n = 0) := by
  obtain ⟨ad', c', e, h1, h2, h3, h4, h5⟩ := h
  simp only [Value.slice.injEq] at e
  obtain ⟨rfl, rfl, rfl⟩ := e
  refine ⟨?_, rfl, fun e => by have := h4 e; omega⟩
  by_cases hz : ts = []
  · left; rw [hz]; rfl
  · obtain ⟨b, off, N, f, k1, k2, k3, k4⟩ := h5 hz
    exact .inr ⟨b, off, N, f, k1, k2, by omega, fun j hj => k4 j (by omega)⟩
set_option maxRecDepth 100000 in
theorem tclone_any (v : Value) (ts : List (List Nat)) (w : World) (h : Toks w v ts) (hn : ts.length ≤ 1000000) :
    Ret Tryd.prog 72 #[v] w fun v' w' => ∃ E', Own 16 30 v' ts.length (bF ts.flatten) E' ∧ St w [] E' w' := by
  obtain ⟨ad, c, rfl, hc, hcm, h16, hnil, _⟩ := id h
  cases ad with
  | none =>
    obtain rfl := hnil rfl
    obtain rfl : ts = [] := List.length_eq_zero_iff.1 (by omega)
    go_enter Tryd.func72, Tryd.ntmps72
    have hst := St.refl w
    go_wp2_with (first
      | ((with_reducible refine at_d 4 ?_); go_loud (refine wl_eqnil rfl rfl Tryd.underlying31 rfl ?_)))
    go_ret
    exact ⟨_, rfl, [], Own.nil, hst⟩
  | some ad =>
    have hs := toks_src h
    go_enter Tryd.func72, Tryd.ntmps72
    have hst := St.refl w
    go_wp2_with (first
      | ((with_reducible refine at_d 4 ?_); go_loud (refine wl_eqnil rfl rfl Tryd.underlying31 rfl ?_))
      | ((with_reducible refine at_d 5 ?_); go_loud (refine wl_buildSlice0 rfl rfl elt31 hst ?_; intro b5 w5 hb5 hst1; clear hst; have hst := hst1; clear hst1))
      | ((with_reducible refine at_d 7 ?_); go_loud (refine wl_append rfl rfl elt31 rfl rfl (n := 0) (g := bF []) (E := [(b5, blk (0 * 16) (fun _ => nB 0) 30)]) (.inr ⟨_, 0, _, rfl, Nat.le_refl _, by simp [maxLen], rfl, by simp⟩) hst (toks_src (h.keep hst.none)).1 (by intro h; cases h) (by intro j _; rfl) (by omega) (by unfold maxLen; omega) ?_; intro v2 w2 E2 hown2 hst2 _; clear hst)))
    go_ret
    refine ⟨_, rfl, E2, ?_, by simpa using hst2⟩
    rw [Nat.zero_add] at hown2
    exact hown2.congr fun j _ => by simp [glue]
theorem one_cond (c : Bool) (a b : Value) : (cond c a b).oneCell' = cond c a.oneCell' b.oneCell' := by cases c <;> rfl
theorem hF_one (H : Hdr) (t : Value) (ht : t.oneCell' = true) (j : Nat) : (hF H t j).oneCell' = true := by
  have h1 : ∀ l i, (bF l i).oneCell' = true := fun _ _ => rfl
  have h2 : ∀ k (n : Int), (Value.int k n).oneCell' = true := fun _ _ => rfl
  have h3 : ∀ b, (Value.bool b).oneCell' = true := fun _ => rfl
  simp only [hF, one_cond, h1, h2, h3, ht, Bool.cond_self]
theorem hF_updT (H : Hdr) (t v : Value) (T : TypeId) : blk 125 (upd (hF H t) 53 v) T = blk 125 (hF H v) T := blk_congr fun j hj => by
  unfold upd
  by_cases c : j = 53
  · subst c; rfl
  · rw [if_neg c]
    unfold hF
    by_cases d : j < 53
    · rw [blt_t d]
      by_cases e : j < 34
      · rw [blt_t e]; rfl
      · rw [blt_f (show 34 ≤ j by omega)]; rfl
    · rw [blt_f (show 34 ≤ j by omega), blt_f (show 53 ≤ j by omega), blt_f (show 54 ≤ j by omega)]; rfl
set_option maxRecDepth 100000 in
theorem copied_any (H : Hdr) (tok : Value) (w : World) (ht : Toks w tok H.toks) (hn : H.toks.length ≤ 1000000) :
    Ret Tryd.prog 49 #[.agg (row 125 (hF H tok))] w fun v' w' => ∃ tok' E', v' = .agg (row 125 (hF H tok')) ∧ Own 16 30 tok' H.toks.length (bF H.toks.flatten) E' ∧ St w [] E' w' := by
  obtain ⟨ad, cap, rfl, hcap, hcm, _⟩ := id ht
  have HT : Hid (∀ w', St w [] [] w' → Toks w' (.slice ad H.toks.length cap) H.toks) := by show ∀ _, _; exact fun w' h' => ht.keep h'
  clear ht
  go_enter Tryd.func49, Tryd.ntmps49
  have hst := St.refl w
  go_wp2_with (first
      | ((with_reducible refine at_d 1 ?_); go_loud (refine wl_box rfl rfl rfl (by first | rfl | exact row_one _) hst ?_; clear hst; intro b1 w1 hb1 hst))
      | ((with_reducible refine at_d 2 ?_); go_loud (refine wl_alloc rfl rfl hst zer34 ?_; clear hst; intro b2 w2 hb2 hst))
      | ((with_reducible refine at_d 3 ?_); go_loud (refine wl_fld (r := 53) fld34_7 rfl rfl rfl rfl (hk := ?_)))
      | ((with_reducible refine at_d 4 ?_); go_loud (refine wl_load1v rfl rfl rfl (hs := sc31) (hk := ?_)))
      | ((with_reducible refine at_d 5 ?_); go_loud (refine wl_call pl72 rfl rfl rfl (tclone_any _ H.toks _ (HT.out _ hst.none) hn) ?_; rintro v5 w5 ⟨E5, hown5, hst5⟩; have hst0 := (hst.call hst5).perm List.perm_append_comm; clear hst hst5; have hst := hst0; clear hst0; have hown := hown5; obtain ⟨ad5, c5, rfl, _⟩ := hown5.slice))
      | ((with_reducible refine at_d 6 ?_); go_loud (refine wl_fld (r := 53) fld34_7 rfl rfl rfl rfl (hk := ?_)))
      | ((with_reducible refine at_n (.store 31 (.tmp 6) (.tmp 5)) ?_); go_loud (refine wl_store1 rfl rfl rfl rfl hst (.tail .head) (by omega) sc31 (by rfl) (hk := ?_); intro w1 hst1; clear hst; rw [hF_updT] at hst1; have hst := hst1; clear hst1))
      | ((with_reducible refine at_d 7 ?_); go_loud ((first | (refine wl_loadAll rfl rfl rfl (hs := agg34) (hk := ?_)) | (refine wl_loadN rfl rfl rfl (hs := agg34) (hk := ?_)))))
      | ((with_reducible refine at_n (.store 34 (.tmp 2) (.tmp 7)) ?_); go_loud (refine wl_storeAll rfl rfl rfl rfl hst (.tail .head) agg34 (fun j _ => hF_one H _ rfl j) (hk := ?_); intro w1 hst1; clear hst; have hst := hst1; clear hst1)))
  exact ret_cellN rfl rfl (St.hasb hst Pick.head) agg34 rfl ⟨_, rfl, _, E5, rfl, hown, hst.sub (List.Sublist.cons _ (List.Sublist.cons _ (List.Sublist.refl _)))⟩
end Go.Proofs.YthbobmpeaemdnaaDoor
