/- The walk of index.Ask; a chain added to beside all else. The walks of index.Put and Count. -/
import Derived.Test.YthbobmpeaemdnaaDoorI1
namespace Go.Proofs.YthbobmpeaemdnaaDoor
open Go.RowKit Go.Jal
/-- an index that can be read -/
def IdxR (w : World) (bx : Nat) (cs : List Ch) (n : Int) : Prop := Has w bx 13 (iF cs n) ∧ cs.length = 6 ∧ ∀ (i : Nat) c, cs[i]? = some c → ChainR w c.bc ((i : Int) + 1) c.hs
def viewC (c : Ch) : List Hdr × List (List Nat) := (c.hs, c.bl)
set_option maxRecDepth 100000 in
set_option maxHeartbeats 4000000 in
theorem iask_any (bx : Nat) (cs : List Ch) (n : Int) (H : Hdr) (tok bv : Value) (l : List Nat) (w0 : World) (hI0 : IdxR w0 bx cs n) (hok : H.Ok) (ht : Toks w0 tok H.toks) (hb : Bs w0 bv l) (hl : l.length ≤ 1000000) (hlt : ∀ x ∈ l, x < 256) (hK : Has w0 1 64 (wF Sha.K)) :
    Ret Tryd.prog 28 #[.pointer (some ⟨bx, 0, none⟩), .agg (row 126 (pF H tok bv))] w0 fun v' w' => v' = .int .i64 (askI (cs.map viewC) n H l) ∧ St w0 [] [] w' := by
  obtain ⟨hI, h6, hch⟩ := hI0
  obtain ⟨tad, tcap, rfl, _⟩ := id ht
  obtain ⟨bad, bcap, rfl, _⟩ := id hb
  have HT : Hid (∀ L w', St w0 [] L w' → Toks w' (.slice tad H.toks.length tcap) H.toks) := by show ∀ _ _ _, _; exact fun L w' h => ht.keep h.none
  have HB : Hid (∀ L w', St w0 [] L w' → Bs w' (.slice bad l.length bcap) l) := by show ∀ _ _ _, _; exact fun L w' h => hb.keep h.none
  have HLT := Lib.hid hlt
  clear hlt ht hb
  cases hf : formed H with
  | false =>
    have HF := Lib.hid hf
    have HR : Hid (askI (cs.map viewC) n H l = 1) := by show _ = _; unfold askI; rw [if_neg (by rw [hf]; simp)]
    clear hf hch h6
    go_enter Tryd.func28, Tryd.ntmps28
    have hst := St.refl w0
    go_wp2_with (first
      | ((with_reducible refine at_d 3 ?_); go_loud (refine wl_box rfl rfl rfl (by first | rfl | exact row_one _) hst ?_; clear hst; intro b3 w3 hb3 hst))
      | ((with_reducible refine at_d 6 ?_); go_loud (refine wl_fld (r := 0) fld37_0 rfl rfl rfl rfl (hk := ?_)))
      | ((with_reducible refine at_d 7 ?_); go_loud (refine wl_loadP rfl rfl rfl (hs := agg34) (hv := pF_hdr _ _ _) (hk := ?_)))
      | ((with_reducible refine at_d 8 ?_); go_loud (refine wl_call pl46 rfl rfl rfl (formed_any H _ _ hok (HT.out _ _ hst)) ?_; rintro v8 w8 ⟨rfl, hst8⟩; replace hst := hst.call hst8; clear hst8; rw [HF.out])))
    go_ret
    exact ⟨_, rfl, by rw [HR.out]; rfl, hst.none⟩
  | true =>
    have HF := Lib.hid hf
    obtain ⟨hw1, hw2, _⟩ := formed_nat hf
    obtain ⟨m, hm⟩ : ∃ m : Nat, H.writer = (m : Int) + 1 := ⟨(H.writer - 1).toNat, by omega⟩
    have hm6 : m < 6 := by omega
    obtain ⟨c, hc⟩ : ∃ c, cs[m]? = some c := ⟨_, List.getElem?_eq_getElem (by omega)⟩
    have HPC : Hid (iF cs n (0 + 1 * m) = .pointer (some ⟨c.bc, 0, none⟩)) := iF_chain hc hm6
    have hcr := hch m c hc
    have HR0 : askI (cs.map viewC) n H l = (if askOf ((m : Int) + 1) c.hs H = 0 then (if wholeB H l = true then (if 400 ≤ n then 4 else 0) else 2) else askOf ((m : Int) + 1) c.hs H) := by
      unfold askI
      rw [if_pos hf, hm, show ((m : Int) + 1).toNat - 1 = m by omega, List.getElem?_map, hc]
      rfl
    obtain ⟨bc, hbc⟩ : ∃ bc, bc = c.bc := ⟨_, rfl⟩
    obtain ⟨hs, hhs⟩ : ∃ hs, hs = c.hs := ⟨_, rfl⟩
    rw [← hbc, ← hhs] at hcr
    rw [← hhs] at HR0
    rw [← hbc] at HPC
    have HCR : Hid (∀ L w', St w0 [] L w' → ChainR w' bc ((m : Int) + 1) hs) := by show ∀ _ _ _, _; exact fun L w' h => hcr.keep h.none
    obtain ⟨z, hz⟩ : ∃ z, z = askOf ((m : Int) + 1) hs H := ⟨_, rfl⟩
    rw [← hz] at HR0
    have HZ : Hid (askOf ((m : Int) + 1) hs H = z) := hz.symm
    have hm1 : H.writer ≤ (m : Int) + 1 := by omega
    have hm2 : (m : Int) + 1 ≤ H.writer := by omega
    have HR1 := Lib.hid HR0
    clear hf hch h6 hm hc hcr hz hhs hbc HR0
    go_enter Tryd.func28, Tryd.ntmps28
    have hst := St.refl w0
    go_wp2_with (first
      | ((with_reducible refine at_d 3 ?_); go_loud (refine wl_box rfl rfl rfl (by first | rfl | exact row_one _) hst ?_; clear hst; intro b3 w3 hb3 hst))
      | ((with_reducible refine at_d 6 ?_); go_loud (refine wl_fld (r := 0) fld37_0 rfl rfl rfl rfl (hk := ?_)))
      | ((with_reducible refine at_d 7 ?_); go_loud (refine wl_loadP rfl rfl rfl (hs := agg34) (hv := pF_hdr _ _ _) (hk := ?_)))
      | ((with_reducible refine at_d 8 ?_); go_loud (refine wl_call pl46 rfl rfl rfl (formed_any H _ _ hok (HT.out _ _ hst)) ?_; rintro v8 w8 ⟨rfl, hst8⟩; replace hst := hst.call hst8; clear hst8; rw [HF.out])))
    refine rg_start (St w0 [] [(b3, blk 126 (pF H (.slice tad H.toks.length tcap) (.slice bad l.length bcap)) 37)]) mixed (hst.drew) ?_
    refine rg_take [0, 1, 2, 3, 4, 5, 6, 7, 8, 9, 10, 11, 12] 0 _ rfl (by kernel_rfl) (by kernel_rfl) rfl (cls_st _ _ _) (fun _ _ _ _ _ h => h) ?_
    refine tk_wp (hk := ?_)
    refine tk_fld (r := 0) fld37_0 rfl rfl rfl rfl rfl (hk := ?_)
    refine tk_fld (r := 0) fld34_0 rfl rfl rfl rfl rfl (hk := ?_)
    refine tk_load1 rfl rfl (by rfl) rfl (hs := sc3) (hk := ?_)
    refine tk_ari (p := H.writer) (q := 1) (r := (m : Int)) (k := .i64) (by simp only [ariI] <;> omega) (by show _ ∧ _; omega) rfl rfl rfl rfl rfl rfl (hk := ?_)
    refine tk_wp (hk := ?_)
    refine tk_fld (r := 0) fld72_0 rfl rfl rfl rfl rfl (hk := ?_)
    refine tk_idxA (i := m) Tryd.underlying68 sc67.size hm6 rfl rfl rfl rfl rfl (hk := ?_)
    refine tk_load1 rfl rfl (by rfl) rfl (fun w hst => hI.keep hst.none) HPC.out (by omega) sc67 (hk := ?_)
    refine tk_fld (r := 0) fld37_0 rfl rfl rfl rfl rfl (hk := ?_)
    refine tk_loadP rfl rfl (by rfl) rfl (hs := agg34) (hv := pF_hdr _ _ _) (hk := ?_)
    refine tk_call (v := .int .i64 z) pl48 rfl rfl (by rfl) rfl (fun w hst => ask_any bc ((m : Int) + 1) hs H _ w (HCR.out _ _ hst) hok (HT.out _ _ hst)) (fun w u w' hR => (by obtain ⟨rfl, hs'⟩ := hR; exact ⟨by rw [HZ.out], hs'.below⟩)) (hk := ?_)
    refine tk_wp (hk := ?_)
    refine tk_nil ?_
    refine rg_done (by kernel_rfl) (fun w1 hst1 => ?_) _
    clear hst; have hst := hst1; clear hst1
    by_cases hz0 : z = 0
    · have hz1 : z ≤ 0 := by omega
      have hz2 : 0 ≤ z := by omega
      have HR2 := HR1.out
      rw [if_pos hz0] at HR2
      clear hz0
      cases hwb : wholeB H l with
      | false =>
        have HWB := Lib.hid hwb
        rw [hwb, if_neg (by simp)] at HR2
        have HR := Lib.hid HR2
        clear hwb HR2
        go_wp2_with (first
      | ((with_reducible refine at_d 23 ?_); go_loud (refine wl_cmp (p := z) (q := 0) (by first | exact decide_eq_true (by omega) | exact decide_eq_false (by omega)) rfl rfl rfl rfl rfl (hk := ?_)))
      | ((with_reducible refine at_d 26 ?_); go_loud ((first | (refine wl_loadAll rfl rfl rfl (hs := agg37) (hk := ?_)) | (refine wl_loadN rfl rfl rfl (hs := agg37) (hk := ?_)))))
      | ((with_reducible refine at_d 27 ?_); go_loud (refine wl_call pl21 rfl rfl rfl (whole_any H _ _ l _ hok (HT.out _ _ hst) (HB.out _ _ hst) hl HLT.out (hK.keep hst.none)) ?_; rintro v27 w27 ⟨rfl, hst27⟩; replace hst := hst.call hst27; clear hst27; rw [HWB.out])))
        go_ret
        exact ⟨_, rfl, by rw [HR.out]; rfl, hst.none⟩
      | true =>
        have HWB := Lib.hid hwb
        rw [hwb, if_pos rfl] at HR2
        by_cases hn : 400 ≤ n
        · rw [if_pos hn] at HR2
          have HR := Lib.hid HR2
          clear hwb HR2
          go_wp2_with (first
      | ((with_reducible refine at_d 23 ?_); go_loud (refine wl_cmp (p := z) (q := 0) (by first | exact decide_eq_true (by omega) | exact decide_eq_false (by omega)) rfl rfl rfl rfl rfl (hk := ?_)))
      | ((with_reducible refine at_d 26 ?_); go_loud ((first | (refine wl_loadAll rfl rfl rfl (hs := agg37) (hk := ?_)) | (refine wl_loadN rfl rfl rfl (hs := agg37) (hk := ?_)))))
      | ((with_reducible refine at_d 27 ?_); go_loud (refine wl_call pl21 rfl rfl rfl (whole_any H _ _ l _ hok (HT.out _ _ hst) (HB.out _ _ hst) hl HLT.out (hK.keep hst.none)) ?_; rintro v27 w27 ⟨rfl, hst27⟩; replace hst := hst.call hst27; clear hst27; rw [HWB.out]))
      | ((with_reducible refine at_d 32 ?_); go_loud (refine wl_fld (r := 12) fld72_2 rfl rfl rfl rfl (hk := ?_)))
      | ((with_reducible refine at_d 33 ?_); go_loud (refine wl_load1v rfl rfl rfl (hI.keep hst.none) iF_count (by omega) sc3 (hk := ?_)))
      | ((with_reducible refine at_d 34 ?_); go_loud (refine wl_cmp (p := n) (q := 400) (by first | exact decide_eq_true (by omega) | exact decide_eq_false (by omega)) rfl rfl rfl rfl rfl (hk := ?_))))
          go_ret
          exact ⟨_, rfl, by rw [HR.out]; rfl, hst.none⟩
        · rw [if_neg hn] at HR2
          have HR := Lib.hid HR2
          clear hwb HR2
          go_wp2_with (first
      | ((with_reducible refine at_d 23 ?_); go_loud (refine wl_cmp (p := z) (q := 0) (by first | exact decide_eq_true (by omega) | exact decide_eq_false (by omega)) rfl rfl rfl rfl rfl (hk := ?_)))
      | ((with_reducible refine at_d 26 ?_); go_loud ((first | (refine wl_loadAll rfl rfl rfl (hs := agg37) (hk := ?_)) | (refine wl_loadN rfl rfl rfl (hs := agg37) (hk := ?_)))))
      | ((with_reducible refine at_d 27 ?_); go_loud (refine wl_call pl21 rfl rfl rfl (whole_any H _ _ l _ hok (HT.out _ _ hst) (HB.out _ _ hst) hl HLT.out (hK.keep hst.none)) ?_; rintro v27 w27 ⟨rfl, hst27⟩; replace hst := hst.call hst27; clear hst27; rw [HWB.out]))
      | ((with_reducible refine at_d 32 ?_); go_loud (refine wl_fld (r := 12) fld72_2 rfl rfl rfl rfl (hk := ?_)))
      | ((with_reducible refine at_d 33 ?_); go_loud (refine wl_load1v rfl rfl rfl (hI.keep hst.none) iF_count (by omega) sc3 (hk := ?_)))
      | ((with_reducible refine at_d 34 ?_); go_loud (refine wl_cmp (p := n) (q := 400) (by first | exact decide_eq_true (by omega) | exact decide_eq_false (by omega)) rfl rfl rfl rfl rfl (hk := ?_))))
          go_ret
          exact ⟨_, rfl, by rw [HR.out]; rfl, hst.none⟩
    · have HR2 := HR1.out
      rw [if_neg hz0] at HR2
      have HR := Lib.hid HR2
      have hz1 : z < 0 ∨ 0 < z := by omega
      clear hz0 HR2
      go_wp2_with (first
      | ((with_reducible refine at_d 23 ?_); go_loud (refine wl_cmp (p := z) (q := 0) (by first | exact decide_eq_true (by omega) | exact decide_eq_false (by omega)) rfl rfl rfl rfl rfl (hk := ?_))))
      go_ret
      exact ⟨_, rfl, by rw [HR.out]; rfl, hst.none⟩
theorem add_m {W w : World} {M : List Nat} {b : Nat} {wr z : Int} {hs : List Hdr} {H : Hdr} {tok : Value} {Ec L : List (Nat × Obj)} (hch : ChainO b wr hs Ec) (hst : St W M (Ec ++ L) w) (hok : H.Ok) (ht : ∀ L' w', St W M L' w' → Toks w' tok H.toks) (hK : ∀ L' w', St W M L' w' → Has w' 1 64 (wF Sha.K)) (hlen : hs.length < 1000) (hz : askOf wr hs H = z) :
    Ret Tryd.prog 29 #[.pointer (some ⟨b, 0, none⟩), .agg (row 125 (hF H tok))] w fun v' w' => v' = .int .i64 z ∧ ∃ E', ChainO b wr (if z = 0 then hs ++ [H] else hs) E' ∧ St W M (E' ++ L) w' := by
  subst hz
  exact Ret.mono (add_any b wr hs H tok w Ec hch (fun p hp => hst.own p (List.mem_append_left _ hp)) (by have := hst.nodup; rw [List.map_append] at this; exact (List.nodup_append.1 this).1) hok
    (fun _ _ h => ht _ _ (hst.callE h)) (fun _ _ h => hK _ _ (hst.callE h)) hlen) fun v w' ⟨h1, E', h2, h3⟩ => ⟨h1, E', h2, hst.callE h3⟩
end Go.Proofs.YthbobmpeaemdnaaDoor
namespace Go.Proofs.YthbobmpeaemdnaaDoor
open Go.RowKit Go.Jal
set_option maxRecDepth 100000 in
theorem count_any (bx : Nat) (cs : List Ch) (n : Int) (w : World) (h : Has w bx 13 (iF cs n)) : Ret Tryd.prog 13 #[.pointer (some ⟨bx, 0, none⟩)] w fun v' w' => v' = .int .i64 n ∧ w = w' := by
  go_enter Tryd.func13, Tryd.ntmps13
  have hst := St.refl w
  go_wp2_with (first
      | ((with_reducible refine at_d 5 ?_); go_loud (refine wl_fld (r := 12) fld72_2 rfl rfl rfl rfl (hk := ?_)))
      | ((with_reducible refine at_d 6 ?_); go_loud (refine wl_load1v rfl rfl rfl h iF_count (by omega) sc3 (hk := ?_))))
  go_ret
  exact ⟨_, rfl, rfl, rfl⟩
theorem askI_zero {V : List (List Hdr × List (List Nat))} {n : Int} {H : Hdr} {l : List Nat} (h : askI V n H l = 0) : formed H = true ∧ wholeB H l = true ∧ n < 400 ∧ ∃ c, V[H.writer.toNat - 1]? = some c ∧ askOf H.writer c.1 H = 0 := by
  unfold askI at h
  split at h
  · rename_i hf
    split at h
    · rename_i c hc
      split at h
      · rename_i ha
        split at h
        · rename_i hw
          split at h
          · cases h
          · exact ⟨hf, hw, by omega, c, hc, ha⟩
        · cases h
      · rename_i ha; exact absurd h ha
    · cases h
  · cases h
set_option maxRecDepth 100000 in
set_option maxHeartbeats 4000000 in
theorem iput_any (bx : Nat) (V : List (List Hdr × List (List Nat))) (n : Int) (H : Hdr) (tok bv : Value) (l : List Nat) (w : World) (E : List (Nat × Obj)) (h : IdxO 72 bx V n E) (hE : ∀ p ∈ E, w.heap[p.1]? = some p.2) (hnd : (E.map Prod.fst).Nodup) (hok : H.Ok) (hl : l.length ≤ 1000000) (hlt : ∀ x ∈ l, x < 256)
    (hV : ∀ c ∈ V, c.1.length < 1000) (hn0 : -1000000 ≤ n)
    (ht : ∀ L w', St w (E.map Prod.fst) L w' → Toks w' tok H.toks) (hb : ∀ L w', St w (E.map Prod.fst) L w' → Bs w' bv l) (hK : ∀ L w', St w (E.map Prod.fst) L w' → Has w' 1 64 (wF Sha.K)) :
    Ret Tryd.prog 12 #[.pointer (some ⟨bx, 0, none⟩), .agg (row 126 (pF H tok bv))] w fun v' w' => v' = .int .i64 (askI V n H l) ∧ ∃ E', IdxO 72 bx (if askI V n H l = 0 then putV V H l else V) (if askI V n H l = 0 then n + 1 else n) E' ∧ St w (E.map Prod.fst) E' w' := by
  have hst := St.reflE hE hnd
  obtain ⟨M, hM⟩ : ∃ M, M = E.map Prod.fst := ⟨_, rfl⟩
  rw [← hM] at hst ht hb hK ⊢
  obtain ⟨tad, tcap, rfl, _⟩ := ht _ _ hst
  obtain ⟨bad, bcap, rfl, _⟩ := hb _ _ hst
  have HT := Lib.hid ht
  have HB := Lib.hid hb
  have HK := Lib.hid hK
  have HLT := Lib.hid hlt
  obtain ⟨cs, hcv, rfl, h6, hcs⟩ := h
  have HCV : Hid (cs.map viewC = V) := hcv
  have IRD : Hid (∀ (D : List (Nat × Obj)) (w' : World), St w M (D ++ ((bx, blk 13 (iF cs n) 72) :: (cs.map Ch.E).flatten)) w' → IdxR w' bx cs n) := by
    show ∀ _ _ _, _
    intro D w' hs
    refine ⟨⟨_, _, hs.own _ (List.mem_append_right _ (List.mem_cons_self ..))⟩, h6, fun i c hc => (hcs i c hc).1.read fun p hp => hs.own p (List.mem_append_right _ (List.mem_cons_of_mem _ (List.mem_flatten.2 ⟨c.E, List.mem_map_of_mem (List.mem_of_getElem? hc), List.mem_append_left _ hp⟩)))⟩
  obtain ⟨z, hz⟩ : ∃ z, z = askI V n H l := ⟨_, rfl⟩
  rw [← hz]
  have HZ : Hid (askI (cs.map viewC) n H l = z) := by show _ = _; rw [HCV.out]; exact hz.symm
  clear ht hb hK hM hlt hcv
  go_enter Tryd.func12, Tryd.ntmps12
  by_cases hz0 : z = 0
  · have hz1 : z ≤ 0 := by omega
    have hz2 : 0 ≤ z := by omega
    obtain ⟨hf, hw, hn4, vc, hvc, ha⟩ := askI_zero (hz.symm.trans hz0)
    obtain ⟨hw1, hw2, _⟩ := formed_nat hf
    obtain ⟨m, hm⟩ : ∃ m : Nat, H.writer = (m : Int) + 1 := ⟨(H.writer - 1).toNat, by omega⟩
    have hm6 : m < 6 := by omega
    obtain ⟨c, hc⟩ : ∃ c, cs[m]? = some c := ⟨_, List.getElem?_eq_getElem (by omega)⟩
    have hvm : V[m]? = some (viewC c) := by rw [← HCV.out, List.getElem?_map, hc]; rfl
    have hvc2 : vc = viewC c := by
      rw [hm, show ((m : Int) + 1).toNat - 1 = m by omega, hvm] at hvc
      exact (Option.some.inj hvc).symm
    have HPC : Hid (iF cs n (0 + 1 * m) = .pointer (some ⟨c.bc, 0, none⟩)) := iF_chain hc hm6
    have HPB : Hid (iF cs n (6 + 1 * m) = c.bv) := iF_body hc hm6
    obtain ⟨hcho, hbod, hcl⟩ := hcs m c hc
    have HA : Hid (askOf ((m : Int) + 1) c.hs H = 0) := by show _ = _; rw [← hm, show c.hs = vc.1 by rw [hvc2]; rfl]; exact ha
    have hlen : c.hs.length < 1000 := hV (viewC c) (List.mem_of_getElem? hvm)
    obtain ⟨g, EHb, ETb, hEb, hown, hel⟩ := hbod
    have HEL := Lib.hid hel
    obtain ⟨hp1, hp2⟩ := flat_at Ch.E cs m c hc
    obtain ⟨RS, hRS⟩ : ∃ RS, RS = ((cs.eraseIdx m).map Ch.E).flatten := ⟨_, rfl⟩
    rw [← hRS] at hp1 hp2
    have HP2 := Lib.hid hp2
    have hce : c.E = c.Ec ++ (EHb ++ ETb) := by unfold Ch.E; rw [hEb]
    rw [hce] at hp1
    have HP1 : Hid (∀ T : Nat × Obj, (T :: (bx, blk 13 (iF cs n) 72) :: (cs.map Ch.E).flatten).Perm (c.Ec ++ (T :: (bx, blk 13 (iF cs n) 72) :: (EHb ++ (ETb ++ RS))))) := by
      show ∀ _, _
      intro T
      exact ((hp1.cons _).cons _).trans (perm_count (fun c d ha hc h0 => by simp only [ha, hc]; omega))
    have HPW : Hid (V[H.writer.toNat - 1]? = some (c.hs, c.bl)) := by show _ = _; rw [hm, show ((m : Int) + 1).toNat - 1 = m by omega, hvm]; rfl
    have HM1 : Hid (H.writer.toNat - 1 = m) := by show _ = _; omega
    have HC := Lib.hid hc
    have hbl : c.bl.length < 1000 := by omega
    have hwm1 : H.writer ≤ (m : Int) + 1 := by omega
    have hwm2 : (m : Int) + 1 ≤ H.writer := by omega
    have HCS := Lib.hid hcs
    have HCL := Lib.hid hcl
    have hbv1 := own_one hown
    clear hz hz0 hf hw hvc ha hm hc hvm hvc2 hcs hel hp1 hp2 hRS hEb hce hcl
    go_wp2_with (first
      | ((with_reducible refine at_d 3 ?_); go_loud (refine wl_box rfl rfl rfl (by first | rfl | exact row_one _) hst ?_; clear hst; intro b3 w3 hb3 hst))
      | ((with_reducible refine at_d 9 ?_); go_loud ((first | (refine wl_loadAll rfl rfl rfl (hs := agg37) (hk := ?_)) | (refine wl_loadN rfl rfl rfl (hs := agg37) (hk := ?_)))))
      | ((with_reducible refine at_d 10 ?_); go_loud (refine wl_call pl28 rfl rfl rfl (iask_any bx cs n H _ _ l _ (IRD.out [(b3, blk 126 (pF H (.slice tad H.toks.length tcap) (.slice bad l.length bcap)) 37)] _ hst) hok (HT.out _ _ hst) (HB.out _ _ hst) hl HLT.out (HK.out _ _ hst)) ?_; rintro v10 w10 ⟨rfl, hst10⟩; replace hst := hst.call hst10; clear hst10; rw [HZ.out]; (try simp only [List.nil_append] at hst)))
      | ((with_reducible refine at_d 12 ?_); go_loud (refine wl_cmp (p := z) (q := 0) (by first | exact decide_eq_true (by omega) | exact decide_eq_false (by omega)) rfl rfl rfl rfl rfl (hk := ?_)))
      | ((with_reducible refine at_d 14 ?_); go_loud (refine wl_fld (r := 0) fld37_0 rfl rfl rfl rfl (hk := ?_)))
      | ((with_reducible refine at_d 15 ?_); go_loud (refine wl_fld (r := 0) fld34_0 rfl rfl rfl rfl (hk := ?_)))
      | ((with_reducible refine at_d 16 ?_); go_loud (refine wl_load1v rfl rfl rfl (hs := sc3) (hk := ?_)))
      | ((with_reducible refine at_d 17 ?_); go_loud (refine wl_ari (p := H.writer) (q := 1) (r := (m : Int)) (k := .i64) (by simp only [ariI] <;> omega) (by show _ ∧ _; omega) rfl rfl rfl rfl rfl (hk := ?_))))
    refine rg_start (St w M ((b3, blk 126 (pF H (.slice tad H.toks.length tcap) (.slice bad l.length bcap)) 37) :: (bx, blk 13 (iF cs n) 72) :: (cs.map Ch.E).flatten)) mixed (hst.drew) ?_
    refine rg_take [0, 1, 2, 3, 4, 5, 6, 7] 2 _ rfl (by kernel_rfl) (by kernel_rfl) rfl (cls_st _ _ _) (fun _ _ _ _ _ h => h) ?_
    refine tk_wp (hk := ?_)
    refine tk_wp (hk := ?_)
    refine tk_wp (hk := ?_)
    refine tk_fld (r := 0) fld72_0 rfl rfl rfl rfl rfl (hk := ?_)
    refine tk_idxA (i := m) Tryd.underlying68 sc67.size hm6 rfl rfl rfl rfl rfl (hk := ?_)
    refine tk_load1 rfl rfl (by rfl) rfl (fun w hst => hst.hasb (.tail .head)) HPC.out (by omega) sc67 (hk := ?_)
    refine tk_fld (r := 0) fld37_0 rfl rfl rfl rfl rfl (hk := ?_)
    refine tk_loadP rfl rfl (by rfl) rfl (hs := agg34) (hv := pF_hdr _ _ _) (hk := ?_)
    refine tk_nil ?_
    refine rg_turn (i := 8) (n := 1) (by kernel_rfl) rfl rfl rfl (by kernel_rfl) (fun w' hst => wo_call pl29 rfl rfl (add_m (z := 0) hcho (hst.perm (HP1.out _)) hok HT.out HK.out hlen HA.out) (fun v26 w26 hR26 => ?_))
    obtain ⟨rfl, E26, hch26, hst26⟩ := hR26
    refine ⟨St w M (E26 ++ ((b3, blk 126 (pF H (.slice tad H.toks.length tcap) (.slice bad l.length bcap)) 37) :: (bx, blk 13 (iF cs n) 72) :: (EHb ++ (ETb ++ RS)))), hst26, cls_st _ _ _, ?_⟩
    simp only [put_lit, setL]
    refine rg_take [9] 0 _ rfl (by kernel_rfl) (by kernel_rfl) rfl (cls_st _ _ _) (fun _ _ _ _ _ h => h) ?_
    refine tk_wp (hk := ?_)
    refine tk_nil ?_
    refine rg_done (by kernel_rfl) (fun w1 hst1 => ?_) _
    clear hst; have hst := hst1; clear hst1
    have hst0 : St w M ((b3, blk 126 (pF H (.slice tad H.toks.length tcap) (.slice bad l.length bcap)) 37) :: (bx, blk 13 (iF cs n) 72) :: (E26 ++ (EHb ++ (ETb ++ RS)))) _ := hst.perm (perm_count (fun c d ha hc h0 => by simp only [ha, hc]; omega))
    clear hst
    have hst := hst0
    clear hst0
    go_wp2_with (fail)
    refine rg_start (St w M ((b3, blk 126 (pF H (.slice tad H.toks.length tcap) (.slice bad l.length bcap)) 37) :: (bx, blk 13 (iF cs n) 72) :: (E26 ++ (EHb ++ (ETb ++ RS))))) mixed (hst.drew) ?_
    refine rg_take [0, 1, 2, 3, 4, 5, 6, 7, 8, 9, 13, 14] 5 _ rfl (by kernel_rfl) (by kernel_rfl) rfl (cls_st _ _ _) (fun _ _ _ _ _ h => h) ?_
    refine tk_wp (hk := ?_)
    refine tk_wp (hk := ?_)
    refine tk_wp (hk := ?_)
    refine tk_wp (hk := ?_)
    refine tk_wp (hk := ?_)
    refine tk_fld (r := 6) fld72_1 rfl rfl rfl rfl rfl (hk := ?_)
    refine tk_idxA (i := m) Tryd.underlying70 sc69.size hm6 rfl rfl rfl rfl rfl (hk := ?_)
    refine tk_load1 rfl rfl (by rfl) rfl (fun w hst => hst.hasb (.tail .head)) HPB.out (by omega) sc69 (hk := ?_)
    refine tk_fld (r := 125) fld37_1 rfl rfl rfl rfl rfl (hk := ?_)
    refine tk_load1 rfl rfl (by rfl) rfl (hs := sc35) (hk := ?_)
    refine tk_wp (hk := ?_)
    refine tk_fld (r := 6) fld72_1 rfl rfl rfl rfl rfl (hk := ?_)
    refine tk_nil ?_
    refine rg_st (i := 10) (n := 4) (by kernel_rfl) rfl rfl rfl (fun w' hst => wo_call pl30 rfl rfl (clone_any _ l _ (HB.out _ _ hst) (by omega)) (fun v40 w40 hR40 => ?_))
    obtain ⟨E40, hown40, hst40⟩ := hR40
    have hsl40 := hown40
    obtain ⟨ad40, c40, rfl, _⟩ := hsl40.slice
    refine ⟨E40, hst.call hst40, ?_⟩
    simp only [put_lit, setL]
    refine rg_st (i := 11) (n := 3) (by kernel_rfl) rfl rfl rfl (fun w' hst => wo_buildSlice1 (v := .slice ad40 l.length c40) rfl elt69 (by decide) rfl (row_one _) hst (fun b41 w41 hb41 hst41 => ⟨[(b41, _)], hst41, ?_⟩))
    simp only [put_lit, setL]
    refine rg_turn (i := 12) (n := 2) (by kernel_rfl) rfl rfl rfl (by kernel_rfl) (fun w' hst => wo_append (L := (b41, blk 1 (fun _ => Value.slice ad40 l.length c40) 35) :: (E40 ++ ((b3, blk 126 (pF H (.slice tad H.toks.length tcap) (.slice bad l.length bcap)) 37) :: (bx, blk 13 (iF cs n) 72) :: (E26 ++ (ETb ++ RS))))) (h := fun _ => Value.slice ad40 l.length c40) rfl elt69 rfl rfl hown (hst.perm (perm_count (fun c d ha hc h0 => by simp only [ha, hc]; omega))) (.inr ⟨b41, 0, 1, _, rfl, hst.hasb Pick.head, by omega, fun j _ => rfl⟩) (by intro h; cases h) (fun j _ => rfl) (by omega) (by unfold maxLen; omega) (fun v42 w42 E42 hown42 hst42 _ => ⟨St w M (E42 ++ ((b41, blk 1 (fun _ => Value.slice ad40 l.length c40) 35) :: (E40 ++ ((b3, blk 126 (pF H (.slice tad H.toks.length tcap) (.slice bad l.length bcap)) 37) :: (bx, blk 13 (iF cs n) 72) :: (E26 ++ (ETb ++ RS)))))), hst42, cls_st _ _ _, ?_⟩))
    simp only [put_lit, setL]
    refine rg_take [15] 1 _ rfl (by kernel_rfl) (by kernel_rfl) rfl (cls_st _ _ _) (fun _ _ _ _ _ h => h) ?_
    refine tk_idxA (i := m) Tryd.underlying70 sc69.size hm6 rfl rfl rfl rfl rfl (hk := ?_)
    refine tk_nil ?_
    refine rg_lastStore1 (i := 16) (v := v42) (by kernel_rfl) rfl rfl rfl (by kernel_rfl) (by kernel_rfl) rfl rfl (Pick.app (.tail (Pick.app (.tail .head) E40)) E42) (by omega) sc69 (own_one hown42) (by (conv => lhs; simp only [put_lit, put_none, setL]) <;> rfl) (fun w1 hst1 => ?_)
    clear hst
    rw [iF_updB HC.out hm6 (c.hs ++ [H]) (c.bl ++ [l]) E26 (E42 ++ (E40 ++ ETb))] at hst1
    have hst := hst1
    clear hst1
    obtain ⟨c', hc'⟩ : ∃ c', c' = Ch.mk c.bc (c.hs ++ [H]) v42 (c.bl ++ [l]) E26 (E42 ++ (E40 ++ ETb)) := ⟨_, rfl⟩
    rw [← hc'] at hst
    have HCC := Lib.hid hc'
    clear hc'
    go_wp2_with (first
      | ((with_reducible refine at_d 48 ?_); go_loud (refine wl_fld (r := 12) fld72_2 rfl rfl rfl rfl (hk := ?_)))
      | ((with_reducible refine at_d 49 ?_); go_loud (refine wl_load1v rfl rfl rfl (hst.hasb Pick.head) iF_count (by omega) sc3 (hk := ?_)))
      | ((with_reducible refine at_d 50 ?_); go_loud (refine wl_ari (p := n) (q := 1) (r := (n + 1)) (k := .i64) (by simp only [ariI] <;> omega) (by show _ ∧ _; omega) rfl rfl rfl rfl rfl (hk := ?_)))
      | ((with_reducible refine at_d 52 ?_); go_loud (refine wl_fld (r := 12) fld72_2 rfl rfl rfl rfl (hk := ?_)))
      | ((with_reducible refine at_n (.store 3 (.tmp 52) (.tmp 50)) ?_); go_loud (refine wl_store1 rfl rfl rfl (hs := sc3) (hk := ?_); clear hst; intro w1 hst; rw [iF_updN] at hst)))
    go_ret
    refine ⟨_, rfl, rfl, (bx, blk 13 (iF (cs.set m c') (n + 1)) 72) :: ((cs.set m c').map Ch.E).flatten, ⟨cs.set m c', ?_, rfl, by rw [List.length_set]; exact h6, fun i c0 hi => ?_⟩, ?_⟩
    · unfold putV
      rw [HPW.out, HM1.out]
      show (cs.set m c').map viewC = V.set m (c.hs ++ [H], c.bl ++ [l])
      rw [List.map_set, HCV.out, HCC.out]
      rfl
    · by_cases e : i = m
      · subst e
        have hlt : i < cs.length := (List.getElem?_eq_some_iff.1 HC.out).1
        rw [List.getElem?_set_self hlt] at hi
        obtain rfl := Option.some.inj hi
        rw [HCC.out]
        have hchx := hch26
        simp only [if_true] at hchx
        refine ⟨hchx, BodO.snoc hown42 HEL.out HLT.out hown40, ?_⟩
        rw [List.length_append, List.length_append]
        show c.bl.length + 1 = c.hs.length + 1
        rw [HCL.out]
      · rw [List.getElem?_set_ne (fun h => e h.symm)] at hi
        exact HCS.out i c0 hi
    · refine hst.resh [(b41, blk 1 (fun _ => Value.slice ad40 l.length c40) 35), (b3, blk 126 (pF H (.slice tad H.toks.length tcap) (.slice bad l.length bcap)) 37)] (List.Perm.trans (l₂ := [(b41, blk 1 (fun _ => Value.slice ad40 l.length c40) 35), (b3, blk 126 (pF H (.slice tad H.toks.length tcap) (.slice bad l.length bcap)) 37)] ++ ((bx, blk 13 (iF (cs.set m c') (n + 1)) 72) :: (c'.E ++ RS))) ?_ (((HP2.out c').symm.cons _).append_left _))
      have hce : c'.E = E26 ++ (E42 ++ (E40 ++ ETb)) := by rw [HCC.out]; rfl
      rw [hce]
      exact perm_count (fun c d ha hc h0 => by simp only [ha, hc, h0]; omega)
  · have HA : Hid ((if z = 0 then putV V H l else V) = V) := if_neg hz0
    have HA2 : Hid ((if z = 0 then n + 1 else n) = n) := if_neg hz0
    have HO : Hid (IdxO 72 bx V n ((bx, blk 13 (iF cs n) 72) :: (cs.map Ch.E).flatten)) := ⟨cs, HCV.out, rfl, h6, hcs⟩
    have hz1 : z < 0 ∨ 0 < z := by omega
    clear hz hz0 hcs
    go_wp2_with (first
      | ((with_reducible refine at_d 3 ?_); go_loud (refine wl_box rfl rfl rfl (by first | rfl | exact row_one _) hst ?_; clear hst; intro b3 w3 hb3 hst))
      | ((with_reducible refine at_d 9 ?_); go_loud ((first | (refine wl_loadAll rfl rfl rfl (hs := agg37) (hk := ?_)) | (refine wl_loadN rfl rfl rfl (hs := agg37) (hk := ?_)))))
      | ((with_reducible refine at_d 10 ?_); go_loud (refine wl_call pl28 rfl rfl rfl (iask_any bx cs n H _ _ l _ (IRD.out [(b3, blk 126 (pF H (.slice tad H.toks.length tcap) (.slice bad l.length bcap)) 37)] _ hst) hok (HT.out _ _ hst) (HB.out _ _ hst) hl HLT.out (HK.out _ _ hst)) ?_; rintro v10 w10 ⟨rfl, hst10⟩; replace hst := hst.call hst10; clear hst10; rw [HZ.out]; (try simp only [List.nil_append] at hst)))
      | ((with_reducible refine at_d 12 ?_); go_loud (refine wl_cmp (p := z) (q := 0) (by first | exact decide_eq_true (by omega) | exact decide_eq_false (by omega)) rfl rfl rfl rfl rfl (hk := ?_))))
    go_ret
    exact ⟨_, rfl, rfl, _, by first | exact HO.out | (rw [HA.out, HA2.out]; exact HO.out), hst.drop⟩
end Go.Proofs.YthbobmpeaemdnaaDoor
