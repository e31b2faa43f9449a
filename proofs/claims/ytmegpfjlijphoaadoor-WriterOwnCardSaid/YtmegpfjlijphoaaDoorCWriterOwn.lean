/- The walk of law13's WriterOwn. WriterOwn: for every list of headers that lies readable in memory, and both tables of words laid as the program's text lays them, the law returns true and leaves what was handed in. The row, and its card, tied to the text. -/
import Derived.Test.YtmegpfjlijphoaaDoorFr1
import Derived.Test.YtmegpfjlijphoaaDoorLk2
import Derived.Test.YtmegpfjlijphoaaDoorOpen3
namespace Go.Jal
open Go.RowKit
section
variable {P : Program} {lops : List Oper} {S : World → Prop} {N : Act → Prop} {i0 : Nat} {is : List Nat} {o : Oper} {a a' : Act}
theorem tk_ariW {b : BinOp} {t t' : TypeId} {x y : Operand} {k : IntKind} {p q r : Int} (hr : k.wrap (ariI b p q) = r) (ho : nth lops i0 = some o) (hp : o.op = .binOp b t x y t') (hb : isAri b = true) (hw : Region.wanted o (yielded lops.toArray a.tmps) = true)
    (hx : a.eval x = .int k p) (hy : a.eval y = .int k q) (ha : a.put o.dst (.int k r) = a' := by (conv => lhs; simp only [Go.Jal.put_lit, Go.Jal.put_none, Go.Jal.setL]) <;> rfl) (hk : wpTake P lops.toArray S N is a') : wpTake P lops.toArray S N (i0 :: is) a :=
  tk_val ho hw (fun w _ => by
    have hq : (do eqGuard b t x y (.int k p) (.int k q); binOp b t (.int k p) (.int k q) : Sem Value).run P w = .ok (.int k r) w := by
      subst hr
      cases b <;> simp [isAri] at hb <;> simp [eqGuard, binOp, Op.intArith, ariI]
    unfold execOp
    simp only [Sem.run_bind] at hq
    simp only [hp, hx, hy, Sem.run_bind, hq, Result.andThen_ok, Sem.run_pure]) ha hk
end
open Classical in
/-- a permutation of lists joined of pieces, by counting -/
theorem perm_count {L L' : List (Nat × Obj)} (h : ∀ (c : List (Nat × Obj) → Nat) (d : Nat × Obj → Nat), (∀ A B, c (A ++ B) = c A + c B) → (∀ x A, c (x :: A) = d x + c A) → c [] = 0 → c L = c L') : L.Perm L' := by
  rw [List.perm_iff_count]
  intro a
  exact h (fun l => l.count a) (fun x => if x == a then 1 else 0) (fun A B => List.count_append) (fun x A => by rw [List.count_cons]; omega) rfl
theorem St.resh {w0 w : World} {M : List Nat} {L L' : List (Nat × Obj)} (h : St w0 M L w) (D : List (Nat × Obj)) (hp : L.Perm (D ++ L')) : St w0 M L' w := (h.perm hp).sub (List.sublist_append_right _ _)
theorem Pick.appR {b : Nat} {o : Obj} {L L' : List (Nat × Obj)} (h : Pick L b o L') (A : List (Nat × Obj)) : Pick (L ++ A) b o (L' ++ A) := by
  induction h with
  | head => exact .head
  | tail _ ih => exact .tail ih
theorem pick_of_mem {b : Nat} {o : Obj} {L : List (Nat × Obj)} (h : (b, o) ∈ L) : ∃ L', Pick L b o L' := by
  induction L with
  | nil => cases h
  | cons q L ih =>
    rcases List.mem_cons.1 h with rfl | h
    · exact ⟨L, .head⟩
    · obtain ⟨L', h'⟩ := ih h
      exact ⟨_, .tail h'⟩
/-- the slices of tokens of n headers in a slice's block, their bytes whatever they are -/
def TokU (g : Nat → Value) (ET : List (Nat × Obj)) (n : Nat) : Prop :=
  ∀ i, i < n → ∃ ad m c, g (125 * i + 53) = .slice ad m c ∧ m ≤ maxLen ∧ (0 < m → ∃ bt N f T, ad = some ⟨bt, 0, none⟩ ∧ (bt, blk N f T) ∈ ET ∧ m * 16 ≤ N ∧ ∀ j, j < m * 16 → ∃ x, x < 256 ∧ f j = nB x)
theorem blk_eq {n n' : Nat} {f f' : Nat → Value} {T T' : TypeId} (h : blk n f T = blk n' f' T') : n = n' ∧ T = T' ∧ ∀ i, i < n → f i = f' i := by
  unfold blk at h
  injection h with h1 h2
  have h3 : n = n' := by have := congrArg Array.size h1; simpa using this
  subst h3
  exact ⟨rfl, h2, row_inj h1⟩
theorem TokU.put {g : Nat → Value} {ET ETr : List (Nat × Obj)} {n bt N p y : Nat} {f : Nat → Value} {T : TypeId} (h : TokU g ET n) (hp : Pick ET bt (blk N f T) ETr) (hy : y < 256) : TokU g ((bt, blk N (upd f p (nB y)) T) :: ETr) n := by
  intro i hi
  obtain ⟨ad, m, c, h1, h2, h3⟩ := h i hi
  refine ⟨ad, m, c, h1, h2, fun hm => ?_⟩
  obtain ⟨b', N', f', T', e1, e2, e3, e4⟩ := h3 hm
  rcases List.mem_cons.1 (hp.perm.mem_iff.1 e2) with e5 | e5
  · simp only [Prod.mk.injEq] at e5
    obtain ⟨rfl, e6⟩ := e5
    obtain ⟨rfl, rfl, e7⟩ := blk_eq e6
    refine ⟨b', N', _, T', e1, List.mem_cons_self .., e3, fun j hj => ?_⟩
    unfold upd
    by_cases c : j = p
    · exact ⟨y, hy, by rw [if_pos c]⟩
    · rw [if_neg c, ← e7 j (by omega)]; exact e4 j hj
  · exact ⟨b', N', f', T', e1, List.mem_cons_of_mem _ e5, e3, e4⟩
theorem wrap_u8 (x : Nat) : ∃ y : Nat, y < 256 ∧ IntKind.u8.wrap ((x : Int) + 1) = (y : Int) := by
  refine ⟨(x + 1) % 256, by omega, ?_⟩
  simp only [IntKind.wrap, IntKind.bits, IntKind.signed, Bool.false_and, ge_iff_le]
  simp
end Go.Jal
namespace Go.Proofs.YtmegpfjlijphoaaDoor
open Go.RowKit Go.Jal
theorem toks_u8 {G : Hdr} (gok : G.Ok) (j : Nat) : ∃ x, x < 256 ∧ bF G.toks.flatten j = nB x := by
  refine ⟨G.toks.flatten.getD j 0, ?_, rfl⟩
  rw [List.getD_eq_getElem?_getD]
  cases q : G.toks.flatten[j]? with
  | none => decide
  | some x =>
    obtain ⟨t, ht, hxt⟩ := List.mem_flatten.1 (List.mem_of_getElem? q)
    exact (gok.toks t ht).2 x hxt
theorem GotO.toks {v : Value} {gs : List Hdr} {E : List (Nat × Obj)} (h : GotO v gs E) : ∃ g EH ET, E = EH ++ ET ∧ Own 125 35 v gs.length g EH ∧ TokU g ET gs.length := by
  obtain ⟨g, EH, ET, rfl, hown, hel⟩ := h
  refine ⟨g, EH, ET, rfl, hown, fun i hi => ?_⟩
  obtain ⟨gok, tok, Et, hc, hto, hsub⟩ := hel i _ (List.getElem?_eq_getElem hi)
  have h53 : g (125 * i + 53) = tok := hc 53 (by omega)
  rcases hto with ⟨rfl, hz, _⟩ | ⟨bt, cap, f, rfl, h1, h2, rfl, h4⟩
  · exact ⟨none, 0, 0, h53, by simp [maxLen], fun h => absurd h (by omega)⟩
  · refine ⟨_, _, _, h53, by unfold maxLen at h2 ⊢; omega, fun _ => ⟨bt, cap * 16, f, 31, rfl, hsub (bt, blk (cap * 16) f 31) (by simp), by omega, fun j hj => ?_⟩⟩
    rw [h4 j hj]
    exact toks_u8 gok j
theorem add_own {W w : World} {b : Nat} {wr z : Int} {hs : List Hdr} {H : Hdr} {tok : Value} {Et Ec L : List (Nat × Obj)} (hch : ChainO b wr hs Ec) (hst : St W [] (Ec ++ L) w) (hok : H.Ok) (ht : Own 16 31 tok H.toks.length (bF H.toks.flatten) Et) (hsub : ∀ p ∈ Et, p ∈ L)
    (hK : Has W 1 64 (wF Sha.K)) (hlen : hs.length < 1000) (hz : askOf wr hs H = z) :
    Ret Tryd.prog 16 #[.pointer (some ⟨b, 0, none⟩), .agg (row 125 (hF H tok))] w fun v' w' => v' = .int .i64 z ∧ ∃ E', ChainO b wr (if z = 0 then hs ++ [H] else hs) E' ∧ St W [] (E' ++ L) w' := by
  subst hz
  have hnd := hst.nodup
  rw [List.map_append, List.nodup_append] at hnd
  refine Ret.mono (add_any b wr hs H tok w Ec hch (fun p hp => hst.own p (List.mem_append_left _ hp)) hnd.1 hok
    (fun L' w' h => toks_ownp ht hok.toks (fun p hp => ?_)) (fun _ _ h => hK.keep (hst.callE h).none) hlen) fun v w' ⟨h1, E', h2, h3⟩ => ⟨h1, E', h2, hst.callE h3⟩
  have hp2 : p ∈ L := hsub p hp
  refine h.heapOld (hst.own p (List.mem_append_right _ hp2)) fun hm => ?_
  exact hnd.2.2 p.1 hm p.1 (List.mem_map_of_mem hp2) rfl
set_option maxRecDepth 100000 in
set_option maxHeartbeats 4000000 in
theorem writerOwn_any (v : Value) (ls : List Hdr) (W : World) (h : Hds W v ls) (hK0 : Has W 0 64 (wF Sha.K)) (hK1 : Has W 1 64 (wF Sha.K)) :
    Ret Tryd.prog 5 #[v] W fun v' w' => v' = .bool true ∧ St W [] [] w' := by
  obtain ⟨ad, c, rfl, hcap, hcm, _⟩ := id h
  unfold maxLen at hcm
  go_enter Tryd.func5, Tryd.ntmps5
  have hst := St.refl W
  go_wp2_with (first
      | go_skip
      | ((with_reducible refine at_d 16 ?_); go_loud (refine wl_call pl8 rfl rfl rfl (awake_any _ (hK1.keep hst.none)) ?_; rintro v16 w16 ⟨rfl, hst16⟩; replace hst := hst.call hst16; clear hst16))
      | ((with_reducible refine at_d 20 ?_); (refine wl_call pl9 rfl rfl rfl (few_any _ ls 25 (by omega) _ (h.keep hst.none)) ?_; rintro v20 w20 ⟨⟨r, rfl, hr⟩, rfl⟩))
      | ((with_reducible refine at_d 23 ?_); go_loud (refine wl_call pl8 rfl rfl rfl (awake_any _ (hK1.keep hst.none)) ?_; rintro v23 w23 ⟨rfl, hst23⟩; replace hst := hst.call hst23; clear hst23))
      | ((with_reducible refine at_d 24 ?_); go_loud (refine wl_call pl10 rfl rfl rfl (new_any 3 (by decide) (by decide) _) ?_; rintro v24 w24 ⟨b, E, rfl, hch, hst24⟩; replace hst := hst.call hst24; clear hst24)))
  · clear hr
    go_ret
    exact ⟨_, rfl, rfl, hst.none⟩
  · obtain ⟨hl20, h20⟩ := hr (by simpa using ‹(!r) = false›)
    clear hr
    have H20 := Lib.hid h20
    clear h20
    simp only [List.append_nil] at hst
    go_loopw [4, 5] (fun v4 i wr => ∃ (k : Nat) (hs : List Hdr) (Ec Eh : List (Nat × Obj)), k ≤ ls.length ∧ hs.length ≤ k ∧ i = .int .i64 (k : Int) ∧ ChainO b 3 hs Ec ∧ GotO v4 hs Eh ∧ St W [] (Ec ++ Eh) wr) (fun _ i _ => ls.length - (intOf i).toNat)
    case atStart => exact ⟨0, [], E, [], by omega, by simp, rfl, hch, GotO.nil, by simpa using hst⟩
    case round =>
      clear hst hch
      obtain ⟨k, hs, Ec, Eh, hk, hsk, rfl, hch, hhv, hst⟩ := hrel
      obtain ⟨ad4, c4, rfl, hc4, hm4⟩ := hhv.slice
      unfold maxLen at hm4
      by_cases hkl : k < ls.length
      · obtain ⟨G0, hG0⟩ : ∃ G0, ls[k]? = some G0 := ⟨_, List.getElem?_eq_getElem hkl⟩
        obtain ⟨bl, off, N, f, tok, rfl, hN, hbd, hlt, _, gok, gt, hcell⟩ := Hds.get h hG0
        have HN := Lib.hid hN
        have HA := Lib.hid hcell
        have HGO : Hid (behind hs 2 G0).Ok := behind_ok gok (by omega) (by omega)
        have HONE : Hid (tok.oneCell' = true) := tok_one gt
        obtain ⟨G, hG⟩ : ∃ G, G = behind hs 2 G0 := ⟨_, rfl⟩
        rw [← hG] at HGO
        have HT : Hid (∀ L w', St W [] L w' → Toks w' tok G.toks) := by
          show ∀ _ _ _, _
          rw [hG]
          exact fun L w' h' => gt.keep h'.none
        have ht20 : G.toks.length ≤ 20 := by rw [hG]; exact H20.out G0 (List.mem_of_getElem? hG0)
        have HGE := Lib.hid hG
        obtain ⟨tad, tcap, rfl, htc, htm, _⟩ := HT.out _ _ (St.refl W)
        have HH : Hid (∀ w', (∀ p ∈ Eh, w'.heap[p.1]? = some p.2) → Hds w' (.slice ad4 hs.length c4) hs) := by
          show ∀ _ _, _
          exact fun w' h1 => hhv.hds h1
        obtain ⟨z, hz⟩ : ∃ z, z = askOf 3 hs G := ⟨_, rfl⟩
        have HZ : Hid (askOf 3 hs G = z) := hz.symm
        have HHV := Lib.hid hhv
        obtain ⟨g, EH, ET, rfl, hown, hel⟩ := hhv
        have HEL := Lib.hid hel
        clear hG hG0 hN hcell h hz gt hel
        go_wp2_with (first
      | ((with_reducible refine at_d 34 ?_); go_loud (refine wl_idx (i := k) Tryd.underlying22 siz35 (by omega) rfl rfl rfl rfl (hk := ?_)))
      | ((with_reducible refine at_d 35 ?_); go_loud (refine wl_loadP rfl rfl rfl (HN.out.keep hst.none) agg35 (by omega) HA.out (hk := ?_)))
      | ((with_reducible refine at_d 36 ?_); go_loud (refine wl_call pl11 rfl rfl rfl (behind_any _ hs 2 G0 (.slice tad G.toks.length tcap) _ (HH.out _ (fun p hp => hst.own p (by simp at hp; simp [hp]))) (by omega) gok (by omega) rfl (hK0.keep hst.none)) ?_; rintro v36 w36 ⟨rfl, hst36⟩; replace hst := hst.call hst36; clear hst36; rw [← HGE.out]))
      | ((with_reducible refine at_d 6 ?_); go_loud (refine wl_alloc rfl rfl hst zer35 ?_; clear hst; intro b6 w6 hb6 hst))
      | ((with_reducible refine at_n (.store 35 (.tmp 6) (.tmp 36)) ?_); go_loud (refine wl_storeAll rfl rfl rfl rfl (hs := agg35) (hv := fun j _ => hF_one _ _ rfl j) (hk := ?_); clear hst; intro w1 hst; (try simp only [List.nil_append] at hst)))
      | ((with_reducible refine at_d 37 ?_); go_loud ((first | (refine wl_loadAll rfl rfl rfl (hs := agg35) (hk := ?_)) | (refine wl_loadN rfl rfl rfl (hs := agg35) (hk := ?_)))))
      | ((with_reducible refine at_d 7 ?_); go_loud (refine wl_alloc rfl rfl hst zer35 ?_; clear hst; intro b7 w7 hb7 hst))
      | ((with_reducible refine at_n (.store 35 (.tmp 7) (.tmp 37)) ?_); go_loud (refine wl_storeAll rfl rfl rfl rfl (hs := agg35) (hv := fun j _ => hF_one _ _ rfl j) (hk := ?_); clear hst; intro w1 hst; (try simp only [List.nil_append] at hst)))
      | ((with_reducible refine at_d 38 ?_); go_loud (refine wl_buildSlice0 rfl rfl elt32 hst ?_; clear hst; intro b38 w38 hb38 hst))
      | ((with_reducible refine at_d 39 ?_); go_loud (refine wl_fld (r := 53) fld35_7 rfl rfl rfl rfl (hk := ?_)))
      | ((with_reducible refine at_d 40 ?_); go_loud (refine wl_load1v rfl rfl rfl (hs := sc32) (hk := ?_)))
      | ((with_reducible refine at_d 41 ?_); go_loud (refine wl_append rfl rfl elt32 rfl rfl (n := 0) (g := bF []) (E := [(b38, blk (0 * 16) (fun _ => nB 0) 31)]) (.inr ⟨_, 0, _, rfl, Nat.le_refl _, by simp [maxLen], rfl, by simp⟩) hst (toks_src (HT.out _ _ hst)).1 (toks_src (HT.out _ _ hst)).2.2 (by intro j _; rfl) (by omega) (by unfold maxLen; omega) ?_; intro v41 w41 E41 hown41 hst41 _; clear hst; have hst := hst41; clear hst41; rw [Nat.zero_add] at hown41; replace hown41 := hown41.congr (g' := bF G.toks.flatten) (fun j _ => by simp [glue]); have hsl41 := hown41; obtain ⟨ad41, c41, rfl, _⟩ := hsl41.slice; clear hsl41))
      | ((with_reducible refine at_d 42 ?_); go_loud (refine wl_fld (r := 53) fld35_7 rfl rfl rfl rfl (hk := ?_)))
      | ((with_reducible refine at_n (.store 32 (.tmp 42) (.tmp 41)) ?_); go_loud (refine wl_store1 rfl rfl rfl (hp := Pick.app .head E41) (hs := sc32) (hk := ?_); clear hst; intro w1 hst; rw [hF_updT] at hst; replace hst := hst.perm (List.Perm.cons _ List.perm_middle)))
      | ((with_reducible refine at_d 43 ?_); go_loud ((first | (refine wl_loadAll rfl rfl rfl (hs := agg35) (hk := ?_)) | (refine wl_loadN rfl rfl rfl (hs := agg35) (hk := ?_)))))
      | ((with_reducible refine at_d 8 ?_); go_loud (refine wl_alloc rfl rfl hst zer35 ?_; clear hst; intro b8 w8 hb8 hst))
      | ((with_reducible refine at_n (.store 35 (.tmp 8) (.tmp 43)) ?_); go_loud (refine wl_storeAll rfl rfl rfl rfl (hs := agg35) (hv := fun j _ => hF_one _ _ rfl j) (hk := ?_); clear hst; intro w1 hst; (try simp only [List.nil_append] at hst)))
      | ((with_reducible refine at_d 44 ?_); go_loud (refine wl_buildSlice0 rfl rfl elt32 hst ?_; clear hst; intro b44 w44 hb44 hst))
      | ((with_reducible refine at_d 45 ?_); go_loud (refine wl_fld (r := 53) fld35_7 rfl rfl rfl rfl (hk := ?_)))
      | ((with_reducible refine at_d 46 ?_); go_loud (refine wl_load1v rfl rfl rfl (hs := sc32) (hk := ?_)))
      | ((with_reducible refine at_d 47 ?_); go_loud (refine wl_append rfl rfl elt32 rfl rfl (n := 0) (g := bF []) (E := [(b44, blk (0 * 16) (fun _ => nB 0) 31)]) (.inr ⟨_, 0, _, rfl, Nat.le_refl _, by simp [maxLen], rfl, by simp⟩) hst (toks_src (HT.out _ _ hst)).1 (toks_src (HT.out _ _ hst)).2.2 (by intro j _; rfl) (by omega) (by unfold maxLen; omega) ?_; intro v47 w47 E47 hown47 hst47 _; clear hst; have hst := hst47; clear hst47; rw [Nat.zero_add] at hown47; replace hown47 := hown47.congr (g' := bF G.toks.flatten) (fun j _ => by simp [glue]); have hsl47 := hown47; obtain ⟨ad47, c47, rfl, _⟩ := hsl47.slice; clear hsl47))
      | ((with_reducible refine at_d 48 ?_); go_loud (refine wl_fld (r := 53) fld35_7 rfl rfl rfl rfl (hk := ?_)))
      | ((with_reducible refine at_n (.store 32 (.tmp 48) (.tmp 47)) ?_); go_loud (refine wl_store1 rfl rfl rfl (hp := Pick.app .head E47) (hs := sc32) (hk := ?_); clear hst; intro w1 hst; rw [hF_updT] at hst; replace hst := hst.perm (List.Perm.cons _ (List.perm_middle.trans (.cons _ List.perm_middle)))))
      | ((with_reducible refine at_d 50 ?_); go_loud ((first | (refine wl_loadAll rfl rfl rfl (hs := agg35) (hk := ?_)) | (refine wl_loadN rfl rfl rfl (hs := agg35) (hk := ?_)))))
      | ((with_reducible refine at_d 51 ?_); go_loud (refine wl_call pl16 rfl rfl rfl (add_own hch (L := (b8, blk 125 (hF G (.slice ad47 G.toks.length c47)) 35) :: (b7, blk 125 (hF G (.slice ad41 G.toks.length c41)) 35) :: (b6, blk 125 (hF G (.slice tad G.toks.length tcap)) 35) :: (E47 ++ (E41 ++ (EH ++ ET)))) (hst.perm (perm_count (fun c d ha hc h0 => by simp only [ha, hc]; (try simp only [h0]); omega))) HGO.out hown47 (by intro p hp; simp [hp]) hK1 (by omega) HZ.out) ?_; rintro v51 w51 ⟨rfl, Ec7, hch7, hst51⟩; clear hst; have hst := hst51; clear hst51))
      | ((with_reducible refine at_d 54 ?_); go_loud (refine wl_loadAll rfl rfl rfl (hb := ⟨_, _, hst.own (b7, blk 125 (hF G (.slice ad41 G.toks.length c41)) 35) (by simp)⟩) (hs := agg35) (hk := ?_)))
      | ((with_reducible refine at_d 55 ?_); go_loud (refine wl_buildSlice1 rfl rfl elt22 (by decide) (by (conv => lhs; whnf) <;> rfl) (by first | exact row_one _ | rfl) hst ?_; clear hst; intro b55 w55 hb55 hst))
      | ((with_reducible refine at_d 56 ?_); go_loud (refine wl_append rfl rfl elt22 rfl rfl hown (L := (b55, blk 125 (hF G (.slice ad41 G.toks.length c41)) 35) :: (Ec7 ++ ((b8, blk 125 (hF G (.slice ad47 G.toks.length c47)) 35) :: (b7, blk 125 (hF G (.slice ad41 G.toks.length c41)) 35) :: (b6, blk 125 (hF G (.slice tad G.toks.length tcap)) 35) :: (E47 ++ (E41 ++ ET))))) (h := hF G (.slice ad41 G.toks.length c41)) (hst.perm (perm_count (fun c d ha hc h0 => by simp only [ha, hc]; (try simp only [h0]); omega))) (.inr ⟨b55, 0, 125, _, rfl, hst.hasb Pick.head, by omega, fun j _ => by rw [Nat.zero_add]⟩) (by intro h; cases h) (fun j _ => hF_one G _ rfl j) (by omega) (by unfold maxLen; omega) ?_; intro v56 w56 E56 hown56 hst56 _; clear hst; have hst := hst56; clear hst56; have hhv56 := GotO.snoc hown56 HEL.out HGO.out hown41)))
        all_goals
          first
          | (have hz0 : z = 0 := eq_of_beq ‹(z == 0) = true›
             rw [if_pos hz0] at hch7
             have hst0 := hst.resh (L' := (b8, blk 125 (hF G (.slice ad47 G.toks.length c47)) 35) :: (E47 ++ (Ec7 ++ (E56 ++ (E41 ++ ET))))) [(b55, blk 125 (hF G (.slice ad41 G.toks.length c41)) 35), (b7, blk 125 (hF G (.slice ad41 G.toks.length c41)) 35), (b6, blk 125 (hF G (.slice tad G.toks.length tcap)) 35)] (perm_count (fun c d ha hc h0 => by simp only [ha, hc]; (try simp only [h0]); omega))
             clear hst
             have hst := hst0
             clear hst0
             obtain ⟨Ex, hEx⟩ : ∃ Ex, Ex = E56 ++ (E41 ++ ET) := ⟨_, rfl⟩
             rw [← hEx] at hst hhv56
             have hhvx : ∃ hsx, hsx.length ≤ k + 1 ∧ ChainO b 3 hsx Ec7 ∧ GotO _ hsx Ex := ⟨_, by rw [List.length_append]; simp; omega, hch7, hhv56⟩)
          | (have hz0 : z ≠ 0 := by simpa using ‹(z == 0) = false›
             rw [if_neg hz0] at hch7
             have hst0 := hst.resh (L' := (b8, blk 125 (hF G (.slice ad47 G.toks.length c47)) 35) :: (E47 ++ (Ec7 ++ (EH ++ ET)))) ((b7, blk 125 (hF G (.slice ad41 G.toks.length c41)) 35) :: (b6, blk 125 (hF G (.slice tad G.toks.length tcap)) 35) :: E41) (perm_count (fun c d ha hc h0 => by simp only [ha, hc]; (try simp only [h0]); omega))
             clear hst
             have hst := hst0
             clear hst0
             obtain ⟨Ex, hEx⟩ : ∃ Ex, Ex = EH ++ ET := ⟨_, rfl⟩
             have hhv0 := HHV.out
             rw [← hEx] at hst hhv0
             have hhvx : ∃ hsx, hsx.length ≤ k + 1 ∧ ChainO b 3 hsx Ec7 ∧ GotO _ hsx Ex := ⟨_, by omega, hch7, hhv0⟩)
          have HX4 := Lib.hid hhvx
          clear hhvx hch7
          go_wp2_with (fail)
          go_loopw [9] (fun i wq => ∃ (q : Nat) (gg : Nat → Value) (Et : List (Nat × Obj)), q ≤ G.toks.length ∧ i = .int .i64 (q : Int) ∧ Own 16 31 (.slice ad47 G.toks.length c47) G.toks.length gg Et ∧ Hid (∀ j, j < G.toks.length * 16 → ∃ x, x < 256 ∧ gg j = nB x) ∧ St W [] ((b8, blk 125 (hF G (.slice ad47 G.toks.length c47)) 35) :: (Et ++ (Ec7 ++ Ex))) wq) (fun i _ => G.toks.length - (intOf i).toNat)
          case atStart =>
            refine ⟨0, _, E47, by omega, rfl, hown47, ?_, hst⟩
            show ∀ j, _
            intro j _
            exact toks_u8 HGO.out j
          case round =>
            clear hst
            obtain ⟨q, gg, Et, hq, rfl, howq, HU, hst⟩ := hrel
            by_cases hql : q < G.toks.length
            · rcases howq with ⟨_, hz, _⟩ | ⟨bt, cap, ft, e, hcc, hcm2, rfl, hft⟩
              · omega
              simp only [Value.slice.injEq] at e
              obtain ⟨rfl, -, rfl⟩ := e
              obtain ⟨x, hx, hgx⟩ := HU.out (16 * q) (by omega)
              have HX : Hid (ft (0 + 16 * q + 1 * 0) = .int .u8 (x : Int)) := by
                show _ = _
                rw [show 0 + 16 * q + 1 * 0 = 16 * q by omega, hft _ (by omega), hgx]
              obtain ⟨y, hy, hwy⟩ := wrap_u8 x
              have HY := Lib.hid hwy
              have HFT := Lib.hid hft
              clear hgx hwy hft
              simp only [List.cons_append, List.nil_append] at hst
              go_wp2_with (first
      | ((with_reducible refine at_d 58 ?_); go_loud (refine wl_fld (r := 53) fld35_7 rfl rfl rfl rfl (hk := ?_)))
      | ((with_reducible refine at_d 59 ?_); go_loud (refine wl_load1v rfl rfl rfl (hs := sc32) (hk := ?_)))
      | ((with_reducible refine at_d 61 ?_); go_loud (refine wl_cmp (p := (q : Int)) (q := (G.toks.length : Int)) (by first | exact decide_eq_true (by omega) | exact decide_eq_false (by omega)) rfl rfl rfl rfl rfl (hk := ?_))))
              refine rg_start (St W [] ((b8, blk 125 (hF G (.slice (some ⟨bt, 0, none⟩) G.toks.length c47)) 35) :: (bt, blk (c47 * 16) ft 31) :: (Ec7 ++ Ex))) mixed (hst.drew) ?_
              refine rg_take [0, 1, 2, 3, 4, 5, 6, 7, 8] 1 _ rfl (by kernel_rfl) (by kernel_rfl) rfl (cls_st _ _ _) (fun _ _ _ _ _ h => h) ?_
              refine tk_fld (r := 53) fld35_7 rfl rfl rfl rfl rfl (hk := ?_)
              refine tk_load1 rfl rfl (by rfl) rfl (hs := sc32) (hk := ?_)
              refine tk_wp (hk := ?_)
              refine tk_idx (i := q) Tryd.underlying32 siz31 (by omega) rfl rfl rfl rfl rfl (hk := ?_)
              refine tk_idxA (i := 0) Tryd.underlying31 sc5.size (by decide) rfl rfl rfl rfl rfl (hk := ?_)
              refine tk_load1 rfl rfl (by rfl) rfl (hv := HX.out) (hs := sc5) (hk := ?_)
              refine tk_ariW (p := (x : Int)) (q := 1) (r := (y : Int)) HY.out rfl rfl rfl rfl rfl rfl (hk := ?_)
              refine tk_idx (i := q) Tryd.underlying32 siz31 (by omega) rfl rfl rfl rfl rfl (hk := ?_)
              refine tk_idxA (i := 0) Tryd.underlying31 sc5.size (by decide) rfl rfl rfl rfl rfl (hk := ?_)
              refine tk_nil ?_
              refine rg_lastStore1 (i := 9) (by kernel_rfl) rfl rfl rfl (by kernel_rfl) (by kernel_rfl) rfl (by (conv => lhs; whnf) <;> rfl) (by repeat (first | exact Pick.head | apply Pick.tail)) (by omega) sc5 (by rfl) (by (conv => lhs; simp only [put_lit, put_none, setL]) <;> rfl) (fun w1 hst1 => ?_)
              clear hst
              go_wp2_with (fail)
              go_roundw
              case rel =>
                refine ⟨q + 1, _, [(bt, _)], by omega, by go_num, .inr ⟨bt, c47, _, rfl, hcc, hcm2, rfl, fun j _ => rfl⟩, ?_, hst1.perm (List.Perm.swap _ _ _)⟩
                show ∀ j, _
                intro j hj
                unfold upd
                by_cases c : j = 0 + 16 * q + 1 * 0
                · exact ⟨y, hy, by rw [if_pos c]⟩
                · rw [if_neg c, HFT.out j (by omega)]; exact HU.out j hj
              case measure => simp [intOf]; omega
            · go_wp2_with (first
      | ((with_reducible refine at_d 58 ?_); go_loud (refine wl_fld (r := 53) fld35_7 rfl rfl rfl rfl (hk := ?_)))
      | ((with_reducible refine at_d 59 ?_); go_loud (refine wl_load1v rfl rfl rfl (hs := sc32) (hk := ?_)))
      | ((with_reducible refine at_d 61 ?_); go_loud (refine wl_cmp (p := (q : Int)) (q := (G.toks.length : Int)) (by first | exact decide_eq_true (by omega) | exact decide_eq_false (by omega)) rfl rfl rfl rfl rfl (hk := ?_))))
              obtain ⟨hsx, hlx, hchx, hhx⟩ := HX4.out
              go_roundw
              case rel => exact ⟨k + 1, hsx, Ec7, Ex, by omega, hlx, by go_num, hchx, hhx, hst.resh ((b8, blk 125 (hF G (.slice ad47 G.toks.length c47)) 35) :: Et) (perm_count (fun c d ha hc h0 => by simp only [ha, hc]; (try simp only [h0]); omega))⟩
              case measure => simp [intOf]; omega
      · have hlx : hs.length < 1000 := by omega
        have HFN : Hid (fromL hs 1 (fromN hs 1 100) = hs) := by
          show _ = _
          have hn : fromN hs 1 100 = hs.length := by unfold fromN; omega
          rw [hn]
          unfold fromL
          simp
        have HHV := Lib.hid hhv
        clear hhv h
        go_wp2_with (first
      | ((with_reducible refine at_d 74 ?_); go_loud (refine wl_call pl22 rfl rfl rfl (from_any b 3 hs 1 1 100 _ (hch.read (fun p hp => hst.own p (by simp [hp]))) (by decide) (by decide)) ?_; rintro v74 w74 ⟨Eg, hgot, hst74⟩; replace hst := hst.call hst74; clear hst74; rw [HFN.out] at hgot; obtain ⟨ad74, c74, rfl, hc74, hm74⟩ := hgot.slice)))
        unfold maxLen at hm74
        obtain ⟨g, EH, ET, rfl, hown, htok⟩ := hgot.toks
        have HTK0 := Lib.hid htok
        have HOW := Lib.hid hown
        clear hgot htok hown
        go_loopw [11] (fun i wq => ∃ (q : Nat) (Et : List (Nat × Obj)), q ≤ hs.length ∧ i = .int .i64 (q : Int) ∧ Hid (TokU g Et hs.length) ∧ St W [] (EH ++ (Et ++ (Ec ++ Eh))) wq) (fun i _ => hs.length - (intOf i).toNat)
        case atStart => exact ⟨0, ET, by omega, rfl, HTK0, by simpa using hst⟩
        case round =>
          clear hst HTK0
          obtain ⟨q, Et, hq, rfl, HTK, hst⟩ := hrel
          by_cases hql : q < hs.length
          · rcases HOW.out with ⟨_, hz, _⟩ | ⟨bg, cap, fg, e, hcc, hcm2, rfl, hfg⟩
            · omega
            simp only [Value.slice.injEq] at e
            obtain ⟨rfl, -, rfl⟩ := e
            obtain ⟨adt, m, ct, htg, hmm, htb⟩ := HTK.out q hql
            have hm0 : m ≤ 9223372036854775807 := by unfold maxLen at hmm; omega
            have HCELL : Hid (fg (0 + 125 * q + 53) = .slice adt m ct) := by
              show _ = _
              rw [show 0 + 125 * q + 53 = 125 * q + 53 by omega, hfg _ (by omega), htg]
            clear htg hmm htb hfg
            simp only [List.cons_append, List.nil_append] at hst
            go_wp2_with (first
      | ((with_reducible refine at_d 78 ?_); go_loud (refine wl_cmp (p := (q : Int)) (q := (hs.length : Int)) (by first | exact decide_eq_true (by omega) | exact decide_eq_false (by omega)) rfl rfl rfl rfl rfl (hk := ?_))))
            go_loopw [12] (fun i wq => ∃ (u : Nat) (Et : List (Nat × Obj)), u ≤ m ∧ i = .int .i64 (u : Int) ∧ Hid (TokU g Et hs.length) ∧ St W [] ((bg, blk (c74 * 125) fg 35) :: (Et ++ (Ec ++ Eh))) wq) (fun i _ => m - (intOf i).toNat)
            case atStart => exact ⟨0, Et, by omega, rfl, HTK, hst⟩
            case round =>
              clear hst HTK
              obtain ⟨u, Et, hu, rfl, HTK, hst⟩ := hrel
              by_cases hum : u < m
              · obtain ⟨ad', m', c', htg, _, htb⟩ := HTK.out q hql
                have HOWN := HOW.out
                rcases HOWN with ⟨_, hz, _⟩ | ⟨bg', cap', fg', e, _, _, e2, hfg'⟩
                · omega
                simp only [List.cons.injEq, Prod.mk.injEq, and_true] at e2
                obtain ⟨rfl, e3⟩ := e2
                obtain ⟨_, _, e4⟩ := blk_eq e3
                have e5 : Value.slice adt m ct = .slice ad' m' c' := by
                  rw [← htg, ← hfg' _ (by omega), ← e4 _ (by omega), show 125 * q + 53 = 0 + 125 * q + 53 by omega]
                  exact HCELL.out.symm
                simp only [Value.slice.injEq] at e5
                obtain ⟨rfl, rfl, rfl⟩ := e5
                obtain ⟨bt, Nt, ft, Tt, rfl, hmt, hNt, hcells⟩ := htb (by omega)
                obtain ⟨x, hx, hgx⟩ := hcells (16 * u + 1) (by omega)
                have HX : Hid (ft (0 + 16 * u + 1 * 1) = .int .u8 (x : Int)) := by
                  show _ = _
                  rw [show 0 + 16 * u + 1 * 1 = 16 * u + 1 by omega, hgx]
                obtain ⟨y, hy, hwy⟩ := wrap_u8 x
                have HY := Lib.hid hwy
                obtain ⟨Er, hpk⟩ := pick_of_mem hmt
                have HNEW : Hid (TokU g ((bt, blk Nt (upd ft (0 + 16 * u + 1 * 1) (nB y)) Tt) :: Er) hs.length) := HTK.out.put hpk hy
                have HMT := Lib.hid hmt
                have HPK := Lib.hid hpk
                clear htg htb e e3 e4 hfg' hmt hcells hgx hwy hpk
                go_wp2_with (first
      | ((with_reducible refine at_d 84 ?_); go_loud (refine wl_idx (i := q) Tryd.underlying22 siz35 (by omega) rfl rfl rfl rfl (hk := ?_)))
      | ((with_reducible refine at_d 85 ?_); go_loud (refine wl_fld fld35_7 rfl rfl rfl rfl (hk := ?_)))
      | ((with_reducible refine at_d 86 ?_); go_loud (refine wl_load1v rfl rfl rfl (hst.hasb Pick.head) HCELL.out (by omega) sc32 (hk := ?_)))
      | ((with_reducible refine at_d 88 ?_); go_loud (refine wl_cmp (p := (u : Int)) (q := (m : Int)) (by first | exact decide_eq_true (by omega) | exact decide_eq_false (by omega)) rfl rfl rfl rfl rfl (hk := ?_))))
                refine rg_start (St W [] ((bg, blk (c74 * 125) fg 35) :: (Et ++ (Ec ++ Eh)))) mixed (hst.drew) ?_
                refine rg_take [0, 1, 2, 3, 4, 5, 6, 7, 8, 9, 10, 11] 1 _ rfl (by kernel_rfl) (by kernel_rfl) rfl (cls_st _ _ _) (fun _ _ _ _ _ h => h) ?_
                refine tk_wp (hk := ?_)
                refine tk_wp (hk := ?_)
                refine tk_idx (i := q) Tryd.underlying22 siz35 (by omega) rfl rfl rfl rfl rfl (hk := ?_)
                refine tk_fld fld35_7 rfl rfl rfl rfl rfl (hk := ?_)
                refine tk_load1 rfl rfl (by rfl) rfl (fun w hst => hst.hasb Pick.head) HCELL.out (by omega) sc32 (hk := ?_)
                refine tk_wp (hk := ?_)
                refine tk_idx (i := u) Tryd.underlying32 siz31 (by omega) rfl rfl rfl rfl rfl (hk := ?_)
                refine tk_idxA (i := 1) Tryd.underlying31 sc5.size (by decide) rfl rfl rfl rfl rfl (hk := ?_)
                refine tk_load1 rfl rfl (by rfl) rfl (fun w hst => (show Has w bt Nt ft from ⟨_, _, hst.own (bt, blk Nt ft Tt) (by simp [HMT.out])⟩)) HX.out (by omega) sc5 (hk := ?_)
                refine tk_ariW (p := (x : Int)) (q := 1) (r := (y : Int)) HY.out rfl rfl rfl rfl rfl rfl (hk := ?_)
                refine tk_idx (i := u) Tryd.underlying32 siz31 (by omega) rfl rfl rfl rfl rfl (hk := ?_)
                refine tk_idxA (i := 1) Tryd.underlying31 sc5.size (by decide) rfl rfl rfl rfl rfl (hk := ?_)
                refine tk_nil ?_
                refine rg_lastStore1 (i := 12) (by kernel_rfl) rfl rfl rfl (by kernel_rfl) (by kernel_rfl) rfl (by (conv => lhs; whnf) <;> rfl) (.tail (Pick.appR HPK.out (Ec ++ Eh))) (by omega) sc5 (by rfl) (by (conv => lhs; simp only [put_lit, put_none, setL]) <;> rfl) (fun w1 hst1 => ?_)
                clear hst
                go_wp2_with (fail)
                go_roundw
                case rel => exact ⟨u + 1, _ :: Er, by omega, by go_num, HNEW.out, hst1.perm (List.Perm.swap _ _ _)⟩
                case measure => simp [intOf]; omega
              · go_wp2_with (first
      | ((with_reducible refine at_d 84 ?_); go_loud (refine wl_idx (i := q) Tryd.underlying22 siz35 (by omega) rfl rfl rfl rfl (hk := ?_)))
      | ((with_reducible refine at_d 85 ?_); go_loud (refine wl_fld fld35_7 rfl rfl rfl rfl (hk := ?_)))
      | ((with_reducible refine at_d 86 ?_); go_loud (refine wl_load1v rfl rfl rfl (hst.hasb Pick.head) HCELL.out (by omega) sc32 (hk := ?_)))
      | ((with_reducible refine at_d 88 ?_); go_loud (refine wl_cmp (p := (u : Int)) (q := (m : Int)) (by first | exact decide_eq_true (by omega) | exact decide_eq_false (by omega)) rfl rfl rfl rfl rfl (hk := ?_))))
                go_roundw
                case rel => exact ⟨q + 1, Et, by omega, by go_num, HTK, hst⟩
                case measure => simp [intOf]; omega
          · replace hst := hst.resh (L' := Ec ++ Eh) (EH ++ Et) (perm_count (fun c _ ha _ _ => by simp only [ha]; omega))
            go_wp2_with (first
      | ((with_reducible refine at_d 78 ?_); go_loud (refine wl_cmp (p := (q : Int)) (q := (hs.length : Int)) (by first | exact decide_eq_true (by omega) | exact decide_eq_false (by omega)) rfl rfl rfl rfl rfl (hk := ?_))))
            clear HTK HOW
            go_loopw [13] (fun i wq => ∃ u : Nat, u ≤ hs.length ∧ i = .int .i64 (u : Int) ∧ St W [] (Ec ++ Eh) wq) (fun i _ => hs.length - (intOf i).toNat)
            case atStart => exact ⟨0, by omega, rfl, hst⟩
            case round =>
              clear hst
              obtain ⟨u, hu, rfl, hst⟩ := hrel
              by_cases hul : u < hs.length
              · obtain ⟨G, hG⟩ : ∃ G, hs[u]? = some G := ⟨_, List.getElem?_eq_getElem hul⟩
                obtain ⟨bh, Nh, fh, tokh, rfl, hmb, hNh, _, gok, htk, hah⟩ := HHV.out.get hG
                have HG := Lib.hid hG
                have HMB := Lib.hid hmb
                have HAG := Lib.hid hah
                have HTG := Lib.hid htk
                clear hG hmb hah htk
                go_wp2_with (first
      | ((with_reducible refine at_d 106 ?_); go_loud (refine wl_cmp (p := (u : Int)) (q := (hs.length : Int)) (by first | exact decide_eq_true (by omega) | exact decide_eq_false (by omega)) rfl rfl rfl rfl rfl (hk := ?_)))
      | ((with_reducible refine at_d 112 ?_); go_loud (refine wl_ari (p := (u : Int)) (q := 1) (r := ((u : Int) + 1)) (k := .i64) (by simp only [ariI] <;> omega) (by show _ ∧ _; omega) rfl rfl rfl rfl rfl (hk := ?_)))
      | ((with_reducible refine at_d 114 ?_); go_loud (refine wl_call pl19 rfl rfl rfl (at_yes b u _ hs G _ (hch.read (fun p hp => hst.own p (by simp [hp]))) HG.out) ?_; rintro v114 w114 ⟨t114, E114, rfl, hown114, hst114⟩; replace hst := hst.call hst114; clear hst114; have hown := hown114; obtain ⟨ad114, c114, rfl, _⟩ := hown114.slice))
      | ((with_reducible refine at_d 14 ?_); go_loud (refine wl_alloc rfl rfl hst zer35 ?_; clear hst; intro b14 w14 hb14 hst))
      | ((with_reducible refine at_n (.store 35 (.tmp 14) (.tmp 115)) ?_); go_loud (refine wl_storeAll rfl rfl rfl rfl (hs := agg35) (hv := fun j _ => hF_one _ _ rfl j) (hk := ?_); clear hst; intro w1 hst; (try simp only [List.nil_append] at hst))))
                refine rg_start (St W [] ((b14, blk 125 (hF G (Value.slice ad114 G.toks.length c114)) 35) :: (E114 ++ (Ec ++ Eh)))) mixed (hst.drew) ?_
                refine rg_take [0, 1, 2, 3, 4, 5, 6, 7, 8, 9, 10] 0 _ rfl (by kernel_rfl) (by kernel_rfl) rfl (cls_st _ _ _) (fun _ _ _ _ _ h => h) ?_
                refine tk_wp (hk := ?_)
                refine tk_wp (hk := ?_)
                refine tk_wp (hk := ?_)
                first | (refine tk_skip rfl (by rfl) (hk := ?_)) | (first | (refine tk_loadAll rfl rfl (by rfl) rfl (hs := agg35) (hk := ?_)) | (refine tk_loadN rfl rfl (by rfl) rfl (hs := agg35) (hk := ?_)))
                first | (refine tk_skip rfl (by rfl) (hk := ?_)) | (refine tk_wp (hk := ?_))
                first | (refine tk_skip rfl (by rfl) (hk := ?_)) | (refine tk_wp (hk := ?_))
                first | (refine tk_skip rfl (by rfl) (hk := ?_)) | (refine tk_idx (i := u) Tryd.underlying22 siz35 (by omega) rfl rfl rfl rfl rfl (hk := ?_))
                first | (refine tk_skip rfl (by rfl) (hk := ?_)) | (refine tk_loadP rfl rfl (by rfl) rfl (fun w hst => (show Has w bh Nh fh from ⟨_, _, hst.own (bh, blk Nh fh 35) (by simp [HMB.out])⟩)) agg35 (by omega) HAG.out (hk := ?_))
                first | (refine tk_skip rfl (by rfl) (hk := ?_)) | (refine tk_call (v := .bool true) pl20 rfl rfl (by rfl) rfl (fun w hst => same_any G G _ _ w gok gok (toks_ownp hown gok.toks (fun p hp => hst.own p (by simp [hp]))) (HTG.out _ (fun p hp => hst.own p (by simp [hp])))) (fun w u w' hR => (by obtain ⟨rfl, hs'⟩ := hR; exact ⟨by simp, hs'.below⟩)) (hk := ?_))
                first | (refine tk_skip rfl (by rfl) (hk := ?_)) | (refine tk_wp (hk := ?_))
                refine tk_wp (hk := ?_)
                refine tk_nil ?_
                refine rg_done (by kernel_rfl) (fun w1 hst1 => ?_) _
                clear hst; have hst := hst1; clear hst1
                go_wp2_with (fail)
                go_roundw
                case rel => exact ⟨u + 1, by omega, by go_num, hst.sub (.cons _ (List.sublist_append_right _ _))⟩
                case measure => simp [intOf]; omega
              · go_wp2_with (first
      | ((with_reducible refine at_d 106 ?_); go_loud (refine wl_cmp (p := (u : Int)) (q := (hs.length : Int)) (by first | exact decide_eq_true (by omega) | exact decide_eq_false (by omega)) rfl rfl rfl rfl rfl (hk := ?_)))
      | ((with_reducible refine at_d 132 ?_); go_loud (refine wl_cmp (p := (hs.length : Int)) (q := (hs.length : Int)) (by first | exact decide_eq_true (by omega) | exact decide_eq_false (by omega)) rfl rfl rfl rfl rfl (hk := ?_))))
                go_ret
                exact ⟨_, rfl, rfl, hst.none⟩
end Go.Proofs.YtmegpfjlijphoaaDoor
namespace Go.Proofs.YtmegpfjlijphoaaDoor
open Go.ChangeShapes Go.WideShapes Go.ChangeAt Go.WideMaps Go.WideElems Go.RowKit Go.Jal

set_option maxRecDepth 100000 in
theorem writerOwn_lifted (os : Os) (started : os.Started) (H : Type) (enc : TypeId × Value → H) :
    ReturnsInHanded {} Tryd.checked os 5 .any (fun w args => (Rows.writerOwnSpec.pre enc Tryd.prog Tryd.f5 [] false w args ∧ laidMetH Tryd.prog laidK w) ∧ sizedMet enc Tryd.prog Tryd.f5 (OpenSpec.ofChange Rows.writerOwnSpec) false w args)
      (Rows.writerOwnSpec.post enc Tryd.prog Tryd.f5 false true false false) := by
  refine returnsInHanded_of_change_and (C := Tryd.checked) (X := fun w _ => laidMetH Tryd.prog laidK w) (fun _ _ _ hh h => h.of_heap hh) own started (by kernel_rfl) Tryd.func5
    (ChangeSpec.witness_shaped (enc := enc) (C := Tryd.checked) (os := os) (X := fun w _ => laidMetH Tryd.prog laidK w) false (World.doorLaid Tryd.prog 4000 os) #[.slice none 0 0] 8 rfl (World.shaped_of_RefB (by kernel_rfl) (by kernel_rfl)) (by kernel_rfl) (by kernel_rfl) (by kernel_rfl) (door_met os _)) ?_
  intro W base args ds gs before hval0 hW _ _ hL _
  have hval : ∀ (j : Nat) t v, Tryd.f5.params[j]? = some t → args[j]? = some v → Value.okWide Tryd.prog W .any base t v := hval0
  have hW' := hW
  obtain ⟨p, q, hA0, hV, rfl, hfz, hnd⟩ := hW
  have hA : DataW.TrodAll enc Tryd.prog W 0 (fun _ => true) true Tryd.f5.params.toList args.toList ds p := hA0
  rw [Tryd.params5] at hA hval
  obtain ⟨v0, d0, rfl, rfl, h0⟩ := trodAll_one hA
  obtain ⟨rfl, rfl⟩ := trodVars_none hV
  have k0 := h0
  have lt0 : ∀ x ∈ p, x.block < W.heap.size := by obtain ⟨m, hm⟩ := k0; exact DataW.trod_lt m _ _ _ hm
  obtain ⟨l0, h0'⟩ := open_hdrs (hval 0 22 v0 rfl rfl) k0
  have hcall := writerOwn_any v0 l0 W h0' (of_laid hL).2 (of_laid hL).1
  clear hA0 hval0
  refine Calls.mono hcall ?_
  rintro e W' ⟨v', rfl, rfl, hst⟩
  have bel := hst.below
  exact ⟨_, rfl, _, _, _, [], _, [], hW', trodAll_mk1 (shut_bool Tryd.underlying4 _), trodAll_mk1 (Below.trod laidOut (by kernel_rfl) (of_decide_eq_true (by kernel_rfl)) k0 bel lt0), rfl, bel.frame _, fun h => by cases h⟩
theorem writerOwn_row : Rows.WriterOwnSaid :=
  OpenClaim.holds_of_wide 5 Tryd.f5 rfl rfl rfl rfl rfl rfl rfl ⟨rfl, rfl, rfl, rfl, rfl⟩ rfl rfl rfl rfl rfl (by kernel_rfl) Tryd.func5 (by kernel_rfl)
    (of_decide_eq_true (by kernel_rfl)) (by unfold Func.isWrapper; first | (rw [if_pos (by decide +kernel)]; kernel_rfl) | (rw [if_neg (by decide +kernel)]; exact ⟨rfl, rfl⟩))
    (fun os started H enc _ => writerOwn_lifted os started H enc)
theorem writerOwn_card : Rows.WriterOwnCardSaid :=
  Claim7.holds_tied_plain_at .later [] [.data, .data] true (true, "752c0f0884d59ad1d35480a3cbcce539d087732fcb49b9c026f1b6ecce218f39") false
    writerOwn_row (fun _ h => by cases h) (by kernel_rfl) (fun _ h => by cases h) writerOwn_row_tie rfl ⟨rfl, rfl⟩ (by kernel_rfl) rfl
    (fun f fn hf hfn => by
      obtain rfl : f = 5 := Option.some.inj ((show Tryd.prog.funcNamed "jalousie/jalousielaw13.WriterOwn" = some 5 by kernel_rfl).symm.trans hf) |>.symm
      obtain rfl : fn = Tryd.f5 := (Option.some.inj (Tryd.func5.symm.trans hfn)).symm
      exact ⟨by kernel_rfl, fun j t ht => by
        rw [Tryd.params5] at ht
        have hall : ∀ t ∈ [22], Tryd.prog.wantsStandIn t = false := by
          intro t ht
          simp only [List.mem_cons, List.not_mem_nil, or_false] at ht
          rcases ht with rfl <;> kernel_rfl
        exact hall t (by have := Array.mem_of_getElem? ht; simpa using this)⟩)
    (by kernel_rfl)
#print axioms writerOwn_card
end Go.Proofs.YtmegpfjlijphoaaDoor
