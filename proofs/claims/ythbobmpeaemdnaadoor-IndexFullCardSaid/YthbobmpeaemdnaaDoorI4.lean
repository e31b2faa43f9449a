/- Right and awake of law20; index.Put beside all else. -/
import Derived.Test.YthbobmpeaemdnaaDoorI3
import Derived.Test.YthbobmpeaemdnaaDoorIF0
import Derived.Laws.MakeOwn
namespace Go.Jal
open Go.RowKit
section
variable {P : Program} {ops : Array Oper} {Q : Exit → Act → World → Prop} {rest : List Oper} {o : Oper} {a a' : Act} {w w0 : World} {M : List Nat} {L : List (Nat × Obj)}
theorem run_make80 {t e bytes : Nat} {zf : Nat → Value} (he : Elt P t e 1 bytes zf) (hb : bytes ≤ 1000) (w : World) :
    (Instr.makeSlice t (.int .i64 80) (.int .i64 80)).run P w = .ok (.slice (some ⟨w.heap.size, 0, none⟩) 80 80) (w.alloc (blk 80 (fun _ => zf 0) e)) := by
  obtain ⟨i, z, h1, h2, h3⟩ : ∃ i z, P.info? e = some i ∧ i.zero = some z ∧ z.cells = row 1 zf := by
    have hz := he.zer
    unfold Zer at hz
    cases h1 : P.info? e with
    | none => simp [h1] at hz
    | some i =>
      cases h2 : i.zero with
      | none => simp [h1, h2] at hz
      | some z => exact ⟨i, z, rfl, h2, by simpa [h1, h2] using hz⟩
  have hsz := he.siz
  rw [h1] at hsz
  simp only [Option.map_some, Option.some.injEq, Prod.mk.injEq] at hsz
  have hr := run_make (P := P) w t e i z he.und h1 h2 .i64 .i64 80 80 (by decide) (by decide) (by rw [hsz.2]; omega) (by decide)
  rw [hr, hsz.1, h3]
  have : madeCells (row 1 zf) ((80 : Int).toNat * 1) = row 80 (fun _ => zf 0) := by
    apply Array.ext
    · simp [madeCells]
    · intro k hk1 hk2
      simp [madeCells, row, Nat.mod_one]
  rw [this]
  rfl
theorem wl_make80 {t e bytes : Nat} {zf : Nat → Value} {x y : Operand} (ho : o.op = .makeSlice t x y) (hw : Region.wanted o (yielded ops a.tmps) = true) (he : Elt P t e 1 bytes zf) (hst : St w0 M L w) (hb : bytes ≤ 1000 := by decide) (hx : a.eval x = .int .i64 80 := by rfl) (hy : a.eval y = .int .i64 80 := by rfl)
    (hk : ∀ b w', w0.heap.size ≤ b → St w0 M ((b, blk 80 (fun _ => zf 0) e) :: L) w' → wpList P ops Q rest (a.put o.dst (.slice (some ⟨b, 0, none⟩) 80 80)) w') : wpList P ops Q (o :: rest) a w := by
  refine BigFrame.wpList_want hw fun K hK => ?_
  unfold Oper.wp execOp
  simp only [ho, hx, hy, Sem.run_bind, run_make80 he hb, Result.andThen_ok, Sem.run_pure]
  exact hK _ _ (hk _ _ hst.size (hst.alloc _))
end
theorem pF_hdrAll (H H' : Hdr) (tok tok' bv : Value) (T : TypeId) : blk 126 (blit (pF H tok bv) 0 125 (hF H' tok')) T = blk 126 (pF H' tok' bv) T := blk_congr fun i hi => by
  unfold blit pF
  by_cases c : i < 125
  · rw [blt_t c, if_pos (by omega)]; rfl
  · rw [blt_f (show 125 ≤ i by omega), if_neg (by omega)]; simp only [cond_false]
theorem upd_zero (n i : Nat) (T : TypeId) : blk n (upd (fun _ => nB 0) i (.int .u8 0)) T = blk n (fun _ => nB 0) T := blk_congr fun j hj => by
  unfold upd
  by_cases c : j = i
  · rw [if_pos c]; rfl
  · rw [if_neg c]
theorem zeros_bs {w : World} {b : Nat} {T : TypeId} (h : w.heap[b]? = some (blk 80 (fun _ => nB 0) T)) : Bs w (.slice (some ⟨b, 0, none⟩) 80 80) (zeros 80) := by
  refine ⟨some ⟨b, 0, none⟩, 80, by simp [zeros], by simp [zeros], by simp [maxLen], fun x hx => by rw [(List.mem_replicate.1 hx).2]; decide, (by intro h; cases h), fun _ => ⟨b, 0, 80, _, rfl, ⟨_, _, h⟩, by simp [zeros], fun j hj => ?_⟩⟩
  have hj' : j < 80 := by simpa [zeros] using hj
  exact zeros_b 80 j hj'
theorem Hds.nil {w : World} : Hds w (.slice none 0 0) [] := ⟨none, 0, rfl, Nat.le_refl _, by simp [maxLen], (by intro H h; cases h), fun _ => rfl, fun h => absurd rfl h⟩
theorem Toks.nil {w : World} : Toks w (.slice none 0 0) [] := ⟨none, 0, rfl, Nat.le_refl _, by simp [maxLen], (by intro t h; cases h), fun _ => rfl, fun h => absurd rfl h⟩
end Go.Jal
namespace Go.Proofs.YthbobmpeaemdnaaDoor
open Go.RowKit Go.Jal
theorem zH_ok : zH.Ok := by
  have hz : ∀ n, ∀ x ∈ zeros n, x < 256 := fun n x hx => by rw [(List.mem_replicate.1 hx).2]; decide
  have hl : ∀ n, (zeros n).length = n := fun n => by simp [zeros]
  refine ⟨by decide, by decide, ⟨hl 32, hz 32⟩, by decide, by decide, ⟨hl 16, hz 16⟩, fun _ h => absurd h (by simp [zH]), ⟨rfl, ?_⟩, ⟨hl 32, hz 32⟩, by decide, ⟨hl 32, hz 32⟩⟩
  intro x hx
  rw [(List.mem_replicate.1 hx).2]
  decide
set_option maxRecDepth 100000 in
theorem headers0_any (w : World) : Ret Tryd.prog 40 #[.slice none 0 0] w fun v' w' => v' = .slice none 0 0 ∧ St w [] [] w' := by
  go_enter Tryd.func40, Tryd.ntmps40
  have hst := St.refl w
  go_wp2_with fail
  go_loopw [3, 4] (fun v3 i wq => v3 = .slice none 0 0 ∧ i = .int .i64 0 ∧ St w [] [] wq) (fun _ _ _ => 0)
  case atStart => exact ⟨rfl, rfl, hst⟩
  case round =>
    clear hst
    obtain ⟨rfl, rfl, hst⟩ := hrel
    go_wp2_with fail
    go_ret
    exact ⟨_, rfl, rfl, hst⟩
theorem right0_is : ((behind [] 0 zH).setZ 80).setM zsum = fullH 0 := rfl
set_option maxRecDepth 100000 in
set_option maxHeartbeats 4000000 in
theorem right0_any (w0 : World) (hK : Has w0 0 64 (wF Sha.K)) : Ret Tryd.prog 24 #[.slice none 0 0, .int .i64 1, .agg (row 126 (pF zH (.slice none 0 0) (.slice none 0 0)))] w0 fun v' w' => ∃ b, v' = .agg (row 126 (pF (fullH 0) (.slice none 0 0) (.slice (some ⟨b, 0, none⟩) 80 80))) ∧ St w0 [] [(b, blk 80 (fun _ => nB 0) 5)] w' := by
  have HK0 : Hid (∀ L w', St w0 [] L w' → Has w' 0 64 (wF Sha.K)) := by show ∀ _ _ _, _; exact fun L w' h => hK.keep h.none
  clear hK
  go_enter Tryd.func24, Tryd.ntmps24
  have hst := St.refl w0
  go_wp2_with (first
      | ((with_reducible refine at_d 5 ?_); go_loud (refine wl_box rfl rfl rfl (by first | rfl | exact row_one _) hst ?_; clear hst; intro b5 w5 hb5 hst))
      | ((with_reducible refine at_d 6 ?_); go_loud (refine wl_alloc rfl rfl hst zer37 ?_; clear hst; intro b6 w6 hb6 hst)))
  refine rg_start (St w0 [] [(b6, blk 126 (pF zH (.slice none 0 0) (.slice none 0 0)) 37), (b5, blk 126 (pF zH (.slice none 0 0) (.slice none 0 0)) 37)]) mixed (hst.drew) ?_
  refine rg_take [0, 1, 2, 3, 4, 5, 6] 1 _ rfl (by kernel_rfl) (by kernel_rfl) rfl (cls_st _ _ _) (fun _ _ _ _ _ h => h) ?_
  refine tk_wp (hk := ?_)
  refine tk_call pl40 rfl rfl (by rfl) rfl (fun w hst => headers0_any w) (fun w u w' hR => (by obtain ⟨rfl, hs'⟩ := hR; exact ⟨rfl, hs'.below⟩)) (hk := ?_)
  refine tk_wp (hk := ?_)
  refine tk_fld (r := 0) fld37_0 rfl rfl rfl rfl rfl (hk := ?_)
  refine tk_loadP rfl rfl (by rfl) rfl (hs := agg34) (hv := pF_hdr _ _ _) (hk := ?_)
  refine tk_call pl39 rfl rfl (by rfl) rfl (fun w hst => behind_any _ [] 0 zH _ w Hds.nil (by omega) zH_ok (by simp) rfl (HK0.out _ _ hst)) (fun w u w' hR => (by obtain ⟨rfl, hs'⟩ := hR; exact ⟨rfl, hs'.below⟩)) (hk := ?_)
  refine tk_fld (r := 0) fld37_0 rfl rfl rfl rfl rfl (hk := ?_)
  refine tk_nil ?_
  refine rg_last (i := 7) (by kernel_rfl) rfl rfl (by kernel_rfl) (by kernel_rfl) (fun w' hst => wo_storeN rfl rfl rfl hst (by repeat (first | exact Pick.head | apply Pick.tail)) (by omega) agg34 (fun j _ => hF_one _ _ rfl j) (hk := fun w1 hst1 => ?_))
  rw [pF_hdrAll] at hst1
  clear hst
  have hst := hst1
  clear hst1
  go_wp2_with (first
      | ((with_reducible refine at_d 19 ?_); go_loud (refine wl_fld (r := 125) fld37_1 rfl rfl rfl rfl (hk := ?_)))
      | ((with_reducible refine at_d 20 ?_); go_loud (refine wl_load1v rfl rfl rfl (hs := sc35) (hk := ?_)))
      | ((with_reducible refine at_d 27 ?_); go_loud (refine wl_make80 rfl rfl elt35 hst (hk := ?_); clear hst; intro b27 w27 hb27 hst))
      | ((with_reducible refine at_d 28 ?_); go_loud (refine wl_fld (r := 125) fld37_1 rfl rfl rfl rfl (hk := ?_)))
      | ((with_reducible refine at_n (.store 35 (.tmp 28) (.tmp 27)) ?_); go_loud (refine wl_store1 rfl rfl rfl (hs := sc35) (hk := ?_); clear hst; intro w1 hst; rw [pF_body] at hst)))
  go_loopw [8] (fun i wq => ∃ k : Nat, k ≤ 80 ∧ i = .int .i64 (k : Int) ∧ St w0 [] [(b27, blk 80 (fun _ => nB 0) 5), (b5, blk 126 (pF (behind [] 0 zH) (.slice none 0 0) (.slice (some ⟨b27, 0, none⟩) 80 80)) 37), (b6, blk 126 (pF zH (.slice none 0 0) (.slice none 0 0)) 37)] wq) (fun i _ => 80 - (intOf i).toNat)
  case atStart => exact ⟨0, by omega, rfl, hst.perm (List.Perm.swap _ _ _)⟩
  case round =>
    clear hst
    obtain ⟨k, hk, rfl, hst⟩ := hrel
    by_cases hk8 : k < 80
    · go_wp2_with (first
      | ((with_reducible refine at_d 30 ?_); go_loud (refine wl_cmp (p := (k : Int)) (q := 80) (by first | exact decide_eq_true (by omega) | exact decide_eq_false (by omega)) rfl rfl rfl rfl rfl (hk := ?_)))
      | ((with_reducible refine at_d 33 ?_); go_loud (refine wl_fld (r := 125) fld37_1 rfl rfl rfl rfl (hk := ?_)))
      | ((with_reducible refine at_d 34 ?_); go_loud (refine wl_load1v rfl rfl rfl (hs := sc35) (hk := ?_)))
      | ((with_reducible refine at_d 37 ?_); go_loud (refine wl_idx (i := k) Tryd.underlying35 sc5.size (by omega) rfl rfl rfl rfl (hk := ?_)))
      | ((with_reducible refine at_n (.store 5 (.tmp 37) (.tmp 36)) ?_); go_loud (refine wl_store1 rfl rfl rfl (hs := sc5) (hk := ?_); clear hst; intro w1 hst; rw [upd_zero] at hst)))
      go_roundw
      case rel => exact ⟨k + 1, by omega, by go_num, hst⟩
      case measure => simp [intOf]; omega
    · obtain rfl : k = 80 := by omega
      go_wp2_with (first
      | ((with_reducible refine at_d 30 ?_); go_loud (refine wl_cmp (p := 80) (q := 80) (by first | exact decide_eq_true (by omega) | exact decide_eq_false (by omega)) rfl rfl rfl rfl rfl (hk := ?_)))
      | ((with_reducible refine at_d 38 ?_); go_loud (refine wl_fld (r := 0) fld37_0 rfl rfl rfl rfl (hk := ?_)))
      | ((with_reducible refine at_d 39 ?_); go_loud (refine wl_fld (r := 92) fld34_10 rfl rfl rfl rfl (hk := ?_)))
      | ((with_reducible refine at_n (.store 3 (.tmp 39) (_)) ?_); go_loud (refine wl_store1 rfl rfl rfl (hs := sc3) (hk := ?_); clear hst; intro w1 hst; rw [pF_upd (by decide) (hF_z _ _ 80 0)] at hst))
      | ((with_reducible refine at_d 40 ?_); go_loud (refine wl_fld (r := 125) fld37_1 rfl rfl rfl rfl (hk := ?_)))
      | ((with_reducible refine at_d 41 ?_); go_loud (refine wl_load1v rfl rfl rfl (hs := sc35) (hk := ?_)))
      | ((with_reducible refine at_d 42 ?_); go_loud (refine wl_call pl11 rfl rfl rfl (refsum_any _ (zeros 80) _ (zeros_bs (hst.own (b27, blk 80 (fun _ => nB 0) 5) (by simp))) (by simp [zeros]) (HK0.out _ _ hst)) ?_; rintro v42 w42 ⟨rfl, hst42⟩; replace hst := hst.call hst42; clear hst42; (try simp only [List.nil_append] at hst)))
      | ((with_reducible refine at_d 43 ?_); go_loud (refine wl_fld (r := 0) fld37_0 rfl rfl rfl rfl (hk := ?_)))
      | ((with_reducible refine at_d 44 ?_); go_loud (refine wl_fld (r := 60) fld34_9 rfl rfl rfl rfl (hk := ?_)))
      | ((with_reducible refine at_n (.store 28 (.tmp 44) (.tmp 42)) ?_); go_loud (refine wl_storeN rfl rfl rfl rfl (hs := agg28) (hv := by intro j hj; rfl) (hk := ?_); clear hst; intro w1 hst; rw [pF_blit (by decide) (hF_m _ _ _ 0)] at hst))
      | ((with_reducible refine at_d 45 ?_); go_loud ((first | (refine wl_loadAll rfl rfl rfl (hs := agg37) (hk := ?_)) | (refine wl_loadN rfl rfl rfl (hs := agg37) (hk := ?_)))))
      | ((with_reducible refine at_n (.store 37 (.tmp 6) (.tmp 45)) ?_); go_loud (refine wl_storeAll rfl rfl rfl rfl (hs := agg37) (hv := fun j _ => pF_one _ _ _ (hF_one _ _ rfl) rfl j) (hk := ?_); clear hst; intro w1 hst)))
      exact ret_cellN rfl rfl (St.hasb hst Pick.head) agg37 rfl ⟨_, rfl, b27, by rw [← right0_is]; rfl, hst.sub (by repeat (first | exact List.nil_sublist _ | apply List.Sublist.cons_cons | apply List.Sublist.cons))⟩
/-- Put beside blocks of the caller's own -/
theorem iput_own {W w : World} {M : List Nat} {bx : Nat} {V : List (List Hdr × List (List Nat))} {n : Int} {H : Hdr} {bv : Value} {l : List Nat} {E L : List (Nat × Obj)} (h : IdxO 72 bx V n E) (hst : St W M (E ++ L) w) (hok : H.Ok) (htn : H.toks = []) (hl : l.length ≤ 1000000) (hlt : ∀ x ∈ l, x < 256)
    (hV : ∀ c ∈ V, c.1.length < 1000) (hn0 : -1000000 ≤ n) (hb : ∀ w', (∀ p ∈ L, w'.heap[p.1]? = some p.2) → Bs w' bv l) (hK : ∀ L' w', St W M L' w' → Has w' 1 64 (wF Sha.K)) :
    Ret Tryd.prog 12 #[.pointer (some ⟨bx, 0, none⟩), .agg (row 126 (pF H (.slice none 0 0) bv))] w fun v' w' => v' = .int .i64 (askI V n H l) ∧ ∃ E', IdxO 72 bx (if askI V n H l = 0 then putV V H l else V) (if askI V n H l = 0 then n + 1 else n) E' ∧ St W M (E' ++ L) w' := by
  have hnd := hst.nodup
  rw [List.map_append, List.nodup_append] at hnd
  refine Ret.mono (iput_any bx V n H (.slice none 0 0) bv l w E h (fun p hp => hst.own p (List.mem_append_left _ hp)) hnd.1 hok hl hlt hV hn0 (fun L' w' _ => by rw [htn]; exact Toks.nil)
    (fun L' w' h' => hb w' fun p hp => h'.heapOld (hst.own p (List.mem_append_right _ hp)) fun hm => hnd.2.2 p.1 hm p.1 (List.mem_map_of_mem hp) rfl) (fun L' w' h' => hK _ _ (hst.callE h'))) fun v w' ⟨h1, E', h2, h3⟩ => ⟨h1, E', h2, hst.callE h3⟩
theorem full_put {n i : Nat} (hi : i < 400) (hn : n < 400) {V : List (List Hdr × List (List Nat))} {bl : List (List Nat)} (hV : V[0]? = some (fullL i, bl)) : askI V n (fullH i) (zeros 80) = 0 := by
  unfold askI
  rw [if_pos (fullH_formed (by omega)), (fullH_f i).1]
  show (match V[0]? with | some c => _ | none => _) = _
  rw [hV]
  simp only
  rw [if_pos (full_ask (by omega)), if_pos (whole_full i), if_neg (by omega)]
set_option maxRecDepth 100000 in
set_option maxHeartbeats 4000000 in
theorem awake_any (w0 : World) (hK : Has w0 0 64 (wF Sha.K)) (hK1 : Has w0 1 64 (wF Sha.K)) : Ret Tryd.prog 9 #[] w0 fun v' w' => v' = .bool true ∧ St w0 [] [] w' := by
  have hb : Tryd.prog.built 37 [] = some (row 126 (pF zH (.slice none 0 0) (.slice none 0 0))) := by kernel_rfl
  have HBU := Lib.hid hb
  have HK0 : Hid (∀ L w', St w0 [] L w' → Has w' 0 64 (wF Sha.K)) := by show ∀ _ _ _, _; exact fun L w' h => hK.keep h.none
  have HK1 : Hid (∀ L w', St w0 [] L w' → Has w' 1 64 (wF Sha.K)) := by show ∀ _ _ _, _; exact fun L w' h => hK1.keep h.none
  have HA : Hid (askI V0 0 (fullH 0) (zeros 80) = 0) := full_put (n := 0) (by decide) (by decide) rfl
  clear hb hK hK1
  go_enter Tryd.func9, Tryd.ntmps9
  have hst := St.refl w0
  go_wp2_with (first
      | go_skip
      | ((with_reducible refine at_d 2 ?_); go_loud (refine wl_call pl8 rfl rfl rfl (inew_any _) ?_; rintro v2 w2 ⟨bx, E, rfl, hix, hst2⟩; replace hst := hst.call hst2; clear hst2))
      | ((with_reducible refine at_d 7 ?_); (refine wl_buildC (f := pF zH (.slice none 0 0) (.slice none 0 0)) HBU.out rfl rfl rfl (hk := ?_)))
      | ((with_reducible refine at_d 8 ?_); (refine wl_call pl24 rfl rfl rfl (right0_any _ (HK0.out _ _ hst)) ?_; rintro v8 w8 ⟨bb, rfl, hst8⟩; have hst0 := hst.call hst8; clear hst hst8; have hst : St w0 [] (E ++ [(bb, blk 80 (fun _ => nB 0) 5)]) w8 := hst0.resh [] (by simpa using List.perm_append_comm (l₁ := [(bb, blk 80 (fun _ => nB 0) 5)]) (l₂ := E)); clear hst0))
      | ((with_reducible refine at_d 9 ?_); (refine wl_call pl12 rfl rfl rfl (iput_own hix hst (fullH_ok (by decide)) rfl (by simp [zeros]) (fun x hx => (by rw [(List.mem_replicate.1 hx).2]; decide)) (fun c hc => (by rw [(List.mem_replicate.1 hc).2]; decide)) (by decide) (fun w' hL => zeros_bs (hL (bb, blk 80 (fun _ => nB 0) 5) (by simp))) HK1.out) ?_; rintro v9 w9 ⟨rfl, E9, hix9, hst9⟩; clear hst; have hst := hst9; clear hst9; rw [HA.out] at hix9 ⊢; simp only [if_true] at hix9; obtain ⟨cs9, _, rfl, _⟩ := id hix9))
      | ((with_reducible refine at_d 14 ?_); (refine wl_call pl13 rfl rfl rfl (count_any bx cs9 (0 + 1) _ ⟨_, _, hst.own (bx, blk 13 (iF cs9 (0 + 1)) 72) (by simp)⟩) ?_; rintro v14 w14 ⟨rfl, rfl⟩)))
  go_ret
  exact ⟨_, rfl, rfl, hst.none⟩
end Go.Proofs.YthbobmpeaemdnaaDoor
