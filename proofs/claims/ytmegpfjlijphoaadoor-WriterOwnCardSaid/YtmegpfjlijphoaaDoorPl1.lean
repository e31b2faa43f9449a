/- The walk of jalousieref13.Ask: what it says is what the chain says. What law13's WriterPlays needs beside: ref Blank, the remainder, slices of bools, asking told by its value. -/
import Derived.Test.YtmegpfjlijphoaaDoorW2
import Derived.Laws.Strings
namespace Go.Jal
open Go.RowKit
section
variable {P : Program} {lops : List Oper} {S : World → Prop} {N : Act → Prop} {i : Nat} {is : List Nat} {o : Oper} {a a' : Act}
theorem exec_eqS2 {t : TypeId} {x y : Operand} {l l' : List Nat} (h : ∀ x ∈ l, x < 256) (h' : ∀ x ∈ l', x < 256) (w : World) :
    (do eqGuard .eql t x y (strL l) (strL l'); binOp .eql t (strL l) (strL l') : Sem Value).run P w = .ok (.bool (decide (l = l'))) w := by
  rw [← toU_inj h h']
  simp [strL, eqGuard, binOp, Op.stringOp, ByteArray.toList_eq]
theorem tk_eqS2 {t t' : TypeId} {x y : Operand} {l l' : List Nat} {r : Bool} (ho : nth lops i = some o) (hp : o.op = .binOp .eql t x y t') (hw : Region.wanted o (yielded lops.toArray a.tmps) = true) (_ht : P.underlying t = some .string)
    (hx : a.eval x = strL l) (hy : a.eval y = strL l') (h : ∀ x ∈ l, x < 256) (h' : ∀ x ∈ l', x < 256) (hr : decide (l = l') = r) (ha : a.put o.dst (.bool r) = a' := by (conv => lhs; simp only [Go.Jal.put_lit, Go.Jal.put_none, Go.Jal.setL]) <;> rfl) (hk : wpTake P lops.toArray S N is a') : wpTake P lops.toArray S N (i :: is) a :=
  tk_val ho hw (fun w _ => by
    have hq := exec_eqS2 (P := P) (t := t) (x := x) (y := y) h h' w
    unfold execOp
    simp only [Sem.run_bind] at hq
    simp only [hp, hx, hy, Sem.run_bind, hq, Result.andThen_ok, Sem.run_pure, hr]) ha hk
end
/-- the bytes tell a formed header from all others -/
theorem bytes_eq {G H : Hdr} (gok : G.Ok) (hok : H.Ok) (hf : formed H = true) : decide (bytesB G = bytesB H) = decide (G = H) := by
  refine decide_eq_decide.2 ⟨fun e => ?_, fun e => by rw [e]⟩
  cases hg : formed G with
  | true => exact bytes_inj gok hok hg hf e
  | false =>
    have h1 : bytesB G = [] := by unfold bytesB; rw [hg]; simp
    have h2 : bytesB H = coreB H ++ H.code := by unfold bytesB; rw [hf]; simp
    rw [h1, h2] at e
    have h3 := congrArg List.length e
    have := hok.code.1
    simp at h3
    omega
end Go.Jal
namespace Go.Proofs.YtmegpfjlijphoaaDoor
open Go.RowKit Go.Jal
set_option maxRecDepth 100000 in
set_option maxHeartbeats 4000000 in
theorem refask_any (v : Value) (wr : Int) (hs : List Hdr) (H : Hdr) (tok : Value) (w : World) (h : Hds w v hs) (hok : H.Ok) (ht : Toks w tok H.toks) (hl : hs.length < 1000) (hK : Has w 0 64 (wF Sha.K)) :
    Ret Tryd.prog 17 #[.int .i64 wr, v, .agg (row 125 (hF H tok))] w fun v' w' => v' = .int .i64 (askOf wr hs H) ∧ St w [] [] w' := by
  have HT : Hid (∀ w', St w [] [] w' → Toks w' tok H.toks) := by show ∀ _, _; exact fun w' h' => ht.keep h'
  have HH : Hid (∀ w', St w [] [] w' → Hds w' v hs) := by show ∀ _, _; exact fun w' h' => h.keep h'
  have HKK : Hid (∀ w', St w [] [] w' → Has w' 0 64 (wF Sha.K)) := by show ∀ _, _; exact fun w' h' => hK.keep h'
  have hseq64 := hok.seq
  obtain ⟨tad, tcap, rfl, _⟩ := id ht
  obtain ⟨ad, cap, rfl, hc1, hc2, _⟩ := id h
  have HTI := Lib.hid (tip_is hs)
  obtain ⟨tp, htp⟩ : ∃ tp, tp = tipOf hs := ⟨_, rfl⟩
  rw [← htp] at HTI
  go_enter Tryd.func17, Tryd.ntmps17
  have hst := St.refl w
  cases hf : formed H with
  | false =>
    have HF := Lib.hid hf
    have HR : Hid (askOf wr hs H = 1) := by show _ = _; unfold askOf; rw [hf]; simp
    clear hf htp
    go_wp2_with (first
      | go_skip
      | ((with_reducible refine at_d 5 ?_); go_loud (refine wl_box rfl rfl rfl (by first | rfl | exact row_one _) hst ?_; clear hst; intro b5 w5 hb5 hst))
      | ((with_reducible refine at_d 7 ?_); go_loud ((first | (refine wl_loadAll rfl rfl rfl (hs := agg35) (hk := ?_)) | (refine wl_loadN rfl rfl rfl (hs := agg35) (hk := ?_)))))
      | ((with_reducible refine at_d 8 ?_); go_loud (refine wl_call pl29 rfl rfl rfl (refformed_any H _ _ hok (HT.out _ hst.none)) ?_; rintro v8 w8 ⟨rfl, hst8⟩; replace hst := hst.call hst8; clear hst8; rw [HF.out]))
      | ((with_reducible refine at_d 11 ?_); (refine wl_fld (r := 0) fld35_0 rfl rfl rfl rfl (hk := ?_)))
      | ((with_reducible refine at_d 12 ?_); (refine wl_load1v rfl rfl rfl (hs := sc3) (hk := ?_))))
    go_ret
    exact ⟨_, rfl, by rw [HR.out]; rfl, hst.none⟩
  | true =>
    have HF := Lib.hid hf
    have hseq := (formed_nat hf).2.2.2.2.2.2.2.1
    by_cases hwr : ¬ H.writer = wr
    · have HR : Hid (askOf wr hs H = 1) := by show _ = _; unfold askOf; rw [if_neg (fun e => hwr e.2)]
      have HW := Lib.hid hwr
      clear hf htp hwr
      go_wp2_with (first
      | go_skip
      | ((with_reducible refine at_d 5 ?_); go_loud (refine wl_box rfl rfl rfl (by first | rfl | exact row_one _) hst ?_; clear hst; intro b5 w5 hb5 hst))
      | ((with_reducible refine at_d 7 ?_); go_loud ((first | (refine wl_loadAll rfl rfl rfl (hs := agg35) (hk := ?_)) | (refine wl_loadN rfl rfl rfl (hs := agg35) (hk := ?_)))))
      | ((with_reducible refine at_d 8 ?_); go_loud (refine wl_call pl29 rfl rfl rfl (refformed_any H _ _ hok (HT.out _ hst.none)) ?_; rintro v8 w8 ⟨rfl, hst8⟩; replace hst := hst.call hst8; clear hst8; rw [HF.out]))
      | ((with_reducible refine at_d 11 ?_); (refine wl_fld (r := 0) fld35_0 rfl rfl rfl rfl (hk := ?_)))
      | ((with_reducible refine at_d 12 ?_); (refine wl_load1v rfl rfl rfl (hs := sc3) (hk := ?_)))
      | ((with_reducible refine at_d 14 ?_); (refine wl_cmp (p := H.writer) (q := wr) (r := true) (b := .neq) (by show decide (H.writer ≠ wr) = true; exact decide_eq_true HW.out) rfl rfl rfl rfl rfl (hk := ?_))))
      go_ret
      exact ⟨_, rfl, by rw [HR.out]; rfl, hst.none⟩
    replace hwr := Decidable.not_not.1 hwr
    have HW := Lib.hid hwr
    have hr : askOf wr hs H = (match hs[H.seq - 1]? with
      | some G => if G = H then 13 else 8
      | none => if hs.length + 1 < H.seq then 12 else if H.prev = tipOf hs then 0 else 7) := by unfold askOf; rw [if_pos ⟨hf, hwr⟩]; rfl
    cases hm : hs[H.seq - 1]? with
    | some G =>
      obtain ⟨m, hmm⟩ : ∃ m, m = H.seq - 1 := ⟨_, rfl⟩
      have hm1 : H.seq ≤ m + 1 := by omega
      have hm2 : m + 1 ≤ H.seq := by omega
      rw [← hmm] at hm
      obtain ⟨b, off, N, f, tokG, rfl, hN, hbd, hlt, _, gok, gt, hcell⟩ := Hds.get h hm
      have HTG : Hid (∀ w', St w [] [] w' → Toks w' tokG G.toks) := by show ∀ _, _; exact fun w' h' => gt.keep h'
      have HN := Lib.hid hN
      have HA := Lib.hid hcell
      have hbb := bytes_eq gok hok hf
      have hr2 : askOf wr hs H = if G = H then 13 else 8 := by rw [hr, ← hmm, hm]
      clear hr hm htp hmm hf hwr hN hcell gt h ht hK
      by_cases hgh : ¬ G = H
      · have HBB : Hid (decide (bytesB G = bytesB H) = false) := by show _ = _; rw [hbb]; exact decide_eq_false hgh
        have HR : Hid (askOf wr hs H = 8) := by show _ = _; rw [hr2, if_neg hgh]
        clear hgh hr2 hbb
        go_wp2_with (first
      | go_skip
      | ((with_reducible refine at_d 5 ?_); go_loud (refine wl_box rfl rfl rfl (by first | rfl | exact row_one _) hst ?_; clear hst; intro b5 w5 hb5 hst))
      | ((with_reducible refine at_d 7 ?_); go_loud ((first | (refine wl_loadAll rfl rfl rfl (hs := agg35) (hk := ?_)) | (refine wl_loadN rfl rfl rfl (hs := agg35) (hk := ?_)))))
      | ((with_reducible refine at_d 8 ?_); go_loud (refine wl_call pl29 rfl rfl rfl (refformed_any H _ _ hok (HT.out _ hst.none)) ?_; rintro v8 w8 ⟨rfl, hst8⟩; replace hst := hst.call hst8; clear hst8; rw [HF.out]))
      | ((with_reducible refine at_d 11 ?_); (refine wl_fld (r := 0) fld35_0 rfl rfl rfl rfl (hk := ?_)))
      | ((with_reducible refine at_d 12 ?_); (refine wl_load1v rfl rfl rfl (hs := sc3) (hk := ?_)))
      | ((with_reducible refine at_d 14 ?_); (refine wl_cmp (p := H.writer) (q := wr) (r := false) (b := .neq) (by show decide (H.writer ≠ wr) = false; exact decide_eq_false (fun e => e HW.out)) rfl rfl rfl rfl rfl (hk := ?_)))
      | ((with_reducible refine at_d 16 ?_); go_loud (refine wl_fld (r := 1) fld35_1 rfl rfl rfl rfl (hk := ?_)))
      | ((with_reducible refine at_d 17 ?_); go_loud (refine wl_load1v rfl rfl rfl (hs := sc27) (hk := ?_)))
      | ((with_reducible refine at_d 21 ?_); go_loud (refine wl_cmp (p := (H.seq : Int)) (q := (hs.length : Int)) (by first | exact decide_eq_true (by omega) | exact decide_eq_false (by omega)) rfl rfl rfl rfl rfl (hk := ?_))))
        refine rg_start (St w [] [(b5, blk 125 (hF H (.slice tad H.toks.length tcap)) 35)]) mixed (hst.drew) ?_
        refine rg_take [0, 1, 2, 3, 4, 5, 8] 5 _ rfl (by kernel_rfl) (by kernel_rfl) rfl (cls_st _ _ _) (fun _ _ _ _ _ h => h) ?_
        refine tk_wp (hk := ?_)
        refine tk_fld (r := 1) fld35_1 rfl rfl rfl rfl rfl (hk := ?_)
        refine tk_load1 rfl rfl (by rfl) rfl (hs := sc27) (hk := ?_)
        refine tk_ari (p := (H.seq : Int)) (q := 1) (r := (m : Int)) (k := .u64) (by simp only [ariI] <;> omega) (by show _ ∧ _; omega) rfl rfl rfl rfl rfl rfl (hk := ?_)
        refine tk_idx (i := m) Tryd.underlying22 siz35 (by omega) rfl rfl rfl rfl rfl (hk := ?_)
        refine tk_loadP rfl rfl (by rfl) rfl (fun w hst => HN.out.keep hst.none) agg35 (by omega) HA.out (hk := ?_)
        first | (refine tk_loadAll rfl rfl (by rfl) rfl (hs := agg35) (hk := ?_)) | (refine tk_loadN rfl rfl (by rfl) rfl (hs := agg35) (hk := ?_))
        refine tk_nil ?_
        refine rg_st (i := 6) (n := 4) (by kernel_rfl) rfl rfl rfl (fun w' hst => wo_call pl30 rfl rfl (refbytes_any G _ _ gok (HTG.out _ hst.none)) (fun v28 w28 hR28 => ?_))
        obtain ⟨E28, hown28, hst28⟩ := hR28
        refine ⟨E28, hst.call hst28, ?_⟩
        simp only [put_lit, setL]
        refine rg_take [7] 3 _ rfl (by kernel_rfl) (by kernel_rfl) rfl (cls_st _ _ _) (fun _ _ _ _ _ h => h) ?_
        refine tk_b2s rfl rfl (by rfl) Tryd.underlying58 Tryd.underlying5 Tryd.underlying9 rfl (fun w hst => Bs.of_own hown28 (bytes_ltB gok) hst) (hk := ?_)
        refine tk_nil ?_
        refine rg_st (i := 9) (n := 2) (by kernel_rfl) rfl rfl rfl (fun w' hst => wo_call pl30 rfl rfl (refbytes_any H _ _ hok (HT.out _ hst.none)) (fun v31 w31 hR31 => ?_))
        obtain ⟨E31, hown31, hst31⟩ := hR31
        refine ⟨E31, hst.call hst31, ?_⟩
        simp only [put_lit, setL]
        refine rg_take [10, 11] 0 _ rfl (by kernel_rfl) (by kernel_rfl) rfl (cls_st _ _ _) (fun _ _ _ _ _ h => h) ?_
        refine tk_b2s rfl rfl (by rfl) Tryd.underlying58 Tryd.underlying5 Tryd.underlying9 rfl (fun w hst => Bs.of_own hown31 (bytes_ltB hok) hst) (hk := ?_)
        refine tk_eqS2 rfl rfl (by rfl) Tryd.underlying9 rfl rfl (bytes_ltB gok) (bytes_ltB hok) (r := false) HBB.out (hk := ?_)
        refine tk_nil ?_
        refine rg_done (by kernel_rfl) (fun w1 hst1 => ?_) _
        clear hst; have hst := hst1; clear hst1
        go_wp2_with (fail)
        go_ret
        exact ⟨_, rfl, by rw [HR.out]; rfl, hst.none⟩
      · have HBB : Hid (decide (bytesB G = bytesB H) = true) := by show _ = _; rw [hbb]; exact decide_eq_true (Decidable.not_not.1 hgh)
        have HR : Hid (askOf wr hs H = 13) := by show _ = _; rw [hr2, if_pos (Decidable.not_not.1 hgh)]
        clear hgh hr2 hbb
        go_wp2_with (first
      | go_skip
      | ((with_reducible refine at_d 5 ?_); go_loud (refine wl_box rfl rfl rfl (by first | rfl | exact row_one _) hst ?_; clear hst; intro b5 w5 hb5 hst))
      | ((with_reducible refine at_d 7 ?_); go_loud ((first | (refine wl_loadAll rfl rfl rfl (hs := agg35) (hk := ?_)) | (refine wl_loadN rfl rfl rfl (hs := agg35) (hk := ?_)))))
      | ((with_reducible refine at_d 8 ?_); go_loud (refine wl_call pl29 rfl rfl rfl (refformed_any H _ _ hok (HT.out _ hst.none)) ?_; rintro v8 w8 ⟨rfl, hst8⟩; replace hst := hst.call hst8; clear hst8; rw [HF.out]))
      | ((with_reducible refine at_d 11 ?_); (refine wl_fld (r := 0) fld35_0 rfl rfl rfl rfl (hk := ?_)))
      | ((with_reducible refine at_d 12 ?_); (refine wl_load1v rfl rfl rfl (hs := sc3) (hk := ?_)))
      | ((with_reducible refine at_d 14 ?_); (refine wl_cmp (p := H.writer) (q := wr) (r := false) (b := .neq) (by show decide (H.writer ≠ wr) = false; exact decide_eq_false (fun e => e HW.out)) rfl rfl rfl rfl rfl (hk := ?_)))
      | ((with_reducible refine at_d 16 ?_); go_loud (refine wl_fld (r := 1) fld35_1 rfl rfl rfl rfl (hk := ?_)))
      | ((with_reducible refine at_d 17 ?_); go_loud (refine wl_load1v rfl rfl rfl (hs := sc27) (hk := ?_)))
      | ((with_reducible refine at_d 21 ?_); go_loud (refine wl_cmp (p := (H.seq : Int)) (q := (hs.length : Int)) (by first | exact decide_eq_true (by omega) | exact decide_eq_false (by omega)) rfl rfl rfl rfl rfl (hk := ?_))))
        refine rg_start (St w [] [(b5, blk 125 (hF H (.slice tad H.toks.length tcap)) 35)]) mixed (hst.drew) ?_
        refine rg_take [0, 1, 2, 3, 4, 5, 8] 5 _ rfl (by kernel_rfl) (by kernel_rfl) rfl (cls_st _ _ _) (fun _ _ _ _ _ h => h) ?_
        refine tk_wp (hk := ?_)
        refine tk_fld (r := 1) fld35_1 rfl rfl rfl rfl rfl (hk := ?_)
        refine tk_load1 rfl rfl (by rfl) rfl (hs := sc27) (hk := ?_)
        refine tk_ari (p := (H.seq : Int)) (q := 1) (r := (m : Int)) (k := .u64) (by simp only [ariI] <;> omega) (by show _ ∧ _; omega) rfl rfl rfl rfl rfl rfl (hk := ?_)
        refine tk_idx (i := m) Tryd.underlying22 siz35 (by omega) rfl rfl rfl rfl rfl (hk := ?_)
        refine tk_loadP rfl rfl (by rfl) rfl (fun w hst => HN.out.keep hst.none) agg35 (by omega) HA.out (hk := ?_)
        first | (refine tk_loadAll rfl rfl (by rfl) rfl (hs := agg35) (hk := ?_)) | (refine tk_loadN rfl rfl (by rfl) rfl (hs := agg35) (hk := ?_))
        refine tk_nil ?_
        refine rg_st (i := 6) (n := 4) (by kernel_rfl) rfl rfl rfl (fun w' hst => wo_call pl30 rfl rfl (refbytes_any G _ _ gok (HTG.out _ hst.none)) (fun v28 w28 hR28 => ?_))
        obtain ⟨E28, hown28, hst28⟩ := hR28
        refine ⟨E28, hst.call hst28, ?_⟩
        simp only [put_lit, setL]
        refine rg_take [7] 3 _ rfl (by kernel_rfl) (by kernel_rfl) rfl (cls_st _ _ _) (fun _ _ _ _ _ h => h) ?_
        refine tk_b2s rfl rfl (by rfl) Tryd.underlying58 Tryd.underlying5 Tryd.underlying9 rfl (fun w hst => Bs.of_own hown28 (bytes_ltB gok) hst) (hk := ?_)
        refine tk_nil ?_
        refine rg_st (i := 9) (n := 2) (by kernel_rfl) rfl rfl rfl (fun w' hst => wo_call pl30 rfl rfl (refbytes_any H _ _ hok (HT.out _ hst.none)) (fun v31 w31 hR31 => ?_))
        obtain ⟨E31, hown31, hst31⟩ := hR31
        refine ⟨E31, hst.call hst31, ?_⟩
        simp only [put_lit, setL]
        refine rg_take [10, 11] 0 _ rfl (by kernel_rfl) (by kernel_rfl) rfl (cls_st _ _ _) (fun _ _ _ _ _ h => h) ?_
        refine tk_b2s rfl rfl (by rfl) Tryd.underlying58 Tryd.underlying5 Tryd.underlying9 rfl (fun w hst => Bs.of_own hown31 (bytes_ltB hok) hst) (hk := ?_)
        refine tk_eqS2 rfl rfl (by rfl) Tryd.underlying9 rfl rfl (bytes_ltB gok) (bytes_ltB hok) (r := true) HBB.out (hk := ?_)
        refine tk_nil ?_
        refine rg_done (by kernel_rfl) (fun w1 hst1 => ?_) _
        clear hst; have hst := hst1; clear hst1
        go_wp2_with (fail)
        go_ret
        exact ⟨_, rfl, by rw [HR.out]; rfl, hst.none⟩
    | none =>
      have hno : hs.length < H.seq := by have := List.getElem?_eq_none_iff.1 hm; omega
      have hr2 : askOf wr hs H = if hs.length + 1 < H.seq then 12 else if H.prev = tp then 0 else 7 := by rw [hr, hm, htp]
      have HTP := Lib.hid htp
      clear hr hm htp hf hwr h ht hK
      by_cases hbig : hs.length + 1 < H.seq
      · have HR : Hid (askOf wr hs H = 12) := by show _ = _; rw [hr2, if_pos hbig]
        clear hr2
        go_wp2_with (first
      | go_skip
      | ((with_reducible refine at_d 5 ?_); go_loud (refine wl_box rfl rfl rfl (by first | rfl | exact row_one _) hst ?_; clear hst; intro b5 w5 hb5 hst))
      | ((with_reducible refine at_d 7 ?_); go_loud ((first | (refine wl_loadAll rfl rfl rfl (hs := agg35) (hk := ?_)) | (refine wl_loadN rfl rfl rfl (hs := agg35) (hk := ?_)))))
      | ((with_reducible refine at_d 8 ?_); go_loud (refine wl_call pl29 rfl rfl rfl (refformed_any H _ _ hok (HT.out _ hst.none)) ?_; rintro v8 w8 ⟨rfl, hst8⟩; replace hst := hst.call hst8; clear hst8; rw [HF.out]))
      | ((with_reducible refine at_d 11 ?_); (refine wl_fld (r := 0) fld35_0 rfl rfl rfl rfl (hk := ?_)))
      | ((with_reducible refine at_d 12 ?_); (refine wl_load1v rfl rfl rfl (hs := sc3) (hk := ?_)))
      | ((with_reducible refine at_d 14 ?_); (refine wl_cmp (p := H.writer) (q := wr) (r := false) (b := .neq) (by show decide (H.writer ≠ wr) = false; exact decide_eq_false (fun e => e HW.out)) rfl rfl rfl rfl rfl (hk := ?_)))
      | ((with_reducible refine at_d 16 ?_); go_loud (refine wl_fld (r := 1) fld35_1 rfl rfl rfl rfl (hk := ?_)))
      | ((with_reducible refine at_d 17 ?_); go_loud (refine wl_load1v rfl rfl rfl (hs := sc27) (hk := ?_)))
      | ((with_reducible refine at_d 21 ?_); go_loud (refine wl_cmp (p := (H.seq : Int)) (q := (hs.length : Int)) (by first | exact decide_eq_true (by omega) | exact decide_eq_false (by omega)) rfl rfl rfl rfl rfl (hk := ?_)))
      | ((with_reducible refine at_d 34 ?_); go_loud (refine wl_fld (r := 1) fld35_1 rfl rfl rfl rfl (hk := ?_)))
      | ((with_reducible refine at_d 35 ?_); go_loud (refine wl_load1v rfl rfl rfl (hs := sc27) (hk := ?_)))
      | ((with_reducible refine at_d 39 ?_); go_loud (refine wl_ari (p := (hs.length : Int)) (q := 1) (r := ((hs.length : Int) + 1)) (k := .u64) (by simp only [ariI] <;> omega) (by show _ ∧ _; omega) rfl rfl rfl rfl rfl (hk := ?_)))
      | ((with_reducible refine at_d 40 ?_); go_loud (refine wl_cmp (p := (H.seq : Int)) (q := (hs.length : Int) + 1) (by first | exact decide_eq_true (by omega) | exact decide_eq_false (by omega)) rfl rfl rfl rfl rfl (hk := ?_))))
        go_ret
        exact ⟨_, rfl, by rw [HR.out]; rfl, hst.none⟩
      rw [if_neg hbig] at hr2
      go_wp2_with (first
      | go_skip
      | ((with_reducible refine at_d 5 ?_); go_loud (refine wl_box rfl rfl rfl (by first | rfl | exact row_one _) hst ?_; clear hst; intro b5 w5 hb5 hst))
      | ((with_reducible refine at_d 7 ?_); go_loud ((first | (refine wl_loadAll rfl rfl rfl (hs := agg35) (hk := ?_)) | (refine wl_loadN rfl rfl rfl (hs := agg35) (hk := ?_)))))
      | ((with_reducible refine at_d 8 ?_); go_loud (refine wl_call pl29 rfl rfl rfl (refformed_any H _ _ hok (HT.out _ hst.none)) ?_; rintro v8 w8 ⟨rfl, hst8⟩; replace hst := hst.call hst8; clear hst8; rw [HF.out]))
      | ((with_reducible refine at_d 11 ?_); (refine wl_fld (r := 0) fld35_0 rfl rfl rfl rfl (hk := ?_)))
      | ((with_reducible refine at_d 12 ?_); (refine wl_load1v rfl rfl rfl (hs := sc3) (hk := ?_)))
      | ((with_reducible refine at_d 14 ?_); (refine wl_cmp (p := H.writer) (q := wr) (r := false) (b := .neq) (by show decide (H.writer ≠ wr) = false; exact decide_eq_false (fun e => e HW.out)) rfl rfl rfl rfl rfl (hk := ?_)))
      | ((with_reducible refine at_d 16 ?_); go_loud (refine wl_fld (r := 1) fld35_1 rfl rfl rfl rfl (hk := ?_)))
      | ((with_reducible refine at_d 17 ?_); go_loud (refine wl_load1v rfl rfl rfl (hs := sc27) (hk := ?_)))
      | ((with_reducible refine at_d 21 ?_); go_loud (refine wl_cmp (p := (H.seq : Int)) (q := (hs.length : Int)) (by first | exact decide_eq_true (by omega) | exact decide_eq_false (by omega)) rfl rfl rfl rfl rfl (hk := ?_)))
      | ((with_reducible refine at_d 34 ?_); go_loud (refine wl_fld (r := 1) fld35_1 rfl rfl rfl rfl (hk := ?_)))
      | ((with_reducible refine at_d 35 ?_); go_loud (refine wl_load1v rfl rfl rfl (hs := sc27) (hk := ?_)))
      | ((with_reducible refine at_d 39 ?_); go_loud (refine wl_ari (p := (hs.length : Int)) (q := 1) (r := ((hs.length : Int) + 1)) (k := .u64) (by simp only [ariI] <;> omega) (by show _ ∧ _; omega) rfl rfl rfl rfl rfl (hk := ?_)))
      | ((with_reducible refine at_d 40 ?_); go_loud (refine wl_cmp (p := (H.seq : Int)) (q := (hs.length : Int) + 1) (by first | exact decide_eq_true (by omega) | exact decide_eq_false (by omega)) rfl rfl rfl rfl rfl (hk := ?_))))
      rw [HTP.out] at HTI hr2
      by_cases hpv : ¬ H.prev = tipOf hs
      · have HR : Hid (askOf wr hs H = 7) := by show _ = _; rw [hr2, if_neg hpv]
        have HPV := Lib.hid hpv
        clear hr2 hpv
        refine rg_start (St w [] [(b5, blk 125 (hF H (.slice tad H.toks.length tcap)) 35)]) mixed (hst.drew) ?_
        refine rg_take [0, 1, 2, 3, 4] 0 _ rfl (by kernel_rfl) (by kernel_rfl) rfl (cls_st _ _ _) (fun _ _ _ _ _ h => h) ?_
        refine tk_fld (r := 2) fld35_2 rfl rfl rfl rfl rfl (hk := ?_)
        refine tk_loadP rfl rfl (by rfl) rfl (hs := agg29) (hv := (by first | exact hF_prev _ _ | exact hF_item _ _ | exact hF_knows _ _ | exact hF_sum _ _ | exact hF_code _ _)) (hk := ?_)
        refine tk_wp (hk := ?_)
        refine tk_call pl15 rfl rfl (by rfl) rfl (fun w hst => reftip_any _ hs w (HH.out _ hst.none) (HKK.out _ hst.none)) (fun w u w' hR => (by obtain ⟨rfl, hs'⟩ := hR; exact ⟨rfl, hs'.below⟩)) (hk := ?_)
        refine tk_neB rfl rfl rfl eqb29 rfl rfl hok.prev.1 HTI.out.1 hok.prev.2 HTI.out.2 (r := true) (decide_eq_true HPV.out) (hk := ?_)
        refine tk_nil ?_
        refine rg_done (by kernel_rfl) (fun w1 hst1 => ?_) _
        clear hst; have hst := hst1; clear hst1
        go_wp2_with (fail)
        go_ret
        exact ⟨_, rfl, by rw [HR.out]; rfl, hst.none⟩
      · have HR : Hid (askOf wr hs H = 0) := by show _ = _; rw [hr2, if_pos (Decidable.not_not.1 hpv)]
        have HPV := Lib.hid (Decidable.not_not.1 hpv)
        clear hr2 hpv
        refine rg_start (St w [] [(b5, blk 125 (hF H (.slice tad H.toks.length tcap)) 35)]) mixed (hst.drew) ?_
        refine rg_take [0, 1, 2, 3, 4] 0 _ rfl (by kernel_rfl) (by kernel_rfl) rfl (cls_st _ _ _) (fun _ _ _ _ _ h => h) ?_
        refine tk_fld (r := 2) fld35_2 rfl rfl rfl rfl rfl (hk := ?_)
        refine tk_loadP rfl rfl (by rfl) rfl (hs := agg29) (hv := (by first | exact hF_prev _ _ | exact hF_item _ _ | exact hF_knows _ _ | exact hF_sum _ _ | exact hF_code _ _)) (hk := ?_)
        refine tk_wp (hk := ?_)
        refine tk_call pl15 rfl rfl (by rfl) rfl (fun w hst => reftip_any _ hs w (HH.out _ hst.none) (HKK.out _ hst.none)) (fun w u w' hR => (by obtain ⟨rfl, hs'⟩ := hR; exact ⟨rfl, hs'.below⟩)) (hk := ?_)
        refine tk_neB rfl rfl rfl eqb29 rfl rfl hok.prev.1 HTI.out.1 hok.prev.2 HTI.out.2 (r := false) (by rw [HPV.out]; simp) (hk := ?_)
        refine tk_nil ?_
        refine rg_done (by kernel_rfl) (fun w1 hst1 => ?_) _
        clear hst; have hst := hst1; clear hst1
        go_wp2_with (fail)
        go_ret
        exact ⟨_, rfl, by rw [HR.out]; rfl, hst.none⟩
end Go.Proofs.YtmegpfjlijphoaaDoor
namespace Go.Jal
open Go.RowKit
section
variable {P : Program} {ops : Array Oper} {Q : Exit → Act → World → Prop} {rest : List Oper} {o : Oper} {a a' : Act} {w : World}
theorem wl_rem {t t' : TypeId} {x y : Operand} {k : IntKind} {p q r : Nat} (hq : 0 < q) (hr : p % q = r) (ho : o.op = .binOp .rem t x y t') (hw : Region.wanted o (yielded ops a.tmps) = true)
    (hx : a.eval x = .int k (p : Int)) (hy : a.eval y = .int k (q : Int)) (ha : a.put o.dst (.int k (r : Int)) = a' := by (conv => lhs; simp only [Go.Jal.put_lit, Go.Jal.put_none, Go.Jal.setL]) <;> rfl) (hk : wpList P ops Q rest a' w) : wpList P ops Q (o :: rest) a w := by
  subst hr
  refine BigFrame.wpList_want hw fun K hK => ?_
  have h0 : ¬ (q = 0) := by omega
  have hq : (do eqGuard .rem t x y (.int k (p : Int)) (.int k (q : Int)); binOp .rem t (.int k (p : Int)) (.int k (q : Int)) : Sem Value).run P w = .ok (.int k ((p % q : Nat) : Int)) w := by
    simp [eqGuard, binOp, Op.intDiv, h0, Int.tmod_eq_emod_of_nonneg]
  unfold Oper.wp execOp
  simp only [Sem.run_bind] at hq
  simp only [ho, hx, hy, Sem.run_bind, hq, Result.andThen_ok, Sem.run_pure]
  exact hK _ _ (ha ▸ hk)
end
/-- a slice of bools -/
def Bools (w : World) (v : Value) (bs : List Bool) : Prop :=
  ∃ ad cap, v = .slice ad bs.length cap ∧ bs.length ≤ maxLen ∧ (bs ≠ [] → ∃ b off n f, ad = some ⟨b, off, none⟩ ∧ Has w b n f ∧ off + bs.length ≤ n ∧ ∀ j x, bs[j]? = some x → f (off + j) = .bool x)
theorem Bools.keep {w w' : World} {L : List (Nat × Obj)} {v : Value} {bs : List Bool} (h : Bools w v bs) (hst : St w [] L w') : Bools w' v bs := by
  obtain ⟨ad, cap, h1, h2, h3⟩ := h
  exact ⟨ad, cap, h1, h2, fun hne => let ⟨b, off, n, f, e1, e2, e3, e4⟩ := h3 hne; ⟨b, off, n, f, e1, e2.keep hst, e3, e4⟩⟩
end Go.Jal
namespace Go.Proofs.YtmegpfjlijphoaaDoor
open Go.RowKit Go.Jal
set_option maxRecDepth 100000 in
theorem blank_any (w : World) : Ret Tryd.prog 21 #[.agg (row 125 (hF zH (.slice none 0 0)))] w fun v' w' => v' = .bool true ∧ St w [] [] w' := by
  go_enter Tryd.func21, Tryd.ntmps21
  have hst := St.refl w
  go_wp2_with (first
      | go_skip
      | ((with_reducible refine at_d 1 ?_); go_loud (refine wl_box rfl rfl rfl (by first | rfl | exact row_one _) hst ?_; clear hst; intro b1 w1 hb1 hst))
      | ((with_reducible refine at_d 3 ?_); go_loud (refine wl_fld (r := 0) fld35_0 rfl rfl rfl rfl (hk := ?_)))
      | ((with_reducible refine at_d 4 ?_); go_loud (refine wl_load1v rfl rfl rfl (hs := sc3) (hk := ?_)))
      | ((with_reducible refine at_d 7 ?_); (refine wl_fld (r := 1) fld35_1 rfl rfl rfl rfl (hk := ?_)))
      | ((with_reducible refine at_d 8 ?_); (refine wl_load1v rfl rfl rfl (hs := sc27) (hk := ?_)))
      | ((with_reducible refine at_d 12 ?_); (refine wl_fld (r := 34) fld35_3 rfl rfl rfl rfl (hk := ?_)))
      | ((with_reducible refine at_d 13 ?_); (refine wl_load1v rfl rfl rfl (hs := sc3) (hk := ?_)))
      | ((with_reducible refine at_d 17 ?_); (refine wl_fld (r := 36) fld35_5 rfl rfl rfl rfl (hk := ?_)))
      | ((with_reducible refine at_d 18 ?_); (refine wl_load1v rfl rfl rfl (hs := sc27) (hk := ?_)))
      | ((with_reducible refine at_d 22 ?_); (refine wl_fld (r := 92) fld35_10 rfl rfl rfl rfl (hk := ?_)))
      | ((with_reducible refine at_d 23 ?_); (refine wl_load1v rfl rfl rfl (hs := sc3) (hk := ?_)))
      | ((with_reducible refine at_d 27 ?_); (refine wl_fld (r := 53) fld35_7 rfl rfl rfl rfl (hk := ?_)))
      | ((with_reducible refine at_d 28 ?_); (refine wl_load1v rfl rfl rfl (hs := sc32) (hk := ?_)))
      | ((with_reducible refine at_d 33 ?_); (refine wl_fld (r := 93) fld35_11 rfl rfl rfl rfl (hk := ?_)))
      | ((with_reducible refine at_d 34 ?_); (refine wl_loadP rfl rfl rfl (hs := agg29) (hv := (by first | exact hF_prev _ _ | exact hF_item _ _ | exact hF_knows _ _ | exact hF_sum _ _ | exact hF_code _ _)) (hk := ?_)))
      | ((with_reducible refine at_d 35 ?_); (refine wl_build0 Tryd.underlying29 zer29 sc5.size (zeros_b _) rfl rfl (hk := ?_)))
      | ((with_reducible refine at_d 36 ?_); (refine wl_eqB rfl rfl eqb29 rfl rfl (zeros_len 32) (zeros_len 32) (zeros_lt 32) (zeros_lt 32) (r := true) (by simp [zH]) (hk := ?_))))
  go_ret
  exact ⟨_, rfl, rfl, hst.none⟩
/-- the reference's answer, by its value -/
theorem refask_val (v : Value) (wr : Int) (hs : List Hdr) (H : Hdr) (tok : Value) (w : World) (h : Hds w v hs) (hok : H.Ok) (ht : Toks w tok H.toks) (hl : hs.length < 1000) (hK : Has w 0 64 (wF Sha.K)) :
    Ret Tryd.prog 17 #[.int .i64 wr, v, .agg (row 125 (hF H tok))] w fun v' w' => ∃ z, v' = .int .i64 z ∧ Hid (askOf wr hs H = z) ∧ St w [] [] w' :=
  Calls.mono (refask_any v wr hs H tok w h hok ht hl hK) (by rintro e w' ⟨v', rfl, rfl, hst⟩; exact ⟨_, rfl, _, rfl, rfl, hst⟩)
theorem ask_val (bc : Nat) (wr z : Int) (hs : List Hdr) (H : Hdr) (tok : Value) (w : World) (h : ChainR w bc wr hs) (hok : H.Ok) (ht : Toks w tok H.toks) (hz : askOf wr hs H = z) :
    Ret Tryd.prog 12 #[.pointer (some ⟨bc, 0, none⟩), .agg (row 125 (hF H tok))] w fun v' w' => v' = .int .i64 z ∧ St w [] [] w' := hz ▸ ask_any bc wr hs H tok w h hok ht
theorem add_val {W w : World} {b : Nat} {wr z : Int} {hs : List Hdr} {H : Hdr} {tok : Value} {Ec L : List (Nat × Obj)} (hch : ChainO b wr hs Ec) (hst : St W [] (Ec ++ L) w) (hok : H.Ok) (ht : Toks W tok H.toks) (hK : Has W 1 64 (wF Sha.K)) (hlen : hs.length < 1000) (hz : askOf wr hs H = z) :
    Ret Tryd.prog 16 #[.pointer (some ⟨b, 0, none⟩), .agg (row 125 (hF H tok))] w fun v' w' => v' = .int .i64 z ∧ ∃ E', ChainO b wr (if z = 0 then hs ++ [H] else hs) E' ∧ St W [] (E' ++ L) w' := by
  subst hz; exact add_law hch hst hok ht hK hlen
theorem HaveO.get {W : World} {ad : Option Addr} {n c : Nat} {hs : List Hdr} {E : List (Nat × Obj)} (h : HaveO W (.slice ad n c) hs E) {m : Nat} {G : Hdr} (hm : hs[m]? = some G) :
    ∃ b N f tok, ad = some ⟨b, 0, none⟩ ∧ (b, blk N f 35) ∈ E ∧ 125 * hs.length ≤ N ∧ m < hs.length ∧ G.Ok ∧ Toks W tok G.toks ∧ ∀ j, j < 125 → f (0 + 125 * m + j) = hF G tok j := by
  obtain ⟨g, hown, hel⟩ := h
  have hlt : m < hs.length := (List.getElem?_eq_some_iff.1 hm).1
  rcases hown with ⟨_, hz, _⟩ | ⟨b, cap, f, e, hc, _, rfl, hf⟩
  · omega
  · simp only [Value.slice.injEq] at e
    obtain ⟨rfl, rfl, rfl⟩ := e
    obtain ⟨gok, tok, hc1, hto⟩ := hel m G hm
    exact ⟨b, c * 125, f, tok, rfl, by simp, by omega, hlt, gok, hto, fun j hj => by rw [show 0 + 125 * m + j = 125 * m + j by omega, hf _ (by omega), hc1 j hj]⟩
end Go.Proofs.YtmegpfjlijphoaaDoor
