/- The walk of law13's WriterLinked. WriterLinked: for every list of headers and every list of bools that lie readable in memory, and both tables of words laid as the program's text lays them, the law returns true and leaves what was handed in. The row, and its card, tied to the text. -/
import Derived.Test.YtmegpfjlijphoaaDoorLk2
import Derived.Test.YtmegpfjlijphoaaDoorPl1
import Derived.Test.YtmegpfjlijphoaaDoorOpen4
namespace Go.Jal
open Go.RowKit
theorem Hdr.Ok.setW {H : Hdr} (h : H.Ok) {x : Int} (h1 : -9223372036854775808 ≤ x) (h2 : x ≤ 9223372036854775807) : (H.setW x).Ok := { h with writer := ⟨h1, h2⟩ }
theorem Hdr.Ok.setS {H : Hdr} (h : H.Ok) {x : Nat} (h1 : x < 18446744073709551616) : (H.setS x).Ok := { h with seq := h1 }
theorem Hdr.Ok.setP {H : Hdr} (h : H.Ok) {l : List Nat} (h1 : isB 32 l) : (H.setP l).Ok := { h with prev := h1 }
theorem Hdr.Ok.setK {H : Hdr} (h : H.Ok) {m x : Nat} (h1 : x < 18446744073709551616) : (H.setK m x).Ok := { h with knows := ⟨by
    show (H.knows.set m x).length = 6
    rw [List.length_set]; exact h.knows.1, fun y hy => by
    rcases List.mem_or_eq_of_mem_set (show y ∈ H.knows.set m x from hy) with hy | rfl
    · exact h.knows.2 y hy
    · exact h1⟩ }
theorem wrap_u64_nat (n : Nat) : IntKind.u64.wrap (n : Int) = ((n % 18446744073709551616 : Nat) : Int) := by
  simp only [IntKind.wrap, IntKind.bits, IntKind.signed, Bool.false_and, ge_iff_le]
  simp
end Go.Jal
namespace Go.Proofs.YtmegpfjlijphoaaDoor
open Go.RowKit Go.Jal
set_option maxRecDepth 100000 in
set_option maxHeartbeats 4000000 in
theorem writerLinked_any (v v2 : Value) (ls : List Hdr) (rs : List Bool) (W : World) (h : Hds W v ls) (hrs : Bools W v2 rs) (hK0 : Has W 0 64 (wF Sha.K)) (hK1 : Has W 1 64 (wF Sha.K)) :
    Ret Tryd.prog 6 #[v, v2] W fun v' w' => v' = .bool true ∧ St W [] [] w' := by
  obtain ⟨ad, c, rfl, hcap, hcm, _⟩ := id h
  obtain ⟨adr, cr, rfl, hrm, hrb⟩ := hrs
  unfold maxLen at hcm hrm
  have HRB0 := Lib.hid hrb
  clear hrb
  go_enter Tryd.func6, Tryd.ntmps6
  have hst := St.refl W
  go_wp2_with (first
      | go_skip
      | ((with_reducible refine at_d 9 ?_); go_loud (refine wl_call pl8 rfl rfl rfl (awake_any _ (hK1.keep hst.none)) ?_; rintro v9 w9 ⟨rfl, hst9⟩; replace hst := hst.call hst9; clear hst9))
      | ((with_reducible refine at_d 13 ?_); (refine wl_call pl9 rfl rfl rfl (few_any _ ls 25 (by omega) _ (h.keep hst.none)) ?_; rintro v13 w13 ⟨⟨r, rfl, hr⟩, rfl⟩))
      | ((with_reducible refine at_d 16 ?_); go_loud (refine wl_call pl8 rfl rfl rfl (awake_any _ (hK1.keep hst.none)) ?_; rintro v16 w16 ⟨rfl, hst16⟩; replace hst := hst.call hst16; clear hst16)))
  · clear hr
    go_ret
    exact ⟨_, rfl, rfl, hst.none⟩
  · obtain ⟨hl20, h20⟩ := hr (by simpa using ‹(!r) = false›)
    clear hr
    go_loopw [5, 6] (fun v5 i wr => ∃ (k : Nat) (hs : List Hdr) (Eh : List (Nat × Obj)), k ≤ ls.length ∧ hs.length = k ∧ i = .int .i64 (k : Int) ∧ HaveO W v5 hs Eh ∧ St W [] Eh wr) (fun _ i _ => ls.length - (intOf i).toNat)
    case atStart => exact ⟨0, [], [], by omega, rfl, rfl, HaveO.nil, by simpa using hst⟩
    case round =>
      clear hst
      obtain ⟨k, hs, Eh, hk, hsk, rfl, hhv, hst⟩ := hrel
      obtain ⟨ad4, c4, rfl, hc4, hm4⟩ := hhv.slice
      unfold maxLen at hm4
      have hsk1 : hs.length ≤ k := by omega
      have hsk2 : k ≤ hs.length := by omega
      have HSK := Lib.hid hsk
      clear hsk
      by_cases hkl : k < ls.length
      · obtain ⟨G0, hG0⟩ : ∃ G0, ls[k]? = some G0 := ⟨_, List.getElem?_eq_getElem hkl⟩
        obtain ⟨bl, off, N, f, tok, rfl, hN, hbd, hlt, _, gok0, gt, hcell⟩ := Hds.get h hG0
        have HN := Lib.hid hN
        have HA := Lib.hid hcell
        have HO0 : Hid G0.Ok := gok0
        have HT : Hid (∀ L w', St W [] L w' → Toks w' tok G0.toks) := by
          show ∀ _ _ _, _
          exact fun L w' h' => gt.keep h'.none
        have HONE : Hid (tok.oneCell' = true) := tok_one gt
        have HRB : Hid (k < rs.length → ∃ br orr Nr fr rb, adr = some ⟨br, orr, none⟩ ∧ Hid (Has W br Nr fr) ∧ orr + rs.length ≤ Nr ∧ Hid (fr (orr + 1 * k) = .bool rb)) := by
          show _ → _
          intro hq
          obtain ⟨br, orr, Nr, fr, e1, e2, e3, e4⟩ := HRB0.out (by intro e; subst e; simp at hq)
          exact ⟨br, orr, Nr, fr, rs[k], e1, e2, e3, by show _ = _; rw [Nat.one_mul]; exact e4 k _ (List.getElem?_eq_getElem hq)⟩
        clear hG0 hN hcell h gok0 gt HRB0
        have hq : k < rs.length ∨ rs.length ≤ k := by omega
        by_cases hk0 : k = 0
        · subst hk0
          go_wp2_with (first
      | go_skip
      | ((with_reducible refine at_d 25 ?_); go_loud (refine wl_idx (i := 0) Tryd.underlying22 siz35 (by omega) rfl rfl rfl rfl (hk := ?_)))
      | ((with_reducible refine at_d 26 ?_); go_loud (refine wl_loadP rfl rfl rfl (HN.out.keep hst.none) agg35 (by omega) HA.out (hk := ?_)))
      | ((with_reducible refine at_d 7 ?_); go_loud (refine wl_alloc rfl rfl hst zer35 ?_; clear hst; intro b7 w7 hb7 hst))
      | ((with_reducible refine at_n (.store 35 (.tmp 7) (.tmp 26)) ?_); go_loud (refine wl_storeAll rfl rfl rfl rfl (hs := agg35) (hv := fun j _ => hF_one _ _ HONE.out j) (hk := ?_); clear hst; intro w1 hst; (try simp only [List.nil_append] at hst)))
      | ((with_reducible refine at_d 28 ?_); go_loud (refine wl_cmp (p := ((0 : Nat) : Int)) (q := 0) (by first | exact decide_eq_true (by omega) | exact decide_eq_false (by omega)) rfl rfl rfl rfl rfl (hk := ?_)))
      | ((with_reducible refine at_d 33 ?_); (refine wl_cmp (p := ((0 : Nat) : Int)) (q := (rs.length : Int)) (by first | exact decide_eq_true (by omega) | exact decide_eq_false (by omega)) rfl rfl rfl rfl rfl (hk := ?_)))
      | ((with_reducible refine at_d 38 ?_); (obtain ⟨br, orr, Nr, fr, rb, rfl, HNr, hbr, HRC⟩ := HRB.out hq; refine wl_idx (i := 0) Tryd.underlying43 sc4.size (by omega) rfl rfl rfl rfl (hk := ?_)))
      | ((with_reducible refine at_d 39 ?_); (refine wl_load1v rfl rfl rfl (HNr.out.keep hst.none) HRC.out (by omega) sc4 (hk := ?_)))
      | ((with_reducible refine at_d 72 ?_); go_loud ((first | replace hst := hst.sub (List.Sublist.cons_cons _ (List.Sublist.cons _ (List.Sublist.refl Eh))) | skip); refine wl_loadAll rfl rfl rfl (hs := agg35) (hk := ?_)))
      | ((with_reducible refine at_d 73 ?_); go_loud (refine wl_buildSlice1 rfl rfl elt22 (by decide) (by (conv => lhs; whnf) <;> rfl) (by first | exact row_one _ | rfl) hst ?_; clear hst; intro b73 w73 hb73 hst))
      | ((with_reducible refine at_d 74 ?_); go_loud (obtain ⟨g, hown, hel⟩ := hhv; refine wl_append rfl rfl elt22 rfl rfl hown (L := [(b73, blk 125 (hF _ tok) 35), (b7, blk 125 (hF _ tok) 35)]) (h := hF _ tok) (hst.perm (List.perm_append_comm (l₁ := [(b73, blk 125 (hF _ tok) 35), (b7, blk 125 (hF _ tok) 35)]) (l₂ := Eh))) (.inr ⟨b73, 0, 125, _, rfl, hst.hasb Pick.head, by omega, fun j _ => by rw [Nat.zero_add]⟩) (by intro h; cases h) (fun j _ => hF_one _ _ HONE.out j) (by omega) (by unfold maxLen; omega) ?_; intro v74 w74 E74 hown74 hst74 _; clear hst; have hst := hst74; clear hst74; have hhv74 := HaveO.snoc hown74 hel (by first | exact HO0.out | exact HO1.out | exact HO2.out) (HT.out _ _ (St.refl _)))))
          go_roundw
          case rel => exact ⟨1, by omega, _, by rw [List.length_append]; simp only [List.length_cons, List.length_nil]; omega, by omega, E74, hhv74, hst.sub (List.sublist_append_left _ _)⟩
          case measure => simp [intOf]; omega
        · obtain ⟨y, rfl⟩ : ∃ y, k = y + 1 := ⟨k - 1, by omega⟩
          obtain ⟨G, hG⟩ : ∃ G, hs[y]? = some G := ⟨_, List.getElem?_eq_getElem (by omega)⟩
          obtain ⟨bh, Nh, fh, tokh, rfl, hmb, hNh, _, gok, htk, hag⟩ := hhv.get hG
          have HMB := Lib.hid hmb
          have HAG := Lib.hid hag
          have HTG : Hid (∀ L w', St W [] L w' → Toks w' tokh G.toks) := by
            show ∀ _ _ _, _
            exact fun L w' h' => htk.keep h'.none
          have HONG : Hid (tokh.oneCell' = true) := tok_one htk
          obtain ⟨sq, hsq⟩ : ∃ sq, sq = (G.seq + 1) % 18446744073709551616 := ⟨_, rfl⟩
          have hsql : sq < 18446744073709551616 := by omega
          have HSQ : Hid (IntKind.u64.wrap ((G.seq : Int) + 1) = (sq : Int)) := by show _ = _; rw [hsq]; exact wrap_u64_nat (G.seq + 1)
          have HO1 : Hid (((G0.setW G.writer).setS sq).setP (hashB G)).Ok := ((HO0.out.setW gok.writer.1 gok.writer.2).setS hsql).setP ⟨sha_len _, sha_lt _⟩
          have HK6 : Hid ((((G0.setW G.writer).setS sq).setP (hashB G)).knows.length = 6) := HO1.out.knows.1
          have HO2' : Hid (∀ n, ((((G0.setW G.writer).setS sq).setP (hashB G)).setK n G.seq).Ok) := fun n => HO1.out.setK gok.seq
          have hr2 : (G.writer < 1 ∨ 6 < G.writer) ∨ ∃ n : Nat, n < 6 ∧ G.writer ≤ (n : Int) + 1 ∧ (n : Int) + 1 ≤ G.writer := by
            by_cases c : G.writer < 1 ∨ 6 < G.writer
            · exact .inl c
            · exact .inr ⟨(G.writer - 1).toNat, by omega, by omega, by omega⟩
          clear hG hmb hag htk hsq hk0
          rcases hq with hq | hq
          rotate_left
          · clear hr2
            go_wp2_with (first
      | go_skip
      | ((with_reducible refine at_d 25 ?_); go_loud (refine wl_idx (i := (y + 1)) Tryd.underlying22 siz35 (by omega) rfl rfl rfl rfl (hk := ?_)))
      | ((with_reducible refine at_d 26 ?_); go_loud (refine wl_loadP rfl rfl rfl (HN.out.keep hst.none) agg35 (by omega) HA.out (hk := ?_)))
      | ((with_reducible refine at_d 7 ?_); go_loud (refine wl_alloc rfl rfl hst zer35 ?_; clear hst; intro b7 w7 hb7 hst))
      | ((with_reducible refine at_n (.store 35 (.tmp 7) (.tmp 26)) ?_); go_loud (refine wl_storeAll rfl rfl rfl rfl (hs := agg35) (hv := fun j _ => hF_one _ _ HONE.out j) (hk := ?_); clear hst; intro w1 hst; (try simp only [List.nil_append] at hst)))
      | ((with_reducible refine at_d 28 ?_); go_loud (refine wl_cmp (p := (((y + 1) : Nat) : Int)) (q := 0) (by first | exact decide_eq_true (by omega) | exact decide_eq_false (by omega)) rfl rfl rfl rfl rfl (hk := ?_)))
      | ((with_reducible refine at_d 33 ?_); (refine wl_cmp (p := (((y + 1) : Nat) : Int)) (q := (rs.length : Int)) (by first | exact decide_eq_true (by omega) | exact decide_eq_false (by omega)) rfl rfl rfl rfl rfl (hk := ?_)))
      | ((with_reducible refine at_d 38 ?_); (obtain ⟨br, orr, Nr, fr, rb, rfl, HNr, hbr, HRC⟩ := HRB.out hq; refine wl_idx (i := (y + 1)) Tryd.underlying43 sc4.size (by omega) rfl rfl rfl rfl (hk := ?_)))
      | ((with_reducible refine at_d 39 ?_); (refine wl_load1v rfl rfl rfl (HNr.out.keep hst.none) HRC.out (by omega) sc4 (hk := ?_)))
      | ((with_reducible refine at_d 72 ?_); go_loud ((first | replace hst := hst.sub (List.Sublist.cons_cons _ (List.Sublist.cons _ (List.Sublist.refl Eh))) | skip); refine wl_loadAll rfl rfl rfl (hs := agg35) (hk := ?_)))
      | ((with_reducible refine at_d 73 ?_); go_loud (refine wl_buildSlice1 rfl rfl elt22 (by decide) (by (conv => lhs; whnf) <;> rfl) (by first | exact row_one _ | rfl) hst ?_; clear hst; intro b73 w73 hb73 hst))
      | ((with_reducible refine at_d 74 ?_); go_loud (obtain ⟨g, hown, hel⟩ := hhv; refine wl_append rfl rfl elt22 rfl rfl hown (L := [(b73, blk 125 (hF _ tok) 35), (b7, blk 125 (hF _ tok) 35)]) (h := hF _ tok) (hst.perm (List.perm_append_comm (l₁ := [(b73, blk 125 (hF _ tok) 35), (b7, blk 125 (hF _ tok) 35)]) (l₂ := Eh))) (.inr ⟨b73, 0, 125, _, rfl, hst.hasb Pick.head, by omega, fun j _ => by rw [Nat.zero_add]⟩) (by intro h; cases h) (fun j _ => hF_one _ _ HONE.out j) (by omega) (by unfold maxLen; omega) ?_; intro v74 w74 E74 hown74 hst74 _; clear hst; have hst := hst74; clear hst74; have hhv74 := HaveO.snoc hown74 hel (by first | exact HO0.out | exact HO1.out | exact HO2.out) (HT.out _ _ (St.refl _)))))
            go_roundw
            case rel => exact ⟨y + 1 + 1, by omega, _, by rw [List.length_append]; simp only [List.length_cons, List.length_nil]; omega, by omega, E74, hhv74, hst.sub (List.sublist_append_left _ _)⟩
            case measure => simp [intOf]; omega
          rcases hr2 with (hr2 | hr2) | ⟨n, hn6, hr21, hr22⟩
          rotate_left 2
          · have HO2 := Lib.hid (HO2'.out n)
            go_wp2_with (first
      | go_skip
      | ((with_reducible refine at_d 25 ?_); go_loud (refine wl_idx (i := (y + 1)) Tryd.underlying22 siz35 (by omega) rfl rfl rfl rfl (hk := ?_)))
      | ((with_reducible refine at_d 26 ?_); go_loud (refine wl_loadP rfl rfl rfl (HN.out.keep hst.none) agg35 (by omega) HA.out (hk := ?_)))
      | ((with_reducible refine at_d 7 ?_); go_loud (refine wl_alloc rfl rfl hst zer35 ?_; clear hst; intro b7 w7 hb7 hst))
      | ((with_reducible refine at_n (.store 35 (.tmp 7) (.tmp 26)) ?_); go_loud (refine wl_storeAll rfl rfl rfl rfl (hs := agg35) (hv := fun j _ => hF_one _ _ HONE.out j) (hk := ?_); clear hst; intro w1 hst; (try simp only [List.nil_append] at hst)))
      | ((with_reducible refine at_d 28 ?_); go_loud (refine wl_cmp (p := (((y + 1) : Nat) : Int)) (q := 0) (by first | exact decide_eq_true (by omega) | exact decide_eq_false (by omega)) rfl rfl rfl rfl rfl (hk := ?_)))
      | ((with_reducible refine at_d 33 ?_); (refine wl_cmp (p := (((y + 1) : Nat) : Int)) (q := (rs.length : Int)) (by first | exact decide_eq_true (by omega) | exact decide_eq_false (by omega)) rfl rfl rfl rfl rfl (hk := ?_)))
      | ((with_reducible refine at_d 38 ?_); (obtain ⟨br, orr, Nr, fr, rb, rfl, HNr, hbr, HRC⟩ := HRB.out hq; refine wl_idx (i := (y + 1)) Tryd.underlying43 sc4.size (by omega) rfl rfl rfl rfl (hk := ?_)))
      | ((with_reducible refine at_d 39 ?_); (refine wl_load1v rfl rfl rfl (HNr.out.keep hst.none) HRC.out (by omega) sc4 (hk := ?_)))
      | ((with_reducible refine at_d 43 ?_); go_loud (refine wl_ari (p := ((y : Int) + 1)) (q := 1) (r := (y : Int)) (k := .i64) (by simp only [ariI] <;> omega) (by show _ ∧ _; omega) rfl rfl rfl rfl rfl (hk := ?_)))
      | ((with_reducible refine at_d 44 ?_); go_loud (refine wl_idx (i := y) Tryd.underlying22 siz35 (by omega) rfl rfl rfl rfl (hk := ?_)))
      | ((with_reducible refine at_d 45 ?_); go_loud (refine wl_loadP rfl rfl rfl (show Has _ bh Nh fh from ⟨_, _, hst.own (bh, blk Nh fh 35) (by simp [HMB.out])⟩) agg35 (by omega) HAG.out (hk := ?_)))
      | ((with_reducible refine at_d 8 ?_); go_loud (refine wl_alloc rfl rfl hst zer35 ?_; clear hst; intro b8 w8 hb8 hst))
      | ((with_reducible refine at_n (.store 35 (.tmp 8) (.tmp 45)) ?_); go_loud (refine wl_storeAll rfl rfl rfl rfl (hs := agg35) (hv := fun j _ => hF_one _ _ HONG.out j) (hk := ?_); clear hst; intro w1 hst; (try simp only [List.nil_append] at hst)))
      | ((with_reducible refine at_d 46 ?_); go_loud (refine wl_fld (r := 0) fld35_0 rfl rfl rfl rfl (hk := ?_)))
      | ((with_reducible refine at_d 47 ?_); go_loud (refine wl_load1v rfl rfl rfl (hs := sc3) (hk := ?_)))
      | ((with_reducible refine at_d 48 ?_); go_loud (refine wl_fld (r := 0) fld35_0 rfl rfl rfl rfl (hk := ?_)))
      | ((with_reducible refine at_n (.store 3 (.tmp 48) (.tmp 47)) ?_); go_loud (refine wl_store1 rfl rfl rfl (hs := sc3) (hk := ?_); clear hst; intro w1 hst; rw [hF_w] at hst))
      | ((with_reducible refine at_d 49 ?_); go_loud (refine wl_fld (r := 1) fld35_1 rfl rfl rfl rfl (hk := ?_)))
      | ((with_reducible refine at_d 50 ?_); go_loud (refine wl_load1v rfl rfl rfl (hs := sc27) (hk := ?_)))
      | ((with_reducible refine at_d 51 ?_); go_loud (refine wl_ariW (p := (G.seq : Int)) (q := 1) (r := (sq : Int)) HSQ.out rfl rfl rfl rfl rfl (hk := ?_)))
      | ((with_reducible refine at_d 52 ?_); go_loud (refine wl_fld (r := 1) fld35_1 rfl rfl rfl rfl (hk := ?_)))
      | ((with_reducible refine at_n (.store 27 (.tmp 52) (.tmp 51)) ?_); go_loud (refine wl_store1 rfl rfl rfl (hs := sc12) (hk := ?_); clear hst; intro w1 hst; rw [hF_s _ _ sq (sq : Int) rfl] at hst))
      | ((with_reducible refine at_d 53 ?_); go_loud ((first | (refine wl_loadAll rfl rfl rfl (hs := agg35) (hk := ?_)) | (refine wl_loadN rfl rfl rfl (hs := agg35) (hk := ?_)))))
      | ((with_reducible refine at_d 54 ?_); go_loud (refine wl_call pl23 rfl rfl rfl (refhash_any G tokh _ gok (HTG.out _ _ hst) (hK0.keep hst.none)) ?_; rintro v54 w54 ⟨rfl, hst54⟩; replace hst := hst.call hst54; clear hst54; (try simp only [List.nil_append] at hst)))
      | ((with_reducible refine at_d 55 ?_); go_loud (refine wl_fld (r := 2) fld35_2 rfl rfl rfl rfl (hk := ?_)))
      | ((with_reducible refine at_n (.store 29 (.tmp 55) (.tmp 54)) ?_); go_loud (refine wl_storeN rfl rfl rfl rfl (hs := agg29) (hv := by intro j hj; rfl) (hk := ?_); clear hst; intro w1 hst; rw [hF_p] at hst))
      | ((with_reducible refine at_d 56 ?_); go_loud (refine wl_fld (r := 0) fld35_0 rfl rfl rfl rfl (hk := ?_)))
      | ((with_reducible refine at_d 57 ?_); go_loud (refine wl_load1v rfl rfl rfl (hs := sc3) (hk := ?_)))
      | ((with_reducible refine at_d 58 ?_); go_loud (refine wl_cmp (p := G.writer) (q := 1) (by first | exact decide_eq_true (by omega) | exact decide_eq_false (by omega)) rfl rfl rfl rfl rfl (hk := ?_)))
      | ((with_reducible refine at_d 60 ?_); (refine wl_fld (r := 0) fld35_0 rfl rfl rfl rfl (hk := ?_)))
      | ((with_reducible refine at_d 61 ?_); (refine wl_load1v rfl rfl rfl (hs := sc3) (hk := ?_)))
      | ((with_reducible refine at_d 62 ?_); (refine wl_cmp (p := G.writer) (q := 6) (by first | exact decide_eq_true (by omega) | exact decide_eq_false (by omega)) rfl rfl rfl rfl rfl (hk := ?_)))
      | ((with_reducible refine at_d 64 ?_); go_loud (refine wl_fld (r := 0) fld35_0 rfl rfl rfl rfl (hk := ?_)))
      | ((with_reducible refine at_d 65 ?_); go_loud (refine wl_load1v rfl rfl rfl (hs := sc3) (hk := ?_)))
      | ((with_reducible refine at_d 66 ?_); go_loud (refine wl_ari (p := G.writer) (q := 1) (r := (n : Int)) (k := .i64) (by simp only [ariI] <;> omega) (by show _ ∧ _; omega) rfl rfl rfl rfl rfl (hk := ?_)))
      | ((with_reducible refine at_d 67 ?_); go_loud (refine wl_fld (r := 1) fld35_1 rfl rfl rfl rfl (hk := ?_)))
      | ((with_reducible refine at_d 68 ?_); go_loud (refine wl_load1v rfl rfl rfl (hs := sc27) (hk := ?_)))
      | ((with_reducible refine at_d 69 ?_); go_loud (refine wl_fld (r := 54) fld35_8 rfl rfl rfl rfl (hk := ?_)))
      | ((with_reducible refine at_d 70 ?_); go_loud (refine wl_idxA (i := n) Tryd.underlying33 sc12.size hn6 rfl rfl rfl rfl (hk := ?_)))
      | ((with_reducible refine at_n (.store 27 (.tmp 70) (.tmp 68)) ?_); go_loud (refine wl_store1 rfl rfl rfl (hs := sc12) (hk := ?_); clear hst; intro w1 hst; rw [hF_k _ _ _ _ hn6 (show (((G0.setW G.writer).setS sq).setP (hashB G)).knows.length = 6 from HK6.out)] at hst))
      | ((with_reducible refine at_d 72 ?_); go_loud ((first | replace hst := hst.sub (List.Sublist.cons_cons _ (List.Sublist.cons _ (List.Sublist.refl Eh))) | skip); refine wl_loadAll rfl rfl rfl (hs := agg35) (hk := ?_)))
      | ((with_reducible refine at_d 73 ?_); go_loud (refine wl_buildSlice1 rfl rfl elt22 (by decide) (by (conv => lhs; whnf) <;> rfl) (by first | exact row_one _ | rfl) hst ?_; clear hst; intro b73 w73 hb73 hst))
      | ((with_reducible refine at_d 74 ?_); go_loud (obtain ⟨g, hown, hel⟩ := hhv; refine wl_append rfl rfl elt22 rfl rfl hown (L := [(b73, blk 125 (hF _ tok) 35), (b7, blk 125 (hF _ tok) 35)]) (h := hF _ tok) (hst.perm (List.perm_append_comm (l₁ := [(b73, blk 125 (hF _ tok) 35), (b7, blk 125 (hF _ tok) 35)]) (l₂ := Eh))) (.inr ⟨b73, 0, 125, _, rfl, hst.hasb Pick.head, by omega, fun j _ => by rw [Nat.zero_add]⟩) (by intro h; cases h) (fun j _ => hF_one _ _ HONE.out j) (by omega) (by unfold maxLen; omega) ?_; intro v74 w74 E74 hown74 hst74 _; clear hst; have hst := hst74; clear hst74; have hhv74 := HaveO.snoc hown74 hel (by first | exact HO0.out | exact HO1.out | exact HO2.out) (HT.out _ _ (St.refl _)))))
            all_goals
              go_roundw
              case rel => exact ⟨y + 1 + 1, by omega, _, by rw [List.length_append]; simp only [List.length_cons, List.length_nil]; omega, by omega, E74, hhv74, hst.sub (List.sublist_append_left _ _)⟩
              case measure => simp [intOf]; omega
          all_goals
            go_wp2_with (first
      | go_skip
      | ((with_reducible refine at_d 25 ?_); go_loud (refine wl_idx (i := (y + 1)) Tryd.underlying22 siz35 (by omega) rfl rfl rfl rfl (hk := ?_)))
      | ((with_reducible refine at_d 26 ?_); go_loud (refine wl_loadP rfl rfl rfl (HN.out.keep hst.none) agg35 (by omega) HA.out (hk := ?_)))
      | ((with_reducible refine at_d 7 ?_); go_loud (refine wl_alloc rfl rfl hst zer35 ?_; clear hst; intro b7 w7 hb7 hst))
      | ((with_reducible refine at_n (.store 35 (.tmp 7) (.tmp 26)) ?_); go_loud (refine wl_storeAll rfl rfl rfl rfl (hs := agg35) (hv := fun j _ => hF_one _ _ HONE.out j) (hk := ?_); clear hst; intro w1 hst; (try simp only [List.nil_append] at hst)))
      | ((with_reducible refine at_d 28 ?_); go_loud (refine wl_cmp (p := (((y + 1) : Nat) : Int)) (q := 0) (by first | exact decide_eq_true (by omega) | exact decide_eq_false (by omega)) rfl rfl rfl rfl rfl (hk := ?_)))
      | ((with_reducible refine at_d 33 ?_); (refine wl_cmp (p := (((y + 1) : Nat) : Int)) (q := (rs.length : Int)) (by first | exact decide_eq_true (by omega) | exact decide_eq_false (by omega)) rfl rfl rfl rfl rfl (hk := ?_)))
      | ((with_reducible refine at_d 38 ?_); (obtain ⟨br, orr, Nr, fr, rb, rfl, HNr, hbr, HRC⟩ := HRB.out hq; refine wl_idx (i := (y + 1)) Tryd.underlying43 sc4.size (by omega) rfl rfl rfl rfl (hk := ?_)))
      | ((with_reducible refine at_d 39 ?_); (refine wl_load1v rfl rfl rfl (HNr.out.keep hst.none) HRC.out (by omega) sc4 (hk := ?_)))
      | ((with_reducible refine at_d 43 ?_); go_loud (refine wl_ari (p := ((y : Int) + 1)) (q := 1) (r := (y : Int)) (k := .i64) (by simp only [ariI] <;> omega) (by show _ ∧ _; omega) rfl rfl rfl rfl rfl (hk := ?_)))
      | ((with_reducible refine at_d 44 ?_); go_loud (refine wl_idx (i := y) Tryd.underlying22 siz35 (by omega) rfl rfl rfl rfl (hk := ?_)))
      | ((with_reducible refine at_d 45 ?_); go_loud (refine wl_loadP rfl rfl rfl (show Has _ bh Nh fh from ⟨_, _, hst.own (bh, blk Nh fh 35) (by simp [HMB.out])⟩) agg35 (by omega) HAG.out (hk := ?_)))
      | ((with_reducible refine at_d 8 ?_); go_loud (refine wl_alloc rfl rfl hst zer35 ?_; clear hst; intro b8 w8 hb8 hst))
      | ((with_reducible refine at_n (.store 35 (.tmp 8) (.tmp 45)) ?_); go_loud (refine wl_storeAll rfl rfl rfl rfl (hs := agg35) (hv := fun j _ => hF_one _ _ HONG.out j) (hk := ?_); clear hst; intro w1 hst; (try simp only [List.nil_append] at hst)))
      | ((with_reducible refine at_d 46 ?_); go_loud (refine wl_fld (r := 0) fld35_0 rfl rfl rfl rfl (hk := ?_)))
      | ((with_reducible refine at_d 47 ?_); go_loud (refine wl_load1v rfl rfl rfl (hs := sc3) (hk := ?_)))
      | ((with_reducible refine at_d 48 ?_); go_loud (refine wl_fld (r := 0) fld35_0 rfl rfl rfl rfl (hk := ?_)))
      | ((with_reducible refine at_n (.store 3 (.tmp 48) (.tmp 47)) ?_); go_loud (refine wl_store1 rfl rfl rfl (hs := sc3) (hk := ?_); clear hst; intro w1 hst; rw [hF_w] at hst))
      | ((with_reducible refine at_d 49 ?_); go_loud (refine wl_fld (r := 1) fld35_1 rfl rfl rfl rfl (hk := ?_)))
      | ((with_reducible refine at_d 50 ?_); go_loud (refine wl_load1v rfl rfl rfl (hs := sc27) (hk := ?_)))
      | ((with_reducible refine at_d 51 ?_); go_loud (refine wl_ariW (p := (G.seq : Int)) (q := 1) (r := (sq : Int)) HSQ.out rfl rfl rfl rfl rfl (hk := ?_)))
      | ((with_reducible refine at_d 52 ?_); go_loud (refine wl_fld (r := 1) fld35_1 rfl rfl rfl rfl (hk := ?_)))
      | ((with_reducible refine at_n (.store 27 (.tmp 52) (.tmp 51)) ?_); go_loud (refine wl_store1 rfl rfl rfl (hs := sc12) (hk := ?_); clear hst; intro w1 hst; rw [hF_s _ _ sq (sq : Int) rfl] at hst))
      | ((with_reducible refine at_d 53 ?_); go_loud ((first | (refine wl_loadAll rfl rfl rfl (hs := agg35) (hk := ?_)) | (refine wl_loadN rfl rfl rfl (hs := agg35) (hk := ?_)))))
      | ((with_reducible refine at_d 54 ?_); go_loud (refine wl_call pl23 rfl rfl rfl (refhash_any G tokh _ gok (HTG.out _ _ hst) (hK0.keep hst.none)) ?_; rintro v54 w54 ⟨rfl, hst54⟩; replace hst := hst.call hst54; clear hst54; (try simp only [List.nil_append] at hst)))
      | ((with_reducible refine at_d 55 ?_); go_loud (refine wl_fld (r := 2) fld35_2 rfl rfl rfl rfl (hk := ?_)))
      | ((with_reducible refine at_n (.store 29 (.tmp 55) (.tmp 54)) ?_); go_loud (refine wl_storeN rfl rfl rfl rfl (hs := agg29) (hv := by intro j hj; rfl) (hk := ?_); clear hst; intro w1 hst; rw [hF_p] at hst))
      | ((with_reducible refine at_d 56 ?_); go_loud (refine wl_fld (r := 0) fld35_0 rfl rfl rfl rfl (hk := ?_)))
      | ((with_reducible refine at_d 57 ?_); go_loud (refine wl_load1v rfl rfl rfl (hs := sc3) (hk := ?_)))
      | ((with_reducible refine at_d 58 ?_); go_loud (refine wl_cmp (p := G.writer) (q := 1) (by first | exact decide_eq_true (by omega) | exact decide_eq_false (by omega)) rfl rfl rfl rfl rfl (hk := ?_)))
      | ((with_reducible refine at_d 60 ?_); (refine wl_fld (r := 0) fld35_0 rfl rfl rfl rfl (hk := ?_)))
      | ((with_reducible refine at_d 61 ?_); (refine wl_load1v rfl rfl rfl (hs := sc3) (hk := ?_)))
      | ((with_reducible refine at_d 62 ?_); (refine wl_cmp (p := G.writer) (q := 6) (by first | exact decide_eq_true (by omega) | exact decide_eq_false (by omega)) rfl rfl rfl rfl rfl (hk := ?_)))
      | ((with_reducible refine at_d 72 ?_); go_loud ((first | replace hst := hst.sub (List.Sublist.cons_cons _ (List.Sublist.cons _ (List.Sublist.refl Eh))) | skip); refine wl_loadAll rfl rfl rfl (hs := agg35) (hk := ?_)))
      | ((with_reducible refine at_d 73 ?_); go_loud (refine wl_buildSlice1 rfl rfl elt22 (by decide) (by (conv => lhs; whnf) <;> rfl) (by first | exact row_one _ | rfl) hst ?_; clear hst; intro b73 w73 hb73 hst))
      | ((with_reducible refine at_d 74 ?_); go_loud (obtain ⟨g, hown, hel⟩ := hhv; refine wl_append rfl rfl elt22 rfl rfl hown (L := [(b73, blk 125 (hF _ tok) 35), (b7, blk 125 (hF _ tok) 35)]) (h := hF _ tok) (hst.perm (List.perm_append_comm (l₁ := [(b73, blk 125 (hF _ tok) 35), (b7, blk 125 (hF _ tok) 35)]) (l₂ := Eh))) (.inr ⟨b73, 0, 125, _, rfl, hst.hasb Pick.head, by omega, fun j _ => by rw [Nat.zero_add]⟩) (by intro h; cases h) (fun j _ => hF_one _ _ HONE.out j) (by omega) (by unfold maxLen; omega) ?_; intro v74 w74 E74 hown74 hst74 _; clear hst; have hst := hst74; clear hst74; have hhv74 := HaveO.snoc hown74 hel (by first | exact HO0.out | exact HO1.out | exact HO2.out) (HT.out _ _ (St.refl _)))))
            all_goals
              go_roundw
              case rel => exact ⟨y + 1 + 1, by omega, _, by rw [List.length_append]; simp only [List.length_cons, List.length_nil]; omega, by omega, E74, hhv74, hst.sub (List.sublist_append_left _ _)⟩
              case measure => simp [intOf]; omega
      · have hl9 : hs.length < 1000 := by omega
        have HHD : Hid (∀ L w', (∀ p ∈ Eh, w'.heap[p.1]? = some p.2) → St W [] L w' → Hds w' (.slice ad4 hs.length c4) hs) := by
          show ∀ _ _ _ _, _
          exact fun L w' h1 h2 => hhv.hds h2 h1
        clear hhv h HRB0
        go_wp2_with (first
      | ((with_reducible refine at_d 76 ?_); go_loud (refine wl_call pl24 rfl rfl rfl (linked_any _ hs _ (HHD.out _ _ hst.own hst) hl9 (hK1.keep hst.none)) ?_; rintro v76 w76 ⟨rfl, hst76⟩; replace hst := hst.call hst76; clear hst76; (try simp only [List.nil_append] at hst)))
      | ((with_reducible refine at_d 78 ?_); go_loud (refine wl_call pl25 rfl rfl rfl (reflinked_any _ hs _ (HHD.out _ _ hst.own hst) hl9 (hK0.keep hst.none)) ?_; rintro v78 w78 ⟨rfl, hst78⟩; replace hst := hst.call hst78; clear hst78; (try simp only [List.nil_append] at hst)))
      | ((with_reducible refine at_d 79 ?_); go_loud (refine wl_eqBool (p := linkedB hs) (q := linkedB hs) (r := true) (by simp) rfl rfl rfl rfl Tryd.underlying4 (hk := ?_))))
        go_ret
        exact ⟨_, rfl, rfl, hst.none⟩
end Go.Proofs.YtmegpfjlijphoaaDoor
namespace Go.Proofs.YtmegpfjlijphoaaDoor
open Go.ChangeShapes Go.WideShapes Go.ChangeAt Go.WideMaps Go.WideElems Go.RowKit Go.Jal

set_option maxRecDepth 100000 in
theorem writerLinked_lifted (os : Os) (started : os.Started) (H : Type) (enc : TypeId × Value → H) :
    ReturnsInHanded {} Tryd.checked os 6 .any (fun w args => (Rows.writerLinkedSpec.pre enc Tryd.prog Tryd.f6 [] false w args ∧ laidMetH Tryd.prog laidK w) ∧ sizedMet enc Tryd.prog Tryd.f6 (OpenSpec.ofChange Rows.writerLinkedSpec) false w args)
      (Rows.writerLinkedSpec.post enc Tryd.prog Tryd.f6 false true false false) := by
  refine returnsInHanded_of_change_and (C := Tryd.checked) (X := fun w _ => laidMetH Tryd.prog laidK w) (fun _ _ _ hh h => h.of_heap hh) own started (by kernel_rfl) Tryd.func6
    (ChangeSpec.witness_shaped (enc := enc) (C := Tryd.checked) (os := os) (X := fun w _ => laidMetH Tryd.prog laidK w) false (World.doorLaid Tryd.prog 4000 os) #[.slice none 0 0, .slice none 0 0] 8 rfl (World.shaped_of_RefB (by kernel_rfl) (by kernel_rfl)) (by kernel_rfl) (by kernel_rfl) (by kernel_rfl) (door_met os _)) ?_
  intro W base args ds gs before hval0 hW _ _ hL _
  have hval : ∀ (j : Nat) t v, Tryd.f6.params[j]? = some t → args[j]? = some v → Value.okWide Tryd.prog W .any base t v := hval0
  have hW' := hW
  obtain ⟨p, q, hA0, hV, rfl, hfz, hnd⟩ := hW
  have hA : DataW.TrodAll enc Tryd.prog W 0 (fun _ => true) true Tryd.f6.params.toList args.toList ds p := hA0
  rw [Tryd.params6] at hA hval
  obtain ⟨v0, v1, d0, d1, p0, p1, rfl, rfl, rfl, k0, k1⟩ := trodAll_two hA
  obtain ⟨rfl, rfl⟩ := trodVars_none hV
  have lt0 : ∀ x ∈ p0, x.block < W.heap.size := by obtain ⟨m, hm⟩ := k0; exact DataW.trod_lt m _ _ _ hm
  have lt1 : ∀ x ∈ p1, x.block < W.heap.size := by obtain ⟨m, hm⟩ := k1; exact DataW.trod_lt m _ _ _ hm
  obtain ⟨l1, h1⟩ := open_hdrs (hval 0 22 v0 rfl rfl) k0
  obtain ⟨l2, h2⟩ := open_bools (hval 1 43 v1 rfl rfl) k1
  have hcall := writerLinked_any v0 v1 l1 l2 W h1 h2 (of_laid hL).2 (of_laid hL).1
  clear hA0 hval0
  refine Calls.mono hcall ?_
  rintro e W' ⟨v', rfl, rfl, hst⟩
  have bel := hst.below
  exact ⟨_, rfl, _, _, _, [], _, [], hW', trodAll_mk1 (shut_bool Tryd.underlying4 _), trodAll_mk2 (Below.trod laidOut (by kernel_rfl) (of_decide_eq_true (by kernel_rfl)) k0 bel lt0) (Below.trod laidOut (by kernel_rfl) (of_decide_eq_true (by kernel_rfl)) k1 bel lt1), rfl, bel.frame _, fun h => by cases h⟩
theorem writerLinked_row : Rows.WriterLinkedSaid :=
  OpenClaim.holds_of_wide 6 Tryd.f6 rfl rfl rfl rfl rfl rfl rfl ⟨rfl, rfl, rfl, rfl, rfl⟩ rfl rfl rfl rfl rfl (by kernel_rfl) Tryd.func6 (by kernel_rfl)
    (of_decide_eq_true (by kernel_rfl)) (by unfold Func.isWrapper; first | (rw [if_pos (by decide +kernel)]; kernel_rfl) | (rw [if_neg (by decide +kernel)]; exact ⟨rfl, rfl⟩))
    (fun os started H enc _ => writerLinked_lifted os started H enc)
theorem writerLinked_card : Rows.WriterLinkedCardSaid :=
  Claim7.holds_tied_plain_at .later [] [.data, .data] true (true, "752c0f0884d59ad1d35480a3cbcce539d087732fcb49b9c026f1b6ecce218f39") false
    writerLinked_row (fun _ h => by cases h) (by kernel_rfl) (fun _ h => by cases h) writerLinked_row_tie rfl ⟨rfl, rfl⟩ (by kernel_rfl) rfl
    (fun f fn hf hfn => by
      obtain rfl : f = 6 := Option.some.inj ((show Tryd.prog.funcNamed "jalousie/jalousielaw13.WriterLinked" = some 6 by kernel_rfl).symm.trans hf) |>.symm
      obtain rfl : fn = Tryd.f6 := (Option.some.inj (Tryd.func6.symm.trans hfn)).symm
      exact ⟨by kernel_rfl, fun j t ht => by
        rw [Tryd.params6] at ht
        have hall : ∀ t ∈ [22, 43], Tryd.prog.wantsStandIn t = false := by
          intro t ht
          simp only [List.mem_cons, List.not_mem_nil, or_false] at ht
          rcases ht with rfl | rfl <;> kernel_rfl
        exact hall t (by have := Array.mem_of_getElem? ht; simpa using this)⟩)
    (by kernel_rfl)
#print axioms writerLinked_card
end Go.Proofs.YtmegpfjlijphoaaDoor
