/- The walk of law20's IndexFull. IndexFull: for every byte, and both tables of words laid as the program's text lays them, the law returns true and leaves what was handed in. The row, and its card, tied to the text. -/
import Derived.Test.YthbobmpeaemdnaaDoorI4
import Derived.Test.YthbobmpeaemdnaaDoorOpen2
namespace Go.Proofs.YthbobmpeaemdnaaDoor
open Go.RowKit Go.Jal
theorem elt24 : Elt Tryd.prog 24 37 126 256 (pF zH (.slice none 0 0) (.slice none 0 0)) := ⟨Tryd.underlying24, by unfold Zer; kernel_rfl, by kernel_rfl, by decide⟩
theorem zeros_lt80 : ∀ x ∈ zeros 80, x < 256 := fun x hx => by rw [(List.mem_replicate.1 hx).2]; decide
theorem pbuilt (H : Hdr) (tok : Value) (ad : Option Addr) (n c : Nat) : Tryd.prog.built 37 [(0, .agg (row 125 (hF H tok))), (1, .slice ad n c)] = some (row 126 (pF H tok (.slice ad n c))) := by kernel_rfl
/-- what an index holds behind k puts -/
def Vk (k : Nat) : List (List Hdr × List (List Nat)) := (fullL k, List.replicate k (zeros 80)) :: List.replicate 5 ([], [])
theorem Vk_put (k : Nat) : putV (Vk k) (fullH k) (zeros 80) = Vk (k + 1) := by
  unfold putV
  rw [(fullH_f k).1]
  show (fullL k ++ [fullH k], List.replicate k (zeros 80) ++ [zeros 80]) :: List.replicate 5 ([], []) = Vk (k + 1)
  unfold Vk
  rw [fullL_snoc, show List.replicate (k + 1) (zeros 80) = List.replicate k (zeros 80) ++ [zeros 80] from List.replicate_succ']
theorem Vk_len {k : Nat} (hk : k ≤ 400) : ∀ c ∈ Vk k, c.1.length < 1000 := fun c hc => by
  rcases List.mem_cons.1 hc with rfl | hc
  · show (fullL k).length < 1000; rw [fullL_len]; omega
  · rw [(List.mem_replicate.1 hc).2]; decide
/-- the pieces handed in -/
def HaveF (v : Value) (k : Nat) (E : List (Nat × Obj)) : Prop :=
  ∃ g EH ET, E = EH ++ ET ∧ Own 126 37 v k g EH ∧ ∀ i, i < k → ∃ b, (∀ j, j < 126 → g (126 * i + j) = pF (fullH i) (.slice none 0 0) (.slice (some ⟨b, 0, none⟩) 80 80) j) ∧ (b, blk 80 (fun _ => nB 0) 5) ∈ ET
theorem HaveF.nil : HaveF (.slice none 0 0) 0 [] := ⟨fun _ => nB 0, [], [], rfl, Own.nil, fun i hi => by omega⟩
theorem HaveF.snoc {k b : Nat} {v : Value} {g : Nat → Value} {EH ET : List (Nat × Obj)} (hown : Own 126 37 v (k + 1) (glue (k * 126) g (pF (fullH k) (.slice none 0 0) (.slice (some ⟨b, 0, none⟩) 80 80))) EH)
    (hel : ∀ i, i < k → ∃ b, (∀ j, j < 126 → g (126 * i + j) = pF (fullH i) (.slice none 0 0) (.slice (some ⟨b, 0, none⟩) 80 80) j) ∧ (b, blk 80 (fun _ => nB 0) 5) ∈ ET) :
    HaveF v (k + 1) (EH ++ ((b, blk 80 (fun _ => nB 0) 5) :: ET)) := by
  refine ⟨_, EH, _, rfl, hown, fun i hi => ?_⟩
  by_cases c : i < k
  · obtain ⟨b', h1, h2⟩ := hel i c
    exact ⟨b', fun j hj => by unfold glue; rw [if_pos (by omega)]; exact h1 j hj, List.mem_cons_of_mem _ h2⟩
  · obtain rfl : i = k := by omega
    exact ⟨b, fun j hj => by unfold glue; rw [if_neg (by omega)]; congr 1; omega, List.mem_cons_self ..⟩
theorem ask_full : askI (Vk 400) 400 qH (zeros 80) = 4 := by
  have hf : formed qH = true := by unfold formed placed qH Hdr.setM; decide
  have hw : wholeB qH (zeros 80) = true := by unfold wholeB; have : (zeros 80).length = 80 := by simp [zeros]
                                              rw [this]; simp [qH, Hdr.setM, zsum]
  unfold askI
  rw [if_pos hf]
  show (if askOf 2 [] qH = 0 then (if wholeB qH (zeros 80) = true then (if (400 : Int) ≤ 400 then 4 else 0) else 2) else askOf 2 [] qH) = 4
  rw [if_pos qH_ask, if_pos hw, if_pos (by decide)]
theorem ask_bad : askI (Vk 400) 400 qH [] = 2 := by
  have hf : formed qH = true := by unfold formed placed qH Hdr.setM; decide
  have hw : wholeB qH [] = false := by unfold wholeB; rfl
  unfold askI
  rw [if_pos hf]
  show (if askOf 2 [] qH = 0 then (if wholeB qH [] = true then (if (400 : Int) ≤ 400 then 4 else 0) else 2) else askOf 2 [] qH) = 2
  rw [if_pos qH_ask, hw, if_neg (by decide)]
theorem ask_old {x : Nat} (hx : x < 400) : askI (Vk 400) 400 (fullH x) (zeros 80) = 13 := by
  unfold askI
  rw [if_pos (fullH_formed (by omega)), (fullH_f x).1]
  show (if askOf 1 (fullL 400) (fullH x) = 0 then _ else askOf 1 (fullL 400) (fullH x)) = (13 : Int)
  rw [full_old hx (by decide), if_neg (by decide)]
/-- the base of qH -/
def qB : Hdr := { zH with writer := 2, seq := 1, size := 80 }
set_option maxRecDepth 100000 in
set_option maxHeartbeats 8000000 in
theorem indexFull_any (x : Nat) (hx : x < 256) (W : World) (hK : Has W 0 64 (wF Sha.K)) (hK1 : Has W 1 64 (wF Sha.K)) : Ret Tryd.prog 3 #[.int .u8 (x : Int)] W fun v' w' => v' = .bool true ∧ St W [] [] w' := by
  have HK0 : Hid (∀ L w', St W [] L w' → Has w' 0 64 (wF Sha.K)) := by show ∀ _ _ _, _; exact fun L w' h => hK.keep h.none
  have HK1 : Hid (∀ L w', St W [] L w' → Has w' 1 64 (wF Sha.K)) := by show ∀ _ _ _, _; exact fun L w' h => hK1.keep h.none
  clear hK hK1
  go_enter Tryd.func3, Tryd.ntmps3
  have hst := St.refl W
  go_wp2_with (first
      | ((with_reducible refine at_d 9 ?_); go_loud (refine wl_call pl8 rfl rfl rfl (inew_any _) ?_; rintro v9 w9 ⟨bx, E, rfl, hix, hst9⟩; replace hst := hst.call hst9; clear hst9; (try simp only [List.append_nil] at hst)))
      | ((with_reducible refine at_d 10 ?_); go_loud (refine wl_call pl9 rfl rfl rfl (awake_any _ (HK0.out _ _ hst) (HK1.out _ _ hst)) ?_; rintro v10 w10 ⟨rfl, hst10⟩; replace hst := hst.call hst10; clear hst10; (try simp only [List.nil_append] at hst))))
  go_loopw [4, 5] (fun v4 i wq => ∃ (k : Nat) (E Eh : List (Nat × Obj)), k ≤ 400 ∧ i = .int .i64 (k : Int) ∧ IdxO 72 bx (Vk k) (k : Int) E ∧ HaveF v4 k Eh ∧ St W [] (E ++ Eh) wq) (fun _ i _ => 400 - (intOf i).toNat)
  case atStart => exact ⟨0, E, [], by omega, rfl, hix, HaveF.nil, by simpa using hst⟩
  case round =>
    clear hst hix
    obtain ⟨k, E, Eh, hk, rfl, hix, hhv, hst⟩ := hrel
    by_cases hk4 : k < 400
    · have HVL : Hid (∀ c ∈ Vk k, c.1.length < 1000) := Vk_len (by omega)
      have HA : Hid (askI (Vk k) (k : Int) (fullH k) (zeros 80) = 0) := full_put hk4 hk4 rfl
      have HBH : Hid (Tryd.prog.built 34 [(0, .int .i64 1), (1, .int .u64 ((k : Int) + 1)), (10, .int .i64 80)] = some (row 125 (hF (fH0 k) (.slice none 0 0)))) := by show _ = _; kernel_rfl
      obtain ⟨g, EH, ET, rfl, hown, hel⟩ := hhv
      have HEL := Lib.hid hel
      have hown0 := hown
      obtain ⟨ad4, c4, rfl, hc4, hm4, _⟩ := hown0.slice
      unfold maxLen at hm4
      clear hel hown0
      by_cases hk0 : k = 0
      · have HEQ : Hid ((((fH0 k).setK 0 k)).setM (Sha.sha (zeros 80)) = fullH k) := by show _ = _; rw [hk0]; rfl
        have hk1 : k ≤ 0 := by omega
        clear hk0
        go_wp2_with (first
      | ((with_reducible refine at_d 13 ?_); go_loud (refine wl_cmp (p := (k : Int)) (q := 400) (by first | exact decide_eq_true (by omega) | exact decide_eq_false (by omega)) rfl rfl rfl rfl rfl (hk := ?_)))
      | ((with_reducible refine at_d 17 ?_); go_loud (refine wl_ari (p := (k : Int)) (q := 1) (r := ((k : Int) + 1)) (k := .i64) (by simp only [ariI] <;> omega) (by show _ ∧ _; omega) rfl rfl rfl rfl rfl (hk := ?_)))
      | ((with_reducible refine at_d 19 ?_); go_loud (refine wl_buildC (f := hF (fH0 k) (.slice none 0 0)) HBH.out rfl rfl rfl (hk := ?_)))
      | ((with_reducible refine at_d 20 ?_); go_loud (refine wl_make80 rfl rfl elt35 hst (hk := ?_); clear hst; intro b20 w20 hb20 hst))
      | ((with_reducible refine at_d 21 ?_); go_loud (refine wl_buildC (f := pF (fH0 k) (.slice none 0 0) (.slice (some ⟨b20, 0, none⟩) 80 80)) (pbuilt _ _ _ _ _) rfl rfl rfl (hk := ?_)))
      | ((with_reducible refine at_d 6 ?_); go_loud (refine wl_alloc rfl rfl hst zer37 ?_; clear hst; intro b6 w6 hb6 hst))
      | ((with_reducible refine at_n (.store 37 (.tmp 6) (.tmp 21)) ?_); go_loud (refine wl_storeAll rfl rfl rfl rfl (hs := agg37) (hv := fun j _ => pF_one _ _ _ (hF_one _ _ rfl) rfl j) (hk := ?_); clear hst; intro w1 hst))
      | ((with_reducible refine at_d 23 ?_); go_loud (refine wl_cmp (p := (k : Int)) (q := 0) (by first | exact decide_eq_true (by omega) | exact decide_eq_false (by omega)) rfl rfl rfl rfl rfl (hk := ?_)))
      | ((with_reducible refine at_d 35 ?_); go_loud (refine wl_fld (r := 0) fld37_0 rfl rfl rfl rfl (hk := ?_)))
      | ((with_reducible refine at_d 36 ?_); go_loud (refine wl_fld (r := 54) fld34_8 rfl rfl rfl rfl (hk := ?_)))
      | ((with_reducible refine at_d 37 ?_); go_loud (refine wl_idxA (i := 0) Tryd.underlying32 sc12.size (by decide) rfl rfl rfl rfl (hk := ?_)))
      | ((with_reducible refine at_n (.store 26 (.tmp 37) (.tmp 34)) ?_); go_loud (refine wl_store1 rfl rfl rfl (hs := sc12) (hk := ?_); clear hst; intro w1 hst; rw [pF_upd (by decide) (hF_k _ _ 0 k (by decide) rfl 0)] at hst))
      | ((with_reducible refine at_d 38 ?_); go_loud (refine wl_fld (r := 125) fld37_1 rfl rfl rfl rfl (hk := ?_)))
      | ((with_reducible refine at_d 39 ?_); go_loud (refine wl_load1v rfl rfl rfl (hs := sc35) (hk := ?_)))
      | ((with_reducible refine at_d 40 ?_); go_loud (refine wl_call pl11 rfl rfl rfl (refsum_any _ (zeros 80) _ (zeros_bs (hst.own (b20, blk 80 (fun _ => nB 0) 5) (by simp))) (by simp [zeros]) (HK0.out _ _ hst)) ?_; rintro v40 w40 ⟨rfl, hst40⟩; replace hst := hst.call hst40; clear hst40; (try simp only [List.nil_append] at hst)))
      | ((with_reducible refine at_d 41 ?_); go_loud (refine wl_fld (r := 0) fld37_0 rfl rfl rfl rfl (hk := ?_)))
      | ((with_reducible refine at_d 42 ?_); go_loud (refine wl_fld (r := 60) fld34_9 rfl rfl rfl rfl (hk := ?_)))
      | ((with_reducible refine at_n (.store 28 (.tmp 42) (.tmp 40)) ?_); go_loud (refine wl_storeN rfl rfl rfl rfl (hs := agg28) (hv := by intro j hj; rfl) (hk := ?_); clear hst; intro w1 hst; rw [pF_blit (by decide) (hF_m _ _ _ 0)] at hst; (try rw [HEQ.out] at hst)))
      | ((with_reducible refine at_d 44 ?_); go_loud ((first | (refine wl_loadAll rfl rfl rfl (hs := agg37) (hk := ?_)) | (refine wl_loadN rfl rfl rfl (hs := agg37) (hk := ?_)))))
      | ((with_reducible refine at_d 45 ?_); go_loud (refine wl_call pl12 rfl rfl rfl (iput_own hix (L := (b6, blk 126 (pF (fullH k) (.slice none 0 0) (.slice (some ⟨b20, 0, none⟩) 80 80)) 37) :: (b20, blk 80 (fun _ => nB 0) 5) :: (EH ++ ET)) (hst.perm (perm_count (fun c d ha hc h0 => by simp only [ha, hc]; omega))) (fullH_ok (by omega)) (fullH_f k).2.2.2.2.2.2.1 (by simp [zeros]) zeros_lt80 (HVL.out) (by omega) (fun w' hL => zeros_bs (hL (b20, blk 80 (fun _ => nB 0) 5) (by simp))) HK1.out) ?_; rintro v45 w45 ⟨rfl, E45, hix45, hst45⟩; clear hst; have hst : St W [] ((b6, blk 126 (pF (fullH k) (.slice none 0 0) (.slice (some ⟨b20, 0, none⟩) 80 80)) 37) :: (b20, blk 80 (fun _ => nB 0) 5) :: (E45 ++ (EH ++ ET))) w45 := hst45.perm (perm_count (fun c d ha hc h0 => by simp only [ha, hc]; omega)); clear hst45; rw [HA.out] at hix45 ⊢; simp only [if_true] at hix45))
      | ((with_reducible refine at_d 48 ?_); go_loud ((first | (refine wl_loadAll rfl rfl rfl (hs := agg37) (hk := ?_)) | (refine wl_loadN rfl rfl rfl (hs := agg37) (hk := ?_)))))
      | ((with_reducible refine at_d 49 ?_); go_loud (refine wl_buildSlice1 rfl rfl elt24 (by decide) (by (conv => lhs; whnf) <;> rfl) (by first | exact row_one _ | rfl) hst ?_; clear hst; intro b49 w49 hb49 hst))
      | ((with_reducible refine at_d 50 ?_); go_loud (refine wl_append rfl rfl elt24 rfl rfl hown (L := (b49, blk 126 (pF (fullH k) (.slice none 0 0) (.slice (some ⟨b20, 0, none⟩) 80 80)) 37) :: (E45 ++ ((b6, blk 126 (pF (fullH k) (.slice none 0 0) (.slice (some ⟨b20, 0, none⟩) 80 80)) 37) :: (b20, blk 80 (fun _ => nB 0) 5) :: ET))) (h := pF (fullH k) (.slice none 0 0) (.slice (some ⟨b20, 0, none⟩) 80 80)) (hst.perm (perm_count (fun c d ha hc h0 => by simp only [ha, hc]; omega))) (.inr ⟨b49, 0, 126, _, rfl, hst.hasb Pick.head, by omega, fun j _ => by rw [Nat.zero_add]⟩) (by intro h; cases h) (fun j _ => pF_one _ _ _ (hF_one _ _ rfl) rfl j) (by omega) (by unfold maxLen; omega) ?_; intro v50 w50 E50 hown50 hst50 _; clear hst; have hst := hst50; clear hst50)))
        go_roundw
        case rel => exact ⟨k + 1, _, _, by omega, by go_num, by rw [← Vk_put]; exact hix45, HaveF.snoc hown50 HEL.out, hst.resh [(b49, blk 126 (pF (fullH k) (.slice none 0 0) (.slice (some ⟨b20, 0, none⟩) 80 80)) 37), (b6, blk 126 (pF (fullH k) (.slice none 0 0) (.slice (some ⟨b20, 0, none⟩) 80 80)) 37)] (perm_count (fun c d ha hc h0 => by simp only [ha, hc, h0]; omega))⟩
        case measure => simp [intOf]; omega
      · obtain ⟨y, hy⟩ : ∃ y, k = y + 1 := ⟨k - 1, by omega⟩
        have HEQ : Hid (((((fH0 k).setP (hashB (fullH y))).setK 0 k)).setM (Sha.sha (zeros 80)) = fullH k) := by show _ = _; rw [hy]; rfl
        have hy1 : k ≤ y + 1 := by omega
        have hy2 : y + 1 ≤ k := by omega
        rcases hown with ⟨_, hz, _⟩ | ⟨bp, cap, fp, e, hcc, hcm2, hEH, hfp⟩
        · omega
        simp only [Value.slice.injEq] at e
        obtain ⟨rfl, -, rfl⟩ := e
        subst hEH
        have hown : Own 126 37 (.slice (some ⟨bp, 0, none⟩) k c4) k g [(bp, blk (c4 * 126) fp 37)] := .inr ⟨bp, c4, fp, rfl, hcc, hcm2, rfl, hfp⟩
        obtain ⟨bb, hcell, _⟩ := HEL.out y (by omega)
        have HCE : Hid (∀ j, j < 125 → fp (0 + 126 * y + 0 + j) = hF (fullH y) (.slice none 0 0) j) := by
          show ∀ j, _
          intro j hj
          rw [show 0 + 126 * y + 0 + j = 126 * y + j by omega, hfp _ (by omega), hcell j (by omega)]
          have := pF_hdr (fullH y) (.slice none 0 0) (.slice (some ⟨bb, 0, none⟩) 80 80) j hj
          rw [Nat.zero_add] at this
          exact this
        have HT : Hid (∀ w', Toks w' (.slice none 0 0) (fullH y).toks) := by
          show ∀ _, _
          intro w'
          rw [(fullH_f y).2.2.2.2.2.2.1]
          exact Toks.nil
        clear hy hk0 hcell hfp
        go_wp2_with (first
      | ((with_reducible refine at_d 13 ?_); go_loud (refine wl_cmp (p := (k : Int)) (q := 400) (by first | exact decide_eq_true (by omega) | exact decide_eq_false (by omega)) rfl rfl rfl rfl rfl (hk := ?_)))
      | ((with_reducible refine at_d 17 ?_); go_loud (refine wl_ari (p := (k : Int)) (q := 1) (r := ((k : Int) + 1)) (k := .i64) (by simp only [ariI] <;> omega) (by show _ ∧ _; omega) rfl rfl rfl rfl rfl (hk := ?_)))
      | ((with_reducible refine at_d 19 ?_); go_loud (refine wl_buildC (f := hF (fH0 k) (.slice none 0 0)) HBH.out rfl rfl rfl (hk := ?_)))
      | ((with_reducible refine at_d 20 ?_); go_loud (refine wl_make80 rfl rfl elt35 hst (hk := ?_); clear hst; intro b20 w20 hb20 hst))
      | ((with_reducible refine at_d 21 ?_); go_loud (refine wl_buildC (f := pF (fH0 k) (.slice none 0 0) (.slice (some ⟨b20, 0, none⟩) 80 80)) (pbuilt _ _ _ _ _) rfl rfl rfl (hk := ?_)))
      | ((with_reducible refine at_d 6 ?_); go_loud (refine wl_alloc rfl rfl hst zer37 ?_; clear hst; intro b6 w6 hb6 hst))
      | ((with_reducible refine at_n (.store 37 (.tmp 6) (.tmp 21)) ?_); go_loud (refine wl_storeAll rfl rfl rfl rfl (hs := agg37) (hv := fun j _ => pF_one _ _ _ (hF_one _ _ rfl) rfl j) (hk := ?_); clear hst; intro w1 hst))
      | ((with_reducible refine at_d 23 ?_); go_loud (refine wl_cmp (p := (k : Int)) (q := 0) (by first | exact decide_eq_true (by omega) | exact decide_eq_false (by omega)) rfl rfl rfl rfl rfl (hk := ?_)))
      | ((with_reducible refine at_d 26 ?_); go_loud (refine wl_ari (p := (k : Int)) (q := 1) (r := (y : Int)) (k := .i64) (by simp only [ariI] <;> omega) (by show _ ∧ _; omega) rfl rfl rfl rfl rfl (hk := ?_)))
      | ((with_reducible refine at_d 27 ?_); go_loud (refine wl_idx (i := y) Tryd.underlying24 (z := 126) (by kernel_rfl) (by omega) rfl rfl rfl rfl (hk := ?_)))
      | ((with_reducible refine at_d 28 ?_); go_loud (refine wl_fld fld37_0 rfl rfl rfl rfl (hk := ?_)))
      | ((with_reducible refine at_d 29 ?_); go_loud (refine wl_loadP rfl rfl rfl (hb := ⟨_, _, hst.own (bp, blk (c4 * 126) fp 37) (by simp)⟩) (hs := agg34) (hi := by omega) (hv := HCE.out) (hk := ?_)))
      | ((with_reducible refine at_d 30 ?_); go_loud (refine wl_call pl10 rfl rfl rfl (hash_any (fullH y) _ _ (fullH_ok (by omega)) (HT.out _) (HK1.out _ _ hst)) ?_; rintro v30 w30 ⟨rfl, hst30⟩; replace hst := hst.call hst30; clear hst30; (try simp only [List.nil_append] at hst)))
      | ((with_reducible refine at_d 31 ?_); go_loud (refine wl_fld (r := 0) fld37_0 rfl rfl rfl rfl (hk := ?_)))
      | ((with_reducible refine at_d 32 ?_); go_loud (refine wl_fld (r := 2) fld34_2 rfl rfl rfl rfl (hk := ?_)))
      | ((with_reducible refine at_n (.store 28 (.tmp 32) (.tmp 30)) ?_); go_loud (refine wl_storeN rfl rfl rfl rfl (hs := agg28) (hv := by intro j hj; rfl) (hk := ?_); clear hst; intro w1 hst; rw [pF_blit (by decide) (hF_p _ _ _ 0)] at hst))
      | ((with_reducible refine at_d 35 ?_); go_loud (refine wl_fld (r := 0) fld37_0 rfl rfl rfl rfl (hk := ?_)))
      | ((with_reducible refine at_d 36 ?_); go_loud (refine wl_fld (r := 54) fld34_8 rfl rfl rfl rfl (hk := ?_)))
      | ((with_reducible refine at_d 37 ?_); go_loud (refine wl_idxA (i := 0) Tryd.underlying32 sc12.size (by decide) rfl rfl rfl rfl (hk := ?_)))
      | ((with_reducible refine at_n (.store 26 (.tmp 37) (.tmp 34)) ?_); go_loud (refine wl_store1 rfl rfl rfl (hs := sc12) (hk := ?_); clear hst; intro w1 hst; rw [pF_upd (by decide) (hF_k _ _ 0 k (by decide) rfl 0)] at hst))
      | ((with_reducible refine at_d 38 ?_); go_loud (refine wl_fld (r := 125) fld37_1 rfl rfl rfl rfl (hk := ?_)))
      | ((with_reducible refine at_d 39 ?_); go_loud (refine wl_load1v rfl rfl rfl (hs := sc35) (hk := ?_)))
      | ((with_reducible refine at_d 40 ?_); go_loud (refine wl_call pl11 rfl rfl rfl (refsum_any _ (zeros 80) _ (zeros_bs (hst.own (b20, blk 80 (fun _ => nB 0) 5) (by simp))) (by simp [zeros]) (HK0.out _ _ hst)) ?_; rintro v40 w40 ⟨rfl, hst40⟩; replace hst := hst.call hst40; clear hst40; (try simp only [List.nil_append] at hst)))
      | ((with_reducible refine at_d 41 ?_); go_loud (refine wl_fld (r := 0) fld37_0 rfl rfl rfl rfl (hk := ?_)))
      | ((with_reducible refine at_d 42 ?_); go_loud (refine wl_fld (r := 60) fld34_9 rfl rfl rfl rfl (hk := ?_)))
      | ((with_reducible refine at_n (.store 28 (.tmp 42) (.tmp 40)) ?_); go_loud (refine wl_storeN rfl rfl rfl rfl (hs := agg28) (hv := by intro j hj; rfl) (hk := ?_); clear hst; intro w1 hst; rw [pF_blit (by decide) (hF_m _ _ _ 0)] at hst; (try rw [HEQ.out] at hst)))
      | ((with_reducible refine at_d 44 ?_); go_loud ((first | (refine wl_loadAll rfl rfl rfl (hs := agg37) (hk := ?_)) | (refine wl_loadN rfl rfl rfl (hs := agg37) (hk := ?_)))))
      | ((with_reducible refine at_d 45 ?_); go_loud (refine wl_call pl12 rfl rfl rfl (iput_own hix (L := (b6, blk 126 (pF (fullH k) (.slice none 0 0) (.slice (some ⟨b20, 0, none⟩) 80 80)) 37) :: (b20, blk 80 (fun _ => nB 0) 5) :: ([(bp, blk (c4 * 126) fp 37)] ++ ET)) (hst.perm (perm_count (fun c d ha hc h0 => by simp only [ha, hc, h0]; omega))) (fullH_ok (by omega)) (fullH_f k).2.2.2.2.2.2.1 (by simp [zeros]) zeros_lt80 (HVL.out) (by omega) (fun w' hL => zeros_bs (hL (b20, blk 80 (fun _ => nB 0) 5) (by simp))) HK1.out) ?_; rintro v45 w45 ⟨rfl, E45, hix45, hst45⟩; clear hst; have hst : St W [] ((b6, blk 126 (pF (fullH k) (.slice none 0 0) (.slice (some ⟨b20, 0, none⟩) 80 80)) 37) :: (b20, blk 80 (fun _ => nB 0) 5) :: (E45 ++ ([(bp, blk (c4 * 126) fp 37)] ++ ET))) w45 := hst45.perm (perm_count (fun c d ha hc h0 => by simp only [ha, hc, h0]; omega)); clear hst45; rw [HA.out] at hix45 ⊢; simp only [if_true] at hix45))
      | ((with_reducible refine at_d 48 ?_); go_loud ((first | (refine wl_loadAll rfl rfl rfl (hs := agg37) (hk := ?_)) | (refine wl_loadN rfl rfl rfl (hs := agg37) (hk := ?_)))))
      | ((with_reducible refine at_d 49 ?_); go_loud (refine wl_buildSlice1 rfl rfl elt24 (by decide) (by (conv => lhs; whnf) <;> rfl) (by first | exact row_one _ | rfl) hst ?_; clear hst; intro b49 w49 hb49 hst))
      | ((with_reducible refine at_d 50 ?_); go_loud (refine wl_append rfl rfl elt24 rfl rfl hown (L := (b49, blk 126 (pF (fullH k) (.slice none 0 0) (.slice (some ⟨b20, 0, none⟩) 80 80)) 37) :: (E45 ++ ((b6, blk 126 (pF (fullH k) (.slice none 0 0) (.slice (some ⟨b20, 0, none⟩) 80 80)) 37) :: (b20, blk 80 (fun _ => nB 0) 5) :: ET))) (h := pF (fullH k) (.slice none 0 0) (.slice (some ⟨b20, 0, none⟩) 80 80)) (hst.perm (perm_count (fun c d ha hc h0 => by simp only [ha, hc]; omega))) (.inr ⟨b49, 0, 126, _, rfl, hst.hasb Pick.head, by omega, fun j _ => by rw [Nat.zero_add]⟩) (by intro h; cases h) (fun j _ => pF_one _ _ _ (hF_one _ _ rfl) rfl j) (by omega) (by unfold maxLen; omega) ?_; intro v50 w50 E50 hown50 hst50 _; clear hst; have hst := hst50; clear hst50)))
        go_roundw
        case rel => exact ⟨k + 1, _, _, by omega, by go_num, by rw [← Vk_put]; exact hix45, HaveF.snoc hown50 HEL.out, hst.resh [(b49, blk 126 (pF (fullH k) (.slice none 0 0) (.slice (some ⟨b20, 0, none⟩) 80 80)) 37), (b6, blk 126 (pF (fullH k) (.slice none 0 0) (.slice (some ⟨b20, 0, none⟩) 80 80)) 37)] (perm_count (fun c d ha hc h0 => by simp only [ha, hc, h0]; omega))⟩
        case measure => simp [intOf]; omega
    · obtain rfl : k = 400 := by omega
      replace hix : IdxO 72 bx (Vk 400) 400 E := hix
      have HVL : Hid (∀ c ∈ Vk 400, c.1.length < 1000) := Vk_len (by omega)
      have HQ4 : Hid (askI (Vk 400) 400 qH (zeros 80) = 4) := ask_full
      have HQ2 : Hid (askI (Vk 400) 400 qH [] = 2) := ask_bad
      have HQ13 : Hid (askI (Vk 400) 400 (fullH x) (zeros 80) = 13) := ask_old (by omega)
      have HBQ : Hid (Tryd.prog.built 34 [(0, .int .i64 2), (1, .int .u64 1), (10, .int .i64 80)] = some (row 125 (hF qB (.slice none 0 0)))) := by show _ = _; kernel_rfl
      have HEQ : Hid (qB.setM (Sha.sha (zeros 80)) = qH) := rfl
      obtain ⟨g, EH, ET, rfl, hown, hel⟩ := hhv
      rcases hown with ⟨_, hz, _⟩ | ⟨bp, cap, fp, rfl, hcc, hcm2, rfl, hfp⟩
      · omega
      obtain ⟨bb, hcell, hmb⟩ := hel x (by omega)
      have HMB := Lib.hid hmb
      have HCX : Hid (∀ j, j < 126 → fp (0 + 126 * x + j) = pF (fullH x) (.slice none 0 0) (.slice (some ⟨bb, 0, none⟩) 80 80) j) := by
        show ∀ j, _
        intro j hj
        rw [show 0 + 126 * x + j = 126 * x + j by omega, hfp _ (by omega), hcell j hj]
      clear hel hcell hmb hfp
      simp only [List.cons_append, List.nil_append] at hst
      go_wp2_with (first
      | go_skip
      | ((with_reducible refine at_d 13 ?_); go_loud (refine wl_cmp (p := 400) (q := 400) (by first | exact decide_eq_true (by omega) | exact decide_eq_false (by omega)) rfl rfl rfl rfl rfl (hk := ?_)))
      | ((with_reducible refine at_d 51 ?_); go_loud (refine wl_buildC (f := hF qB (.slice none 0 0)) HBQ.out rfl rfl rfl (hk := ?_)))
      | ((with_reducible refine at_d 52 ?_); go_loud (refine wl_make80 rfl rfl elt35 hst (hk := ?_); clear hst; intro b52 w52 hb52 hst))
      | ((with_reducible refine at_d 53 ?_); go_loud (refine wl_buildC (f := pF qB (.slice none 0 0) (.slice (some ⟨b52, 0, none⟩) 80 80)) (pbuilt _ _ _ _ _) rfl rfl rfl (hk := ?_)))
      | ((with_reducible refine at_d 7 ?_); go_loud (refine wl_alloc rfl rfl hst zer37 ?_; clear hst; intro b7 w7 hb7 hst))
      | ((with_reducible refine at_n (.store 37 (.tmp 7) (.tmp 53)) ?_); go_loud (refine wl_storeAll rfl rfl rfl rfl (hs := agg37) (hv := fun j _ => pF_one _ _ _ (hF_one _ _ rfl) rfl j) (hk := ?_); clear hst; intro w1 hst))
      | ((with_reducible refine at_d 54 ?_); go_loud (refine wl_fld (r := 125) fld37_1 rfl rfl rfl rfl (hk := ?_)))
      | ((with_reducible refine at_d 55 ?_); go_loud (refine wl_load1v rfl rfl rfl (hs := sc35) (hk := ?_)))
      | ((with_reducible refine at_d 56 ?_); go_loud (refine wl_call pl11 rfl rfl rfl (refsum_any _ (zeros 80) _ (zeros_bs (hst.own (b52, blk 80 (fun _ => nB 0) 5) (by simp))) (by simp [zeros]) (HK0.out _ _ hst)) ?_; rintro v56 w56 ⟨rfl, hst56⟩; replace hst := hst.call hst56; clear hst56; (try simp only [List.nil_append] at hst)))
      | ((with_reducible refine at_d 57 ?_); go_loud (refine wl_fld (r := 0) fld37_0 rfl rfl rfl rfl (hk := ?_)))
      | ((with_reducible refine at_d 58 ?_); go_loud (refine wl_fld (r := 60) fld34_9 rfl rfl rfl rfl (hk := ?_)))
      | ((with_reducible refine at_n (.store 28 (.tmp 58) (.tmp 56)) ?_); go_loud (refine wl_storeN rfl rfl rfl rfl (hs := agg28) (hv := by intro j hj; rfl) (hk := ?_); clear hst; intro w1 hst; rw [pF_blit (by decide) (hF_m _ _ _ 0)] at hst; (try rw [HEQ.out] at hst)))
      | ((with_reducible refine at_d 59 ?_); go_loud ((first | (refine wl_loadAll rfl rfl rfl (hs := agg37) (hk := ?_)) | (refine wl_loadN rfl rfl rfl (hs := agg37) (hk := ?_)))))
      | ((with_reducible refine at_d 8 ?_); go_loud (refine wl_alloc rfl rfl hst zer37 ?_; clear hst; intro b8 w8 hb8 hst))
      | ((with_reducible refine at_n (.store 37 (.tmp 8) (.tmp 59)) ?_); go_loud (refine wl_storeAll rfl rfl rfl rfl (hs := agg37) (hv := fun j _ => pF_one _ _ _ (hF_one _ _ rfl) rfl j) (hk := ?_); clear hst; intro w1 hst))
      | ((with_reducible refine at_d 60 ?_); go_loud (refine wl_fld (r := 125) fld37_1 rfl rfl rfl rfl (hk := ?_)))
      | ((with_reducible refine at_n (.store 35 (.tmp 60) (_)) ?_); go_loud (refine wl_store1 rfl rfl rfl (hs := sc35) (hk := ?_); clear hst; intro w1 hst; rw [pF_body] at hst))
      | ((with_reducible refine at_d 62 ?_); go_loud ((first | (refine wl_loadAll rfl rfl rfl (hs := agg37) (hk := ?_)) | (refine wl_loadN rfl rfl rfl (hs := agg37) (hk := ?_)))))
      | ((with_reducible refine at_d 63 ?_); go_loud (refine wl_call pl12 rfl rfl rfl (iput_own hix (L := (b8, blk 126 (pF qH (.slice none 0 0) (.slice none 0 0)) 37) :: (b7, blk 126 (pF qH (.slice none 0 0) (.slice (some ⟨b52, 0, none⟩) 80 80)) 37) :: (b52, blk 80 (fun _ => nB 0) 5) :: (bp, blk (cap * 126) fp 37) :: ET) (hst.perm (perm_count (fun c d ha hc h0 => by simp only [ha, hc]; omega))) qH_ok rfl (by simp [zeros]) zeros_lt80 HVL.out (by decide) (fun w' hL => zeros_bs (hL (b52, blk 80 (fun _ => nB 0) 5) (by simp))) HK1.out) ?_; rintro v63 w63 ⟨rfl, E63, hix63, hst63⟩; clear hst; have hst : St W [] ((b8, blk 126 (pF qH (.slice none 0 0) (.slice none 0 0)) 37) :: (b7, blk 126 (pF qH (.slice none 0 0) (.slice (some ⟨b52, 0, none⟩) 80 80)) 37) :: (b52, blk 80 (fun _ => nB 0) 5) :: (bp, blk (cap * 126) fp 37) :: (E63 ++ ET)) w63 := hst63.perm (perm_count (fun c d ha hc h0 => by simp only [ha, hc]; omega)); clear hst63; rw [HQ4.out] at hix63 ⊢; rw [if_neg (by decide), if_neg (by decide)] at hix63; clear hix; have hix := hix63; clear hix63))
      | ((with_reducible refine at_d 67 ?_); ((first | (refine wl_loadAll rfl rfl rfl (hs := agg37) (hk := ?_)) | (refine wl_loadN rfl rfl rfl (hs := agg37) (hk := ?_)))))
      | ((with_reducible refine at_d 68 ?_); (refine wl_call pl12 rfl rfl rfl (iput_own hix (L := (b8, blk 126 (pF qH (.slice none 0 0) (.slice none 0 0)) 37) :: (b7, blk 126 (pF qH (.slice none 0 0) (.slice (some ⟨b52, 0, none⟩) 80 80)) 37) :: (b52, blk 80 (fun _ => nB 0) 5) :: (bp, blk (cap * 126) fp 37) :: ET) (hst.perm (perm_count (fun c d ha hc h0 => by simp only [ha, hc]; omega))) qH_ok rfl (by simp) (fun _ h => absurd h (by simp)) HVL.out (by decide) (fun w' hL => Bs.nil (by simp [maxLen]) (fun _ => rfl)) HK1.out) ?_; rintro v68 w68 ⟨rfl, E68, hix68, hst68⟩; clear hst; have hst : St W [] ((b8, blk 126 (pF qH (.slice none 0 0) (.slice none 0 0)) 37) :: (b7, blk 126 (pF qH (.slice none 0 0) (.slice (some ⟨b52, 0, none⟩) 80 80)) 37) :: (b52, blk 80 (fun _ => nB 0) 5) :: (bp, blk (cap * 126) fp 37) :: (E68 ++ ET)) w68 := hst68.perm (perm_count (fun c d ha hc h0 => by simp only [ha, hc]; omega)); clear hst68; rw [HQ2.out] at hix68 ⊢; rw [if_neg (by decide), if_neg (by decide)] at hix68; clear hix; have hix := hix68; clear hix68))
      | ((with_reducible refine at_d 76 ?_); (refine wl_idx (i := x) Tryd.underlying24 (z := 126) (by kernel_rfl) (by omega) rfl rfl rfl rfl (hk := ?_)))
      | ((with_reducible refine at_d 77 ?_); (refine wl_loadP rfl rfl rfl (hb := ⟨_, _, hst.own (bp, blk (cap * 126) fp 37) (by simp)⟩) (hs := agg37) (hi := by omega) (hv := HCX.out) (hk := ?_)))
      | ((with_reducible refine at_d 78 ?_); (refine wl_call pl12 rfl rfl rfl (iput_own hix (L := (b8, blk 126 (pF qH (.slice none 0 0) (.slice none 0 0)) 37) :: (b7, blk 126 (pF qH (.slice none 0 0) (.slice (some ⟨b52, 0, none⟩) 80 80)) 37) :: (b52, blk 80 (fun _ => nB 0) 5) :: (bp, blk (cap * 126) fp 37) :: ET) (hst.perm (perm_count (fun c d ha hc h0 => by simp only [ha, hc]; omega))) (fullH_ok (by omega)) (fullH_f x).2.2.2.2.2.2.1 (by simp [zeros]) zeros_lt80 HVL.out (by decide) (fun w' hL => zeros_bs (hL (bb, blk 80 (fun _ => nB 0) 5) (by simp [HMB.out]))) HK1.out) ?_; rintro v78 w78 ⟨rfl, E78, hix78, hst78⟩; clear hst; have hst : St W [] ((b8, blk 126 (pF qH (.slice none 0 0) (.slice none 0 0)) 37) :: (b7, blk 126 (pF qH (.slice none 0 0) (.slice (some ⟨b52, 0, none⟩) 80 80)) 37) :: (b52, blk 80 (fun _ => nB 0) 5) :: (bp, blk (cap * 126) fp 37) :: (E78 ++ ET)) w78 := hst78.perm (perm_count (fun c d ha hc h0 => by simp only [ha, hc]; omega)); clear hst78; rw [HQ13.out] at hix78 ⊢; rw [if_neg (by decide), if_neg (by decide)] at hix78; clear hix; have hix := hix78; clear hix78))
      | ((with_reducible refine at_d 83 ?_); (obtain ⟨cs, _, hE, _⟩ := id hix; refine wl_call pl13 rfl rfl rfl (count_any bx cs 400 _ ⟨_, _, hst.own (bx, blk 13 (iF cs 400) 72) (by simp [hE])⟩) ?_; rintro v83 w83 ⟨rfl, rfl⟩; clear hE)))
      go_ret
      exact ⟨_, rfl, rfl, hst.none⟩
end Go.Proofs.YthbobmpeaemdnaaDoor
namespace Go.Proofs.YthbobmpeaemdnaaDoor
open Go.ChangeShapes Go.WideShapes Go.ChangeAt Go.WideMaps Go.WideElems Go.RowKit Go.Jal

set_option maxRecDepth 100000 in
theorem indexFull_lifted (os : Os) (started : os.Started) (H : Type) (enc : TypeId × Value → H) :
    ReturnsInHanded {} Tryd.checked os 3 .any (fun w args => (Rows.indexFullSpec.pre enc Tryd.prog Tryd.f3 [] false w args ∧ laidMetH Tryd.prog laidK w) ∧ sizedMet enc Tryd.prog Tryd.f3 (OpenSpec.ofChange Rows.indexFullSpec) false w args)
      (Rows.indexFullSpec.post enc Tryd.prog Tryd.f3 false true false false) := by
  refine returnsInHanded_of_change_and (C := Tryd.checked) (X := fun w _ => laidMetH Tryd.prog laidK w) (fun _ _ _ hh h => h.of_heap hh) own started (by kernel_rfl) Tryd.func3
    (ChangeSpec.witness_shaped (enc := enc) (C := Tryd.checked) (os := os) (X := fun w _ => laidMetH Tryd.prog laidK w) false (World.doorLaid Tryd.prog 4000 os) #[.int .u8 0] 8 rfl (World.shaped_of_RefB (by kernel_rfl) (by kernel_rfl)) (by kernel_rfl) (by kernel_rfl) (by kernel_rfl) (door_met os _)) ?_
  intro W base args ds gs before hval0 hW _ _ hL _
  have hval : ∀ (j : Nat) t v, Tryd.f3.params[j]? = some t → args[j]? = some v → Value.okWide Tryd.prog W .any base t v := hval0
  have hW' := hW
  obtain ⟨p, q, hA0, hV, rfl, hfz, hnd⟩ := hW
  have hA : DataW.TrodAll enc Tryd.prog W 0 (fun _ => true) true Tryd.f3.params.toList args.toList ds p := hA0
  rw [Tryd.params3] at hA hval
  obtain ⟨v0, d0, rfl, rfl, h0⟩ := trodAll_one hA
  obtain ⟨rfl, rfl⟩ := trodVars_none hV
  have k0 := h0
  have lt0 : ∀ x ∈ p, x.block < W.heap.size := by obtain ⟨m, hm⟩ := k0; exact DataW.trod_lt m _ _ _ hm
  obtain ⟨n0, e0, _, _, hw0⟩ := open_int Tryd.underlying5 (hval 0 5 v0 rfl rfl) k0
  obtain ⟨m0, rfl, hm0⟩ := wf_u8 hw0
  subst e0
  have hcall := indexFull_any m0 hm0 W (of_laid hL).2 (of_laid hL).1
  clear hA0 hval0
  refine Calls.mono hcall ?_
  rintro e W' ⟨v', rfl, rfl, hst⟩
  have bel := hst.below
  exact ⟨_, rfl, _, _, _, [], _, [], hW', trodAll_mk1 (shut_bool Tryd.underlying4 _), trodAll_mk1 (Below.trod laidOut (by kernel_rfl) (of_decide_eq_true (by kernel_rfl)) k0 bel lt0), rfl, bel.frame _, fun h => by cases h⟩
theorem indexFull_row : Rows.IndexFullSaid :=
  OpenClaim.holds_of_wide 3 Tryd.f3 rfl rfl rfl rfl rfl rfl rfl ⟨rfl, rfl, rfl, rfl, rfl⟩ rfl rfl rfl rfl rfl (by kernel_rfl) Tryd.func3 (by kernel_rfl)
    (of_decide_eq_true (by kernel_rfl)) (by unfold Func.isWrapper; first | (rw [if_pos (by decide +kernel)]; kernel_rfl) | (rw [if_neg (by decide +kernel)]; exact ⟨rfl, rfl⟩))
    (fun os started H enc _ => indexFull_lifted os started H enc)
theorem indexFull_card : Rows.IndexFullCardSaid :=
  Claim7.holds_tied_plain_at .later [] [.data, .data] true (true, "96a5f09a169fac63f4fc7e06b7fa41ef20ac1a07bb0ef7d65b7e84a998f115e8") false
    indexFull_row (fun _ h => by cases h) (by kernel_rfl) (fun _ h => by cases h) indexFull_row_tie rfl ⟨rfl, rfl⟩ (by kernel_rfl) rfl
    (fun f fn hf hfn => by
      obtain rfl : f = 3 := Option.some.inj ((show Tryd.prog.funcNamed "jalousie/jalousielaw20.IndexFull" = some 3 by kernel_rfl).symm.trans hf) |>.symm
      obtain rfl : fn = Tryd.f3 := (Option.some.inj (Tryd.func3.symm.trans hfn)).symm
      exact ⟨by kernel_rfl, fun j t ht => by
        rw [Tryd.params3] at ht
        have hall : ∀ t ∈ [5], Tryd.prog.wantsStandIn t = false := by
          intro t ht
          simp only [List.mem_cons, List.not_mem_nil, or_false] at ht
          rcases ht with rfl <;> kernel_rfl
        exact hall t (by have := Array.mem_of_getElem? ht; simpa using this)⟩)
    (by kernel_rfl)
#print axioms indexFull_card
end Go.Proofs.YthbobmpeaemdnaaDoor
