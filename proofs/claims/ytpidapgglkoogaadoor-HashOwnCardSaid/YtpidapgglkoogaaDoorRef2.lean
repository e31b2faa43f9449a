/- The walks of jalousieref01.Joined, Mac. -/
import Derived.Test.YtpidapgglkoogaaDoorHash8
import Derived.Test.YtpidapgglkoogaaDoorRef1
namespace Go.Proofs.YtpidapgglkoogaaDoor
open Go.RowKit Go.Jal

theorem flat_le (ls : List (List Nat)) (k : Nat) : (ls.take k).flatten.length ≤ ls.flatten.length := by
  have h := congrArg List.length (congrArg List.flatten (List.take_append_drop k ls))
  rw [List.flatten_append, List.length_append] at h
  omega
theorem flat_snoc (ls : List (List Nat)) (k : Nat) (h : k < ls.length) : (ls.take (k + 1)).flatten = (ls.take k).flatten ++ ls.getD k [] := by
  rw [List.take_succ_eq_append_getElem h, List.flatten_append, List.getD_eq_getElem?_getD, List.getElem?_eq_getElem h]
  simp
set_option maxRecDepth 100000 in
theorem joined_any (v : Value) (ls : List (List Nat)) (w : World) (h : Bss w v ls) (hn : ls.length ≤ 1000000000000) (hl : ls.flatten.length ≤ 1000000000000) :
    Ret Tryd.prog 14 #[v] w fun v' w' => ∃ E, Own 1 5 v' ls.flatten.length (bF ls.flatten) E ∧ St w [] E w' := by
  obtain ⟨ad, c, rfl, hcap, hcm, hnil, hc⟩ := h
  go_enter Tryd.func14, Tryd.ntmps14
  have hst := St.refl w
  go_wp2_with fail
  go_loopw [3, 4] (fun v3 i wr => ∃ (k : Nat) (E : List (Nat × Obj)), k ≤ ls.length ∧ i = .int .i64 (k : Int) ∧ Own 1 5 v3 (ls.take k).flatten.length (bF (ls.take k).flatten) E ∧ St w [] E wr) (fun _ i _ => ls.length - (intOf i).toNat)
  case atStart => exact ⟨0, [], by omega, rfl, Own.nil, hst⟩
  case round =>
    clear hst
    obtain ⟨k, E, hk, rfl, hown, hst⟩ := hrel
    by_cases hkl : k < ls.length
    · obtain ⟨b, off, n, f, rfl, hH, hn', hf⟩ := hc (by intro e; subst e; simp at hkl)
      have hB := hf k hkl
      have HT := flat_snoc ls k hkl
      have HLe := flat_le ls (k + 1)
      rw [HT, List.length_append] at HLe
      obtain ⟨x, hx⟩ : ∃ x, x = ls.getD k [] := ⟨_, rfl⟩
      rw [← hx] at hB HT HLe
      obtain ⟨u, hu⟩ : ∃ u, u = f (off + k) := ⟨_, rfl⟩
      rw [← hu] at hB
      have HU : Hid (f (off + k) = u) := hu.symm
      have HTT := Lib.hid HT
      have HHH := Lib.hid hH
      obtain ⟨xa, xc, rfl, hxc, _, _, hxn, _⟩ := id hB
      obtain ⟨p, hp⟩ : ∃ p, p = (ls.take k).flatten := ⟨_, rfl⟩
      rw [← hp] at hown HLe
      have HP := Lib.hid hp
      clear hf hc hx hu HT hp hH
      go_wp2_with (first
      | ((with_reducible refine at_op (o := ⟨some 15, _, _, _, _, _⟩) ?_); go_loud (refine wl_load1v rfl rfl rfl (HHH.out.keep hst.none) HU.out (by omega) sc29 (by (conv => lhs; simp only [put_lit, put_none, setL]) <;> rfl) ?_))
      | ((with_reducible refine at_op (o := ⟨some 16, _, _, _, _, _⟩) ?_); go_loud (refine wl_append rfl rfl elt29 rfl rfl hown (L := []) (by simpa using hst) (Src.of_bs (hB.keep hst.none)) (fun e => by have := hxn e; omega) (by intro j _; rfl) (by omega) (by unfold maxLen; omega) ?_; intro v16 w16 E16 hown16 hst16 _)))
      go_wp2_with fail
      go_roundw
      case rel =>
        refine ⟨k + 1, E16, by omega, by go_num, ?_, by simpa using hst16⟩
        rw [HTT.out, ← HP.out, ← glue_bF _ _ p.length rfl]
        exact hown16.len (by rw [List.length_append])
      case measure => simp [intOf]; omega
    · obtain rfl : k = ls.length := by omega
      go_wp2_with fail
      go_ret
      rw [List.take_length] at hown
      exact ⟨_, rfl, E, hown, hst⟩

set_option maxRecDepth 100000 in
set_option maxHeartbeats 1000000 in
theorem refmac_any (v t : Value) (key text : List Nat) (w : World) (h : Bs w v key) (ht : Bs w t text) (hk : key.length ≤ 1000000000000) (hl : text.length ≤ 100000000000) (hK : Has w 0 64 (wF Sha.K)) :
    Ret Tryd.prog 16 #[v, t] w fun v' w' => v' = .agg (row 32 (bF (Sha.hmac key text))) ∧ St w [] [] w' := by
  obtain ⟨k, hk'⟩ : ∃ k, k = Sha.hkey key := ⟨_, rfl⟩
  have hkl : ∀ x ∈ k, x < 256 := by rw [hk']; exact hkey_lt h.lt
  have hkn : k.length ≤ 64 := by rw [hk']; exact hkey_len
  have hkey : Sha.hmac key text = Sha.sha (Sha.padKey 92 k ++ Sha.sha (Sha.padKey 54 k ++ text)) := by rw [hk']; rfl
  rw [hkey]
  clear hkey
  obtain ⟨ad, c, rfl, _⟩ := id h
  have HKL := Lib.hid hkl
  clear hkl
  by_cases hlong : 64 < key.length
  · have hkk : k = Sha.sha key := by rw [hk', Sha.hkey, if_pos hlong]
    have hk32 : k.length = 32 := by rw [hkk]; rfl
    clear hk'
    have HKK := Lib.hid hkk
    clear hkk
    go_enter Tryd.func16, Tryd.ntmps16
    have hst := St.refl w
    go_wp2_with (first
      | ((with_reducible refine at_op (o := ⟨some 4, _, _, _, _, _⟩) ?_); go_loud (refine wl_alloc rfl rfl hst zer25 ?_; intro b4 w4 hb4 hst1; clear hst; have hst := hst1; clear hst1))
      | ((with_reducible refine at_op (o := ⟨some 17, _, _, _, _, _⟩) ?_); go_loud (refine wl_call pl13 rfl rfl rfl (refsum_any _ key _ (h.keep hst) (by omega) (hK.keep hst)) ?_; rintro v17 w17 ⟨rfl, hst17⟩; replace hst := hst.call hst17; clear hst17; rw [← HKK.out]))
      | ((with_reducible refine at_op (o := ⟨some 6, _, _, _, _, _⟩) ?_); go_loud (refine wl_alloc rfl rfl hst zer25 ?_; intro b6 w6 hb6 hst1; clear hst; have hst := hst1; clear hst1))
      | ((with_reducible refine at_op (o := ⟨none, .store 25 (.tmp 6) (.tmp 17), _, _, _, _⟩) ?_); go_loud ((first | (refine wl_storeAll rfl rfl rfl rfl hst (by repeat (first | exact Pick.head | apply Pick.tail)) agg25 (by intro j hj; first | rfl | exact lstF_one rfl j hj | simp [oneC, hj]) (by (conv => lhs; simp only [put_lit, put_none, setL]) <;> rfl) ?_) | (refine wl_storeN rfl rfl rfl rfl hst (by repeat (first | exact Pick.head | apply Pick.tail)) (by omega) agg25 (by intro j hj; first | rfl | exact lstF_one rfl j hj | simp [oneC, hj]) (by (conv => lhs; simp only [put_lit, put_none, setL]) <;> rfl) ?_)); intro w1 hst1; clear hst; have hst := hst1; clear hst1)))
    go_loopw [7, 8, 9] (fun v7 v8 i wr => ∃ (n : Nat) (E7 E8 : List (Nat × Obj)), n ≤ 64 ∧ i = .int .i64 (n : Int) ∧ Own 1 5 v7 ((Sha.padKey 54 k).take n).length (bF ((Sha.padKey 54 k).take n)) E7 ∧ Own 1 5 v8 ((Sha.padKey 92 k).take n).length (bF ((Sha.padKey 92 k).take n)) E8 ∧
      St w [] (E7 ++ (E8 ++ [(b6, blk 32 (bF k) 25), (b4, blk 32 (fun _ => nB 0) 25)])) wr) (fun _ _ i _ => 64 - (intOf i).toNat)
    case atStart => exact ⟨0, [], [], by omega, rfl, Own.nil, Own.nil, hst.sub (by repeat (first | exact List.nil_sublist _ | apply List.Sublist.cons_cons | apply List.Sublist.cons))⟩
    case round =>
      clear hst
      obtain ⟨n, E7, E8, hn, rfl, hown7, hown8, hst⟩ := hrel
      by_cases hnl : n < 64
      · obtain ⟨y, hy⟩ : ∃ y, y = k.getD n 0 := ⟨_, rfl⟩
        have by1 : y < 256 := by rw [hy]; exact getD_lt HKL.out (by decide) _
        have L7 : Hid (((Sha.padKey 54 k).take n).length = n) := by show _ = _; rw [List.length_take, padKey_len]; omega
        have L8 : Hid (((Sha.padKey 92 k).take n).length = n) := by show _ = _; rw [List.length_take, padKey_len]; omega
        have S7 : Hid ((Sha.padKey 54 k).take (n + 1) = (Sha.padKey 54 k).take n ++ [y ^^^ 54]) := by show _ = _; rw [take_snoc _ _ (by rw [padKey_len]; omega), padKey_get hnl, hy]
        have S8 : Hid ((Sha.padKey 92 k).take (n + 1) = (Sha.padKey 92 k).take n ++ [y ^^^ 92]) := by show _ = _; rw [take_snoc _ _ (by rw [padKey_len]; omega), padKey_get hnl, hy]
        rw [L7.out] at hown7
        rw [L8.out] at hown8
        have e7 : bits .xor .u8 (y : Int) 54 = ((y ^^^ 54 : Nat) : Int) := xorB y 54 by1 (by decide)
        have e8 : bits .xor .u8 (y : Int) 92 = ((y ^^^ 92 : Nat) : Int) := xorB y 92 by1 (by decide)
        by_cases hnk : n < k.length
        · have HY : Hid (bF k n = nB y) := by rw [hy]; rfl
          clear hy
          go_wp2_with (first
      | ((with_reducible refine at_op (o := ⟨some 30, _, _, _, _, _⟩) ?_); go_loud (refine wl_load1v rfl rfl rfl ⟨_, _, hst.own (b6, blk 32 (bF k) 25) (by simp)⟩ HY.out (by omega) sc5 (by (conv => lhs; simp only [put_lit, put_none, setL]) <;> rfl) ?_))
      | ((with_reducible refine at_op (o := ⟨some 34, _, _, _, _, _⟩) ?_); go_loud (refine wl_buildSlice1 (v := nB (y ^^^ 54)) rfl rfl elt29 (by decide) (by (conv => lhs; whnf) <;> exact congrArg (Value.int .u8) e7) (row_one _) hst ?_; intro b34 w34 hb34 hst1; clear hst; have hst := hst1; clear hst1))
      | ((with_reducible refine at_op (o := ⟨some 35, _, _, _, _, _⟩) ?_); go_loud (refine wl_append rfl rfl elt29 rfl rfl hown7 (L := (b34, _) :: (E8 ++ [(b6, blk 32 (bF k) 25), (b4, blk 32 (fun _ => nB 0) 25)])) (hst.perm (by exact List.perm_middle.symm)) (.inr ⟨_, 0, _, _, rfl, hst.hasb Pick.head, Nat.le_refl _, fun _ _ => rfl⟩) (by intro h; cases h) (by intro j _; rfl) (by omega) (by unfold maxLen; omega) ?_; intro v35 w35 E35 hown35 hst35 _; clear hst; have hst : St w [] (E35 ++ (E8 ++ [(b6, blk 32 (bF k) 25), (b4, blk 32 (fun _ => nB 0) 25)])) w35 := hst35.sub (List.Sublist.append_left (.cons _ (.refl _)) _)))
      | ((with_reducible refine at_op (o := ⟨some 39, _, _, _, _, _⟩) ?_); go_loud (refine wl_buildSlice1 (v := nB (y ^^^ 92)) rfl rfl elt29 (by decide) (by (conv => lhs; whnf) <;> exact congrArg (Value.int .u8) e8) (row_one _) hst ?_; intro b39 w39 hb39 hst1; clear hst; have hst := hst1; clear hst1))
      | ((with_reducible refine at_op (o := ⟨some 40, _, _, _, _, _⟩) ?_); go_loud (refine wl_append rfl rfl elt29 rfl rfl hown8 (L := (b39, _) :: (E35 ++ [(b6, blk 32 (bF k) 25), (b4, blk 32 (fun _ => nB 0) 25)])) (hst.perm (by exact ((List.perm_append_comm_assoc E35 E8 _).cons _).trans List.perm_middle.symm)) (.inr ⟨_, 0, _, _, rfl, hst.hasb Pick.head, Nat.le_refl _, fun _ _ => rfl⟩) (by intro h; cases h) (by intro j _; rfl) (by omega) (by unfold maxLen; omega) ?_; intro v40 w40 E40 hown40 hst40 _; clear hst; have hst : St w [] (E35 ++ (E40 ++ [(b6, blk 32 (bF k) 25), (b4, blk 32 (fun _ => nB 0) 25)])) w40 := (hst40.sub (List.Sublist.append_left (.cons _ (.refl _)) _)).perm (List.perm_append_comm_assoc _ _ _))))
          first | refine ⟨⟨v35, v40, .int .i64 ((n : Int) + 1), ⟨n + 1, by omega, by go_num, E35, ?_, E40, ?_, hst⟩, rfl, rfl, rfl⟩, by simp [intOf]; omega⟩ | refine ⟨⟨n + 1, E35, E40, by omega, by go_num, ?_, ?_, hst⟩, by simp [intOf]; omega⟩
          · rw [S7.out]
            exact (hown35.congr (g' := bF ((Sha.padKey 54 k).take n ++ [y ^^^ 54])) fun j hj => glue_one L7.out (by simpa using hj)).len (by first | (rw [padKey_len]; omega) | (rw [List.length_append, ‹Hid _›.out]; rfl) | (simp [padKey_len]; omega))
          · rw [S8.out]
            exact (hown40.congr (g' := bF ((Sha.padKey 92 k).take n ++ [y ^^^ 92])) fun j hj => glue_one L8.out (by simpa using hj)).len (by first | (rw [padKey_len]; omega) | (rw [List.length_append, ‹Hid _›.out]; rfl) | (simp [padKey_len]; omega))
        · have hy0 : y = 0 := by rw [hy]; exact getD_ge (by omega)
          clear hy e7 e8
          have e7 : bits .xor .u8 (0 : Int) 54 = ((y ^^^ 54 : Nat) : Int) := by rw [hy0]; exact xorB 0 54 (by decide) (by decide)
          have e8 : bits .xor .u8 (0 : Int) 92 = ((y ^^^ 92 : Nat) : Int) := by rw [hy0]; exact xorB 0 92 (by decide) (by decide)
          clear hy0
          go_wp2_with (first
      | ((with_reducible refine at_op (o := ⟨some 34, _, _, _, _, _⟩) ?_); go_loud (refine wl_buildSlice1 (v := nB (y ^^^ 54)) rfl rfl elt29 (by decide) (by (conv => lhs; whnf) <;> exact congrArg (Value.int .u8) e7) (row_one _) hst ?_; intro b34 w34 hb34 hst1; clear hst; have hst := hst1; clear hst1))
      | ((with_reducible refine at_op (o := ⟨some 35, _, _, _, _, _⟩) ?_); go_loud (refine wl_append rfl rfl elt29 rfl rfl hown7 (L := (b34, _) :: (E8 ++ [(b6, blk 32 (bF k) 25), (b4, blk 32 (fun _ => nB 0) 25)])) (hst.perm (by exact List.perm_middle.symm)) (.inr ⟨_, 0, _, _, rfl, hst.hasb Pick.head, Nat.le_refl _, fun _ _ => rfl⟩) (by intro h; cases h) (by intro j _; rfl) (by omega) (by unfold maxLen; omega) ?_; intro v35 w35 E35 hown35 hst35 _; clear hst; have hst : St w [] (E35 ++ (E8 ++ [(b6, blk 32 (bF k) 25), (b4, blk 32 (fun _ => nB 0) 25)])) w35 := hst35.sub (List.Sublist.append_left (.cons _ (.refl _)) _)))
      | ((with_reducible refine at_op (o := ⟨some 39, _, _, _, _, _⟩) ?_); go_loud (refine wl_buildSlice1 (v := nB (y ^^^ 92)) rfl rfl elt29 (by decide) (by (conv => lhs; whnf) <;> exact congrArg (Value.int .u8) e8) (row_one _) hst ?_; intro b39 w39 hb39 hst1; clear hst; have hst := hst1; clear hst1))
      | ((with_reducible refine at_op (o := ⟨some 40, _, _, _, _, _⟩) ?_); go_loud (refine wl_append rfl rfl elt29 rfl rfl hown8 (L := (b39, _) :: (E35 ++ [(b6, blk 32 (bF k) 25), (b4, blk 32 (fun _ => nB 0) 25)])) (hst.perm (by exact ((List.perm_append_comm_assoc E35 E8 _).cons _).trans List.perm_middle.symm)) (.inr ⟨_, 0, _, _, rfl, hst.hasb Pick.head, Nat.le_refl _, fun _ _ => rfl⟩) (by intro h; cases h) (by intro j _; rfl) (by omega) (by unfold maxLen; omega) ?_; intro v40 w40 E40 hown40 hst40 _; clear hst; have hst : St w [] (E35 ++ (E40 ++ [(b6, blk 32 (bF k) 25), (b4, blk 32 (fun _ => nB 0) 25)])) w40 := (hst40.sub (List.Sublist.append_left (.cons _ (.refl _)) _)).perm (List.perm_append_comm_assoc _ _ _))))
          first | refine ⟨⟨v35, v40, .int .i64 ((n : Int) + 1), ⟨n + 1, by omega, by go_num, E35, ?_, E40, ?_, hst⟩, rfl, rfl, rfl⟩, by simp [intOf]; omega⟩ | refine ⟨⟨n + 1, E35, E40, by omega, by go_num, ?_, ?_, hst⟩, by simp [intOf]; omega⟩
          · rw [S7.out]
            exact (hown35.congr (g' := bF ((Sha.padKey 54 k).take n ++ [y ^^^ 54])) fun j hj => glue_one L7.out (by simpa using hj)).len (by first | (rw [padKey_len]; omega) | (rw [List.length_append, ‹Hid _›.out]; rfl) | (simp [padKey_len]; omega))
          · rw [S8.out]
            exact (hown40.congr (g' := bF ((Sha.padKey 92 k).take n ++ [y ^^^ 92])) fun j hj => glue_one L8.out (by simpa using hj)).len (by first | (rw [padKey_len]; omega) | (rw [List.length_append, ‹Hid _›.out]; rfl) | (simp [padKey_len]; omega))
      · obtain rfl : n = 64 := by omega
        have t7 : (Sha.padKey 54 k).take 64 = Sha.padKey 54 k := List.take_of_length_le (by rw [padKey_len]; omega)
        have t8 : (Sha.padKey 92 k).take 64 = Sha.padKey 92 k := List.take_of_length_le (by rw [padKey_len]; omega)
        rw [t7] at hown7
        rw [t8] at hown8
        have l7 := padKey_len 54 k
        have l8 := padKey_len 92 k
        have p7 : ∀ x ∈ Sha.padKey 54 k, x < 256 := padKey_lt HKL.out (by decide)
        have p8 : ∀ x ∈ Sha.padKey 92 k, x < 256 := padKey_lt HKL.out (by decide)
        have b4m : ∀ (E : List (Nat × Obj)), (b4, blk 32 (fun _ => nB 0) 25) ∈ E ++ (E7 ++ (E8 ++ [(b6, blk 32 (bF k) 25), (b4, blk 32 (fun _ => nB 0) 25)])) := by simp
        have o7 := hown7.slice
        obtain ⟨a7, c7, rfl, _⟩ := o7
        have o8 := hown8.slice
        obtain ⟨a8, c8, rfl, _⟩ := o8
        have hB7 := Bs.of_own hown7 p7 hst
        obtain ⟨ta, tc, rfl, _⟩ := id ht
        obtain ⟨s1, hs1⟩ : ∃ s1, s1 = Sha.sha (Sha.padKey 54 k ++ text) := ⟨_, rfl⟩
        have s1l : s1.length = 32 := by rw [hs1]; rfl
        have s1b : ∀ x ∈ s1, x < 256 := by rw [hs1]; exact sha_lt _
        have HS1 := Lib.hid hs1
        clear hs1
        have f1 : [Sha.padKey 54 k, text].flatten = Sha.padKey 54 k ++ text := by simp
        have f2 : [Sha.padKey 92 k, s1].flatten = Sha.padKey 92 k ++ s1 := by simp
        have g1 : ∀ x ∈ Sha.padKey 54 k ++ text, x < 256 := by
          intro x hx
          rcases List.mem_append.1 hx with hx | hx
          · exact p7 x hx
          · exact ht.lt x hx
        have g2 : ∀ x ∈ Sha.padKey 92 k ++ s1, x < 256 := by
          intro x hx
          rcases List.mem_append.1 hx with hx | hx
          · exact p8 x hx
          · exact s1b x hx
        have n1 : (Sha.padKey 54 k ++ text).length ≤ 1000000000000 := by rw [List.length_append]; omega
        have n2 : (Sha.padKey 92 k ++ s1).length ≤ 1000000000000 := by rw [List.length_append]; omega
        have F1 := Lib.hid f1
        have F2 := Lib.hid f2
        have G1 := Lib.hid g1
        have G2 := Lib.hid g2
        have N1 := Lib.hid n1
        have N2 := Lib.hid n2
        have L7 := Lib.hid l7
        have L8 := Lib.hid l8
        have P7 := Lib.hid p7
        have P8 := Lib.hid p8
        rw [l7, l8]
        rw [l7] at hown7
        rw [l8] at hown8
        clear f1 f2 g1 g2 n1 n2 l7 l8 p7 p8 t7 t8
        go_wp2_with (first
      | ((with_reducible refine at_op (o := ⟨some 43, _, _, _, _, _⟩) ?_); go_loud (refine wl_buildSliceN (l := [.slice a7 64 c7, .slice ta text.length tc]) rfl rfl elt22 rfl rfl rfl (by decide) hst ?_; intro b43 w43 hb43 hst1; clear hst; have hst := hst1; clear hst1))
      | ((with_reducible refine at_op (o := ⟨some 44, _, _, _, _, _⟩) ?_); go_loud (refine wl_call pl14 rfl rfl rfl (joined_any _ [Sha.padKey 54 k, text] _ (Bss.of_blk ⟨_, _, hst.own _ (List.mem_cons_self ..)⟩ rfl (by decide) (fun j hj => by obtain rfl | rfl : j = 0 ∨ j = 1 := (by omega); exact Bs.of_own (l := Sha.padKey 54 k) (by rw [L7.out]; exact hown7) P7.out (hst.sub (.cons _ (.refl _))); exact ht.keep hst.none)) (by simp) (by rw [F1.out]; exact N1.out)) ?_; intro v44 w44 hR44; obtain ⟨E44, hown44, hst44⟩ := hR44; rw [F1.out] at hown44; replace hst := hst.call hst44; clear hst44))
      | ((with_reducible refine at_op (o := ⟨some 45, _, _, _, _, _⟩) ?_); go_loud (refine wl_call pl13 rfl rfl rfl (refsum_any _ _ _ (Bs.of_own hown44 G1.out hst) N1.out (hK.keep hst.none)) ?_; rintro v45 w45 ⟨rfl, hst45⟩; replace hst := hst.call hst45; clear hst45; rw [← HS1.out]))
      | ((with_reducible refine at_op (o := ⟨some 11, _, _, _, _, _⟩) ?_); go_loud (refine wl_alloc rfl rfl hst zer25 ?_; intro b11 w11 hb11 hst1; clear hst; have hst := hst1; clear hst1))
      | ((with_reducible refine at_op (o := ⟨none, .store 25 (.tmp 11) (.tmp 45), _, _, _, _⟩) ?_); go_loud ((first | (refine wl_storeAll rfl rfl rfl rfl hst (by repeat (first | exact Pick.head | apply Pick.tail)) agg25 (by intro j hj; first | rfl | exact lstF_one rfl j hj | simp [oneC, hj]) (by (conv => lhs; simp only [put_lit, put_none, setL]) <;> rfl) ?_) | (refine wl_storeN rfl rfl rfl rfl hst (by repeat (first | exact Pick.head | apply Pick.tail)) (by omega) agg25 (by intro j hj; first | rfl | exact lstF_one rfl j hj | simp [oneC, hj]) (by (conv => lhs; simp only [put_lit, put_none, setL]) <;> rfl) ?_)); intro w1 hst1; clear hst; have hst := hst1; clear hst1))
      | ((with_reducible refine at_op (o := ⟨some 48, _, _, _, _, _⟩) ?_); go_loud (refine wl_buildSliceN (l := [.slice a8 64 c8, .slice (some ⟨b11, 0, none⟩) 32 32]) rfl rfl elt22 rfl rfl rfl (by decide) hst ?_; intro b48 w48 hb48 hst1; clear hst; have hst := hst1; clear hst1))
      | ((with_reducible refine at_op (o := ⟨some 49, _, _, _, _, _⟩) ?_); go_loud (refine wl_call pl14 rfl rfl rfl (joined_any _ [Sha.padKey 92 k, s1] _ (Bss.of_blk ⟨_, _, hst.own _ (List.mem_cons_self ..)⟩ rfl (by decide) (fun j hj => by obtain rfl | rfl : j = 0 ∨ j = 1 := (by omega); exact Bs.of_own (l := Sha.padKey 92 k) (by rw [L8.out]; exact hown8) P8.out (hst.sub (.cons _ (.cons _ ((List.Sublist.cons _ (List.sublist_append_right E7 _)).trans (List.sublist_append_right E44 _))))); have hs := Bs.of_blk (cap := 32) (off := 0) (l := s1) ⟨_, _, hst.own (b11, blk 32 (bF s1) 25) (by simp)⟩ (by omega) (fun j _ => by rw [Nat.zero_add]) s1b (by omega) (by simp [maxLen]); rw [s1l] at hs; exact hs)) (by simp) (by rw [F2.out]; exact N2.out)) ?_; intro v49 w49 hR49; obtain ⟨E49, hown49, hst49⟩ := hR49; rw [F2.out] at hown49; replace hst := hst.call hst49; clear hst49))
      | ((with_reducible refine at_op (o := ⟨some 50, _, _, _, _, _⟩) ?_); go_loud (refine wl_call pl13 rfl rfl rfl (refsum_any _ _ _ (Bs.of_own hown49 G2.out hst) N2.out (hK.keep hst.none)) ?_; rintro v50 w50 ⟨rfl, hst50⟩; replace hst := hst.call hst50; clear hst50; have hst0 : St w [] [(b4, blk 32 (fun _ => nB 0) 25)] w50 := hst.sub (List.singleton_sublist.2 (by simp)); clear hst; have hst := hst0; clear hst0))
      | ((with_reducible refine at_op (o := ⟨none, .store 25 (.tmp 4) (.tmp 50), _, _, _, _⟩) ?_); go_loud ((first | (refine wl_storeAll rfl rfl rfl rfl hst (by repeat (first | exact Pick.head | apply Pick.tail)) agg25 (by intro j hj; first | rfl | exact lstF_one rfl j hj | simp [oneC, hj]) (by (conv => lhs; simp only [put_lit, put_none, setL]) <;> rfl) ?_) | (refine wl_storeN rfl rfl rfl rfl hst (by repeat (first | exact Pick.head | apply Pick.tail)) (by omega) agg25 (by intro j hj; first | rfl | exact lstF_one rfl j hj | simp [oneC, hj]) (by (conv => lhs; simp only [put_lit, put_none, setL]) <;> rfl) ?_)); intro w1 hst1; clear hst; have hst := hst1; clear hst1)))
        exact ret_cellN rfl rfl (St.hasb hst Pick.head) agg25 rfl ⟨_, rfl, by rw [HS1.out], hst.none⟩
  · have hkk : k = key := by rw [hk', Sha.hkey, if_neg hlong]
    clear hk'
    subst hkk
    go_enter Tryd.func16, Tryd.ntmps16
    have hst := St.refl w
    go_wp2_with (first
      | ((with_reducible refine at_op (o := ⟨some 4, _, _, _, _, _⟩) ?_); go_loud (refine wl_alloc rfl rfl hst zer25 ?_; intro b4 w4 hb4 hst1; clear hst; have hst := hst1; clear hst1)))
    go_loopw [7, 8, 9] (fun v7 v8 i wr => ∃ (n : Nat) (E7 E8 : List (Nat × Obj)), n ≤ 64 ∧ i = .int .i64 (n : Int) ∧ Own 1 5 v7 ((Sha.padKey 54 k).take n).length (bF ((Sha.padKey 54 k).take n)) E7 ∧ Own 1 5 v8 ((Sha.padKey 92 k).take n).length (bF ((Sha.padKey 92 k).take n)) E8 ∧
      St w [] (E7 ++ (E8 ++ [(b4, blk 32 (fun _ => nB 0) 25)])) wr) (fun _ _ i _ => 64 - (intOf i).toNat)
    case atStart => exact ⟨0, [], [], by omega, rfl, Own.nil, Own.nil, hst.sub (by repeat (first | exact List.nil_sublist _ | apply List.Sublist.cons_cons | apply List.Sublist.cons))⟩
    case round =>
      clear hst
      obtain ⟨n, E7, E8, hn, rfl, hown7, hown8, hst⟩ := hrel
      by_cases hnl : n < 64
      · obtain ⟨y, hy⟩ : ∃ y, y = k.getD n 0 := ⟨_, rfl⟩
        have by1 : y < 256 := by rw [hy]; exact getD_lt HKL.out (by decide) _
        have L7 : Hid (((Sha.padKey 54 k).take n).length = n) := by show _ = _; rw [List.length_take, padKey_len]; omega
        have L8 : Hid (((Sha.padKey 92 k).take n).length = n) := by show _ = _; rw [List.length_take, padKey_len]; omega
        have S7 : Hid ((Sha.padKey 54 k).take (n + 1) = (Sha.padKey 54 k).take n ++ [y ^^^ 54]) := by show _ = _; rw [take_snoc _ _ (by rw [padKey_len]; omega), padKey_get hnl, hy]
        have S8 : Hid ((Sha.padKey 92 k).take (n + 1) = (Sha.padKey 92 k).take n ++ [y ^^^ 92]) := by show _ = _; rw [take_snoc _ _ (by rw [padKey_len]; omega), padKey_get hnl, hy]
        rw [L7.out] at hown7
        rw [L8.out] at hown8
        have e7 : bits .xor .u8 (y : Int) 54 = ((y ^^^ 54 : Nat) : Int) := xorB y 54 by1 (by decide)
        have e8 : bits .xor .u8 (y : Int) 92 = ((y ^^^ 92 : Nat) : Int) := xorB y 92 by1 (by decide)
        by_cases hnk : n < k.length
        · obtain ⟨ao, cap, hv, _, _, _, _, hc⟩ := id h; obtain ⟨kb, koff, kn, kf, hao, HKH, hkn', hkf⟩ := hc (by intro e; rw [e] at hnk; simp at hnk); have HY : Hid (kf (koff + n) = nB y) := (by rw [hy]; exact hkf n hnk); replace HKH := Lib.hid HKH; clear hkf hc; rw [hao] at hv; cases hv
          clear hy
          go_wp2_with (first
      | ((with_reducible refine at_op (o := ⟨some 30, _, _, _, _, _⟩) ?_); go_loud (refine wl_load1v rfl rfl rfl (HKH.out.keep hst.none) HY.out (by omega) sc5 (by (conv => lhs; simp only [put_lit, put_none, setL]) <;> rfl) ?_))
      | ((with_reducible refine at_op (o := ⟨some 34, _, _, _, _, _⟩) ?_); go_loud (refine wl_buildSlice1 (v := nB (y ^^^ 54)) rfl rfl elt29 (by decide) (by (conv => lhs; whnf) <;> exact congrArg (Value.int .u8) e7) (row_one _) hst ?_; intro b34 w34 hb34 hst1; clear hst; have hst := hst1; clear hst1))
      | ((with_reducible refine at_op (o := ⟨some 35, _, _, _, _, _⟩) ?_); go_loud (refine wl_append rfl rfl elt29 rfl rfl hown7 (L := (b34, _) :: (E8 ++ [(b4, blk 32 (fun _ => nB 0) 25)])) (hst.perm (by exact List.perm_middle.symm)) (.inr ⟨_, 0, _, _, rfl, hst.hasb Pick.head, Nat.le_refl _, fun _ _ => rfl⟩) (by intro h; cases h) (by intro j _; rfl) (by omega) (by unfold maxLen; omega) ?_; intro v35 w35 E35 hown35 hst35 _; clear hst; have hst : St w [] (E35 ++ (E8 ++ [(b4, blk 32 (fun _ => nB 0) 25)])) w35 := hst35.sub (List.Sublist.append_left (.cons _ (.refl _)) _)))
      | ((with_reducible refine at_op (o := ⟨some 39, _, _, _, _, _⟩) ?_); go_loud (refine wl_buildSlice1 (v := nB (y ^^^ 92)) rfl rfl elt29 (by decide) (by (conv => lhs; whnf) <;> exact congrArg (Value.int .u8) e8) (row_one _) hst ?_; intro b39 w39 hb39 hst1; clear hst; have hst := hst1; clear hst1))
      | ((with_reducible refine at_op (o := ⟨some 40, _, _, _, _, _⟩) ?_); go_loud (refine wl_append rfl rfl elt29 rfl rfl hown8 (L := (b39, _) :: (E35 ++ [(b4, blk 32 (fun _ => nB 0) 25)])) (hst.perm (by exact ((List.perm_append_comm_assoc E35 E8 _).cons _).trans List.perm_middle.symm)) (.inr ⟨_, 0, _, _, rfl, hst.hasb Pick.head, Nat.le_refl _, fun _ _ => rfl⟩) (by intro h; cases h) (by intro j _; rfl) (by omega) (by unfold maxLen; omega) ?_; intro v40 w40 E40 hown40 hst40 _; clear hst; have hst : St w [] (E35 ++ (E40 ++ [(b4, blk 32 (fun _ => nB 0) 25)])) w40 := (hst40.sub (List.Sublist.append_left (.cons _ (.refl _)) _)).perm (List.perm_append_comm_assoc _ _ _))))
          first | refine ⟨⟨v35, v40, .int .i64 ((n : Int) + 1), ⟨n + 1, by omega, by go_num, E35, ?_, E40, ?_, hst⟩, rfl, rfl, rfl⟩, by simp [intOf]; omega⟩ | refine ⟨⟨n + 1, E35, E40, by omega, by go_num, ?_, ?_, hst⟩, by simp [intOf]; omega⟩
          · rw [S7.out]
            exact (hown35.congr (g' := bF ((Sha.padKey 54 k).take n ++ [y ^^^ 54])) fun j hj => glue_one L7.out (by simpa using hj)).len (by first | (rw [padKey_len]; omega) | (rw [List.length_append, ‹Hid _›.out]; rfl) | (simp [padKey_len]; omega))
          · rw [S8.out]
            exact (hown40.congr (g' := bF ((Sha.padKey 92 k).take n ++ [y ^^^ 92])) fun j hj => glue_one L8.out (by simpa using hj)).len (by first | (rw [padKey_len]; omega) | (rw [List.length_append, ‹Hid _›.out]; rfl) | (simp [padKey_len]; omega))
        · have hy0 : y = 0 := by rw [hy]; exact getD_ge (by omega)
          clear hy e7 e8
          have e7 : bits .xor .u8 (0 : Int) 54 = ((y ^^^ 54 : Nat) : Int) := by rw [hy0]; exact xorB 0 54 (by decide) (by decide)
          have e8 : bits .xor .u8 (0 : Int) 92 = ((y ^^^ 92 : Nat) : Int) := by rw [hy0]; exact xorB 0 92 (by decide) (by decide)
          clear hy0
          go_wp2_with (first
      | ((with_reducible refine at_op (o := ⟨some 34, _, _, _, _, _⟩) ?_); go_loud (refine wl_buildSlice1 (v := nB (y ^^^ 54)) rfl rfl elt29 (by decide) (by (conv => lhs; whnf) <;> exact congrArg (Value.int .u8) e7) (row_one _) hst ?_; intro b34 w34 hb34 hst1; clear hst; have hst := hst1; clear hst1))
      | ((with_reducible refine at_op (o := ⟨some 35, _, _, _, _, _⟩) ?_); go_loud (refine wl_append rfl rfl elt29 rfl rfl hown7 (L := (b34, _) :: (E8 ++ [(b4, blk 32 (fun _ => nB 0) 25)])) (hst.perm (by exact List.perm_middle.symm)) (.inr ⟨_, 0, _, _, rfl, hst.hasb Pick.head, Nat.le_refl _, fun _ _ => rfl⟩) (by intro h; cases h) (by intro j _; rfl) (by omega) (by unfold maxLen; omega) ?_; intro v35 w35 E35 hown35 hst35 _; clear hst; have hst : St w [] (E35 ++ (E8 ++ [(b4, blk 32 (fun _ => nB 0) 25)])) w35 := hst35.sub (List.Sublist.append_left (.cons _ (.refl _)) _)))
      | ((with_reducible refine at_op (o := ⟨some 39, _, _, _, _, _⟩) ?_); go_loud (refine wl_buildSlice1 (v := nB (y ^^^ 92)) rfl rfl elt29 (by decide) (by (conv => lhs; whnf) <;> exact congrArg (Value.int .u8) e8) (row_one _) hst ?_; intro b39 w39 hb39 hst1; clear hst; have hst := hst1; clear hst1))
      | ((with_reducible refine at_op (o := ⟨some 40, _, _, _, _, _⟩) ?_); go_loud (refine wl_append rfl rfl elt29 rfl rfl hown8 (L := (b39, _) :: (E35 ++ [(b4, blk 32 (fun _ => nB 0) 25)])) (hst.perm (by exact ((List.perm_append_comm_assoc E35 E8 _).cons _).trans List.perm_middle.symm)) (.inr ⟨_, 0, _, _, rfl, hst.hasb Pick.head, Nat.le_refl _, fun _ _ => rfl⟩) (by intro h; cases h) (by intro j _; rfl) (by omega) (by unfold maxLen; omega) ?_; intro v40 w40 E40 hown40 hst40 _; clear hst; have hst : St w [] (E35 ++ (E40 ++ [(b4, blk 32 (fun _ => nB 0) 25)])) w40 := (hst40.sub (List.Sublist.append_left (.cons _ (.refl _)) _)).perm (List.perm_append_comm_assoc _ _ _))))
          first | refine ⟨⟨v35, v40, .int .i64 ((n : Int) + 1), ⟨n + 1, by omega, by go_num, E35, ?_, E40, ?_, hst⟩, rfl, rfl, rfl⟩, by simp [intOf]; omega⟩ | refine ⟨⟨n + 1, E35, E40, by omega, by go_num, ?_, ?_, hst⟩, by simp [intOf]; omega⟩
          · rw [S7.out]
            exact (hown35.congr (g' := bF ((Sha.padKey 54 k).take n ++ [y ^^^ 54])) fun j hj => glue_one L7.out (by simpa using hj)).len (by first | (rw [padKey_len]; omega) | (rw [List.length_append, ‹Hid _›.out]; rfl) | (simp [padKey_len]; omega))
          · rw [S8.out]
            exact (hown40.congr (g' := bF ((Sha.padKey 92 k).take n ++ [y ^^^ 92])) fun j hj => glue_one L8.out (by simpa using hj)).len (by first | (rw [padKey_len]; omega) | (rw [List.length_append, ‹Hid _›.out]; rfl) | (simp [padKey_len]; omega))
      · obtain rfl : n = 64 := by omega
        have t7 : (Sha.padKey 54 k).take 64 = Sha.padKey 54 k := List.take_of_length_le (by rw [padKey_len]; omega)
        have t8 : (Sha.padKey 92 k).take 64 = Sha.padKey 92 k := List.take_of_length_le (by rw [padKey_len]; omega)
        rw [t7] at hown7
        rw [t8] at hown8
        have l7 := padKey_len 54 k
        have l8 := padKey_len 92 k
        have p7 : ∀ x ∈ Sha.padKey 54 k, x < 256 := padKey_lt HKL.out (by decide)
        have p8 : ∀ x ∈ Sha.padKey 92 k, x < 256 := padKey_lt HKL.out (by decide)
        have b4m : ∀ (E : List (Nat × Obj)), (b4, blk 32 (fun _ => nB 0) 25) ∈ E ++ (E7 ++ (E8 ++ [(b4, blk 32 (fun _ => nB 0) 25)])) := by simp
        have o7 := hown7.slice
        obtain ⟨a7, c7, rfl, _⟩ := o7
        have o8 := hown8.slice
        obtain ⟨a8, c8, rfl, _⟩ := o8
        have hB7 := Bs.of_own hown7 p7 hst
        obtain ⟨ta, tc, rfl, _⟩ := id ht
        obtain ⟨s1, hs1⟩ : ∃ s1, s1 = Sha.sha (Sha.padKey 54 k ++ text) := ⟨_, rfl⟩
        have s1l : s1.length = 32 := by rw [hs1]; rfl
        have s1b : ∀ x ∈ s1, x < 256 := by rw [hs1]; exact sha_lt _
        have HS1 := Lib.hid hs1
        clear hs1
        have f1 : [Sha.padKey 54 k, text].flatten = Sha.padKey 54 k ++ text := by simp
        have f2 : [Sha.padKey 92 k, s1].flatten = Sha.padKey 92 k ++ s1 := by simp
        have g1 : ∀ x ∈ Sha.padKey 54 k ++ text, x < 256 := by
          intro x hx
          rcases List.mem_append.1 hx with hx | hx
          · exact p7 x hx
          · exact ht.lt x hx
        have g2 : ∀ x ∈ Sha.padKey 92 k ++ s1, x < 256 := by
          intro x hx
          rcases List.mem_append.1 hx with hx | hx
          · exact p8 x hx
          · exact s1b x hx
        have n1 : (Sha.padKey 54 k ++ text).length ≤ 1000000000000 := by rw [List.length_append]; omega
        have n2 : (Sha.padKey 92 k ++ s1).length ≤ 1000000000000 := by rw [List.length_append]; omega
        have F1 := Lib.hid f1
        have F2 := Lib.hid f2
        have G1 := Lib.hid g1
        have G2 := Lib.hid g2
        have N1 := Lib.hid n1
        have N2 := Lib.hid n2
        have L7 := Lib.hid l7
        have L8 := Lib.hid l8
        have P7 := Lib.hid p7
        have P8 := Lib.hid p8
        rw [l7, l8]
        rw [l7] at hown7
        rw [l8] at hown8
        clear f1 f2 g1 g2 n1 n2 l7 l8 p7 p8 t7 t8
        go_wp2_with (first
      | ((with_reducible refine at_op (o := ⟨some 43, _, _, _, _, _⟩) ?_); go_loud (refine wl_buildSliceN (l := [.slice a7 64 c7, .slice ta text.length tc]) rfl rfl elt22 rfl rfl rfl (by decide) hst ?_; intro b43 w43 hb43 hst1; clear hst; have hst := hst1; clear hst1))
      | ((with_reducible refine at_op (o := ⟨some 44, _, _, _, _, _⟩) ?_); go_loud (refine wl_call pl14 rfl rfl rfl (joined_any _ [Sha.padKey 54 k, text] _ (Bss.of_blk ⟨_, _, hst.own _ (List.mem_cons_self ..)⟩ rfl (by decide) (fun j hj => by obtain rfl | rfl : j = 0 ∨ j = 1 := (by omega); exact Bs.of_own (l := Sha.padKey 54 k) (by rw [L7.out]; exact hown7) P7.out (hst.sub (.cons _ (.refl _))); exact ht.keep hst.none)) (by simp) (by rw [F1.out]; exact N1.out)) ?_; intro v44 w44 hR44; obtain ⟨E44, hown44, hst44⟩ := hR44; rw [F1.out] at hown44; replace hst := hst.call hst44; clear hst44))
      | ((with_reducible refine at_op (o := ⟨some 45, _, _, _, _, _⟩) ?_); go_loud (refine wl_call pl13 rfl rfl rfl (refsum_any _ _ _ (Bs.of_own hown44 G1.out hst) N1.out (hK.keep hst.none)) ?_; rintro v45 w45 ⟨rfl, hst45⟩; replace hst := hst.call hst45; clear hst45; rw [← HS1.out]))
      | ((with_reducible refine at_op (o := ⟨some 11, _, _, _, _, _⟩) ?_); go_loud (refine wl_alloc rfl rfl hst zer25 ?_; intro b11 w11 hb11 hst1; clear hst; have hst := hst1; clear hst1))
      | ((with_reducible refine at_op (o := ⟨none, .store 25 (.tmp 11) (.tmp 45), _, _, _, _⟩) ?_); go_loud ((first | (refine wl_storeAll rfl rfl rfl rfl hst (by repeat (first | exact Pick.head | apply Pick.tail)) agg25 (by intro j hj; first | rfl | exact lstF_one rfl j hj | simp [oneC, hj]) (by (conv => lhs; simp only [put_lit, put_none, setL]) <;> rfl) ?_) | (refine wl_storeN rfl rfl rfl rfl hst (by repeat (first | exact Pick.head | apply Pick.tail)) (by omega) agg25 (by intro j hj; first | rfl | exact lstF_one rfl j hj | simp [oneC, hj]) (by (conv => lhs; simp only [put_lit, put_none, setL]) <;> rfl) ?_)); intro w1 hst1; clear hst; have hst := hst1; clear hst1))
      | ((with_reducible refine at_op (o := ⟨some 48, _, _, _, _, _⟩) ?_); go_loud (refine wl_buildSliceN (l := [.slice a8 64 c8, .slice (some ⟨b11, 0, none⟩) 32 32]) rfl rfl elt22 rfl rfl rfl (by decide) hst ?_; intro b48 w48 hb48 hst1; clear hst; have hst := hst1; clear hst1))
      | ((with_reducible refine at_op (o := ⟨some 49, _, _, _, _, _⟩) ?_); go_loud (refine wl_call pl14 rfl rfl rfl (joined_any _ [Sha.padKey 92 k, s1] _ (Bss.of_blk ⟨_, _, hst.own _ (List.mem_cons_self ..)⟩ rfl (by decide) (fun j hj => by obtain rfl | rfl : j = 0 ∨ j = 1 := (by omega); exact Bs.of_own (l := Sha.padKey 92 k) (by rw [L8.out]; exact hown8) P8.out (hst.sub (.cons _ (.cons _ ((List.Sublist.cons _ (List.sublist_append_right E7 _)).trans (List.sublist_append_right E44 _))))); have hs := Bs.of_blk (cap := 32) (off := 0) (l := s1) ⟨_, _, hst.own (b11, blk 32 (bF s1) 25) (by simp)⟩ (by omega) (fun j _ => by rw [Nat.zero_add]) s1b (by omega) (by simp [maxLen]); rw [s1l] at hs; exact hs)) (by simp) (by rw [F2.out]; exact N2.out)) ?_; intro v49 w49 hR49; obtain ⟨E49, hown49, hst49⟩ := hR49; rw [F2.out] at hown49; replace hst := hst.call hst49; clear hst49))
      | ((with_reducible refine at_op (o := ⟨some 50, _, _, _, _, _⟩) ?_); go_loud (refine wl_call pl13 rfl rfl rfl (refsum_any _ _ _ (Bs.of_own hown49 G2.out hst) N2.out (hK.keep hst.none)) ?_; rintro v50 w50 ⟨rfl, hst50⟩; replace hst := hst.call hst50; clear hst50; have hst0 : St w [] [(b4, blk 32 (fun _ => nB 0) 25)] w50 := hst.sub (List.singleton_sublist.2 (by simp)); clear hst; have hst := hst0; clear hst0))
      | ((with_reducible refine at_op (o := ⟨none, .store 25 (.tmp 4) (.tmp 50), _, _, _, _⟩) ?_); go_loud ((first | (refine wl_storeAll rfl rfl rfl rfl hst (by repeat (first | exact Pick.head | apply Pick.tail)) agg25 (by intro j hj; first | rfl | exact lstF_one rfl j hj | simp [oneC, hj]) (by (conv => lhs; simp only [put_lit, put_none, setL]) <;> rfl) ?_) | (refine wl_storeN rfl rfl rfl rfl hst (by repeat (first | exact Pick.head | apply Pick.tail)) (by omega) agg25 (by intro j hj; first | rfl | exact lstF_one rfl j hj | simp [oneC, hj]) (by (conv => lhs; simp only [put_lit, put_none, setL]) <;> rfl) ?_)); intro w1 hst1; clear hst; have hst := hst1; clear hst1)))
        exact ret_cellN rfl rfl (St.hasb hst Pick.head) agg25 rfl ⟨_, rfl, by rw [HS1.out], hst.none⟩
end Go.Proofs.YtpidapgglkoogaaDoor
