/- The walk of jalousieref01.Expand. -/
import Derived.Test.YtpidapgglkoogaaDoorRef2
import Derived.Test.YtpidapgglkoogaaDoorLibI
namespace Go.Proofs.YtpidapgglkoogaaDoor
open Go.RowKit Go.Jal

theorem Bs.of_ownp {w : World} {E : List (Nat × Obj)} {e : TypeId} {v : Value} {l : List Nat} (h : Own 1 e v l.length (bF l) E) (hlt : ∀ x ∈ l, x < 256) (hE : ∀ p ∈ E, w.heap[p.1]? = some p.2) : Bs w v l := by
  rcases h with ⟨rfl, h2, rfl⟩ | ⟨b, cap, f, rfl, h2, h3, rfl, h5⟩
  · obtain rfl : l = [] := List.length_eq_zero_iff.1 h2
    exact Bs.nil (by simp [maxLen]) (fun _ => rfl)
  · have : Has w b (cap * 1) f := ⟨_, _, hE (b, blk (cap * 1) f e) (by simp)⟩
    exact Bs.of_blk this (by omega) (fun j hj => by rw [Nat.zero_add]; exact h5 j (by omega)) hlt h2 h3

theorem Own.cut {E : List (Nat × Obj)} {e : TypeId} {ad : Option Addr} {m c k : Nat} {l : List Nat} (h : Own 1 e (.slice ad m c) m (bF l) E) (hk : k ≤ m) : Own 1 e (.slice ad k c) k (bF (l.take k)) E := by
  rcases h with ⟨h, h2, rfl⟩ | ⟨b, cap, f, h, h2, h3, rfl, h5⟩
  · cases h
    obtain rfl : k = 0 := by omega
    exact .inl ⟨rfl, rfl, rfl⟩
  · cases h
    exact .inr ⟨b, c, f, rfl, by omega, h3, rfl, fun j hj => by
      rw [h5 j (by omega)]
      unfold bF
      simp only [List.getD_eq_getElem?_getD, List.getElem?_take_of_lt (show j < k by omega)]⟩
theorem Own.takeC {w w0 : World} {M : List Nat} {L E : List (Nat × Obj)} {e : TypeId} {ad : Option Addr} {m c n k : Nat} {l : List Nat} (h : Own 1 e (.slice ad m c) n (bF l) E) (hl : l.length = n) (hk : k ≤ n) (hlt : ∀ x ∈ l, x < 256) (hst : St w0 M (E ++ L) w) : Bs w (.slice ad k c) (l.take k) := by
  rcases h with ⟨h, h2, rfl⟩ | ⟨b, cap, f, h, h2, h3, rfl, h5⟩
  · cases h
    obtain rfl : k = 0 := by omega
    rw [List.take_zero]
    exact Bs.nil (by simp [maxLen]) (fun _ => rfl)
  · cases h
    have hb : Has w b (c * 1) f := hst.hasb Pick.head
    have := Bs.sub (i := 0) (j := k) (cap := c) (off := 0) (l := l) hb (by omega) (fun j hj => by rw [Nat.zero_add]; exact h5 j (by omega)) hlt (Nat.zero_le _) (by omega) (by omega) h3
    simpa using this
set_option maxRecDepth 100000 in
set_option maxHeartbeats 2000000 in
theorem refexpand_any (key : List Nat) (v : Value) (info : List Nat) (n : Nat) (w : World) (hk : key.length = 32) (hkl : ∀ x ∈ key, x < 256) (h : Bs w v info) (hl : info.length ≤ 10000000000) (hn : n ≤ 8160) (hK : Has w 0 64 (wF Sha.K)) :
    Ret Tryd.prog 20 #[.agg (row 32 (bF key)), v, nI n] w fun v' w' => ∃ E, Own 1 5 v' n (bF (Sha.expand key info n)) E ∧ St w [] E w' := by
  obtain ⟨ad, c, rfl, _⟩ := id h
  have HKL := Lib.hid hkl
  clear hkl
  go_enter Tryd.func20, Tryd.ntmps20
  have hst := St.refl w
  go_wp2_with (first
      | ((with_reducible refine at_op (o := ⟨some 3, _, _, _, _, _⟩) ?_); go_loud (refine wl_box rfl rfl rfl (by first | rfl | exact row_one _) hst ?_; intro b3 w3 hb3 hst1; clear hst; have hst := hst1; clear hst1)))
  go_loopw [7, 8, 9] (fun v7 v8 i wr => ∃ (k : Nat) (E L9 : List (Nat × Obj)), k ≤ (n + 31) / 32 ∧ i = .int .i64 ((k : Int) + 1) ∧ Own 1 5 v7 (Sha.expB key info k).1.length (bF (Sha.expB key info k).1) E ∧ Own 1 25 v8 (Sha.expB key info k).2.length (bF (Sha.expB key info k).2) L9 ∧
    St w [] (E ++ (L9 ++ [(b3, blk 32 (bF key) 25)])) wr) (fun v7 _ _ _ => n + 32 - vlen v7)
  case atStart => exact ⟨0, [], [], by omega, rfl, Own.nil, Own.nil, hst⟩
  case round =>
    clear hst
    obtain ⟨k, E, L9, hkn, rfl, hown8, hown9, hst⟩ := hrel
    have hlen := expB_len key info k
    have hlen9 := expB_len2 key info k
    have hlt8 := (expB_lt key info k).1
    have hlt9 := (expB_lt key info k).2
    obtain ⟨m, hm⟩ : ∃ m, m = (Sha.expB key info k).1.length := ⟨_, rfl⟩
    obtain ⟨ad7, c7, rfl, hc7, hm7, hnil7⟩ := hown8.slice
    have hown8m := hown8
    rw [← hm] at hown8m
    by_cases hkl : k < (n + 31) / 32
    · obtain ⟨y, hy⟩ : ∃ y, y = k + 1 := ⟨_, rfl⟩
      have ey : (k : Int) + 1 = (y : Int) := by omega
      rw [ey]
      have hy2 : y % 256 = y := by omega
      have by1 : y < 256 := by omega
      have HT : Hid (Sha.expB key info (k + 1) = ((Sha.expB key info k).1 ++ Sha.hmac key ((Sha.expB key info k).2 ++ info ++ [y]), Sha.hmac key ((Sha.expB key info k).2 ++ info ++ [y]))) := by
        show _ = _
        rw [Sha.expB, ← hy, hy2]
      obtain ⟨c8n, hc8n⟩ : ∃ x, x = (Sha.expB key info k).2.length := ⟨_, rfl⟩
      obtain ⟨ad8, c8, rfl, _⟩ := hown9.slice
      have HBss : Hid (∀ (b23 b22 : Nat) (L : List (Nat × Obj)) (w' : World), St w [] L w' → (b23, blk 3 (lstF [.slice ad8 c8n c8, .slice ad info.length c, .slice (some ⟨b22, 0, none⟩) 1 1]) 29) ∈ L → (b22, blk 1 (fun _ => nB y) 5) ∈ L → (∀ p ∈ L9, w'.heap[p.1]? = some p.2) →
          Bss w' (.slice (some ⟨b23, 0, none⟩) 3 3) [(Sha.expB key info k).2, info, [y]]) := by
        show ∀ _, _
        intro b23 b22 L w' hst h29 h28 h9
        refine Bss.of_blk ⟨_, _, hst.own _ h29⟩ rfl (by decide) fun j hj => ?_
        obtain rfl | rfl | rfl : j = 0 ∨ j = 1 ∨ j = 2 := by omega
        · rw [hc8n]; exact Bs.of_ownp hown9 hlt9 h9
        · exact h.keep hst.none
        · exact Bs.of_blk (l := [y]) ⟨_, _, hst.own _ h28⟩ (by simp) (fun j hj => by obtain rfl : j = 0 := (by simpa using hj); rfl) (by simpa using by1) (by simp) (by simp [maxLen])
      have HBK : Hid (∀ (L : List (Nat × Obj)) (w' : World), St w [] L w' → (b3, blk 32 (bF key) 25) ∈ L → Bs w' (.slice (some ⟨b3, 0, none⟩) 32 32) key) := by
        show ∀ _, _
        intro L w' hst hm
        have := Bs.of_blk (cap := 32) (off := 0) (l := key) ⟨_, _, hst.own _ hm⟩ (by omega) (fun j _ => by rw [Nat.zero_add]) HKL.out (by omega) (by simp [maxLen])
        rwa [hk] at this
      have F1 : Hid ([(Sha.expB key info k).2, info, [y]].flatten = (Sha.expB key info k).2 ++ info ++ [y]) := by show _ = _; simp
      have G1 : Hid (∀ x ∈ (Sha.expB key info k).2 ++ info ++ [y], x < 256) := by
        show ∀ _, _
        intro x hx
        simp only [List.mem_append, List.mem_singleton] at hx
        rcases hx with (hx | hx) | hx
        · exact hlt9 x hx
        · exact h.lt x hx
        · omega
      have N1 : Hid (((Sha.expB key info k).2 ++ info ++ [y]).length ≤ 100000000000) := by show _ ≤ _; rw [List.length_append, List.length_append, List.length_singleton]; omega
      rw [← hm] at hlen hc7 ⊢
      rw [← hc8n]
      have HY := Lib.hid hy
      have HM := Lib.hid hm
      have HCN := Lib.hid hc8n
      have hmn : m < n := by omega
      clear hy hm hlt8 hlt9 hc8n ey
      go_wp2_with (fail)
      refine rg_start (St w [] (E ++ (L9 ++ [(b3, blk 32 (bF key) 25)]))) mixed (hst.drew) ?_
      refine rg_take [0, 1, 2, 3, 4] 6 _ rfl (by kernel_rfl) (by kernel_rfl) rfl (cls_st _ _ _) (fun _ _ _ _ _ h => h) ?_
      refine tk_wp rfl rfl rfl (by rfl) (fun w hst K hK => (by go_step; exact hK _ (Below.refl _ _))) (by rfl) (by rfl) ?_
      refine tk_wp rfl rfl rfl (by rfl) (fun w hst K hK => (by go_step; exact hK _ (Below.refl _ _))) (by rfl) (by rfl) ?_
      refine tk_wp rfl rfl rfl (by rfl) (fun w hst K hK => (by go_step; exact hK _ (Below.refl _ _))) (by rfl) (by rfl) ?_
      refine tk_wp rfl rfl rfl (by rfl) (fun w hst K hK => (by go_step; exact hK _ (Below.refl _ _))) (by rfl) (by rfl) ?_
      refine tk_wp rfl rfl rfl (by rfl) (fun w hst K hK => (by go_step; exact hK _ (Below.refl _ _))) (by rfl) (by rfl) ?_
      refine tk_nil ?_
      refine rg_two (i := 5) (j := 9) (n := 5) (by kernel_rfl) rfl rfl rfl rfl (fun w' hst => wo_buildSlice1 (v := nB y) rfl elt29 (by decide) rfl (row_one _) hst (fun b22 w22 hb22 hst22 => ⟨[(b22, _)], hst22, ?_⟩)) (fun w' hst => wo_alloc rfl hst zer25 (fun b10 w10 hb10 hst10 => ⟨[(b10, _)], hst10, ?_⟩))
      · simp only [put_lit, setL]
        refine rg_two (i := 6) (j := 9) (n := 4) (by kernel_rfl) rfl rfl rfl rfl (fun w' hst => wo_buildSliceN (l := [.slice ad8 c8n c8, .slice ad info.length c, .slice (some ⟨b22, 0, none⟩) 1 1]) rfl elt22 rfl rfl rfl (by decide) hst (fun b23 w23 hb23 hst23 => ⟨[(b23, _)], hst23, ?_⟩)) (fun w' hst => wo_alloc rfl hst zer25 (fun b10 w10 hb10 hst10 => ⟨[(b10, _)], hst10, ?_⟩))
        · simp only [put_lit, setL]
          refine rg_two (i := 7) (j := 9) (n := 3) (by kernel_rfl) rfl rfl rfl rfl (fun w' hst => wo_call pl14 rfl rfl (joined_any _ [(Sha.expB key info k).2, info, [y]] _ (HBss.out b23 b22 _ _ hst (by simp) (by simp) (fun p hp => hst.own p (by simp [hp]))) (by simp) (by rw [F1.out]; exact Nat.le_trans N1.out (by decide))) (fun v24 w24 hR24 => ?_)) (fun w' hst => wo_alloc rfl hst zer25 (fun b10 w10 hb10 hst10 => ⟨[(b10, _)], hst10, ?_⟩))
          · obtain ⟨E24, hown24, hst24⟩ := hR24
            rw [F1.out] at hown24
            refine ⟨E24, hst.call hst24, ?_⟩
            simp only [put_lit, setL]
            refine rg_two (i := 8) (j := 9) (n := 2) (by kernel_rfl) rfl rfl rfl rfl (fun w' hst => wo_call pl16 rfl rfl (refmac_any _ _ key _ _ (HBK.out _ _ hst (by simp)) (Bs.of_ownp hown24 G1.out (fun p hp => hst.own p (by simp [hp]))) (by omega) N1.out (hK.keep hst.none)) (fun v25 w25 hR25 => ?_)) (fun w' hst => wo_alloc rfl hst zer25 (fun b10 w10 hb10 hst10 => ⟨[(b10, _)], hst10, ?_⟩))
            · obtain ⟨rfl, hst25⟩ := hR25
              refine ⟨[], hst.call hst25, ?_⟩
              simp only [put_lit, setL]
              refine rg_st (i := 9) (n := 1) (by kernel_rfl) rfl rfl rfl (fun w' hst => wo_alloc rfl hst zer25 (fun b10 w10 hb10 hst10 => ⟨[(b10, _)], hst10, ?_⟩))
              simp only [put_lit, setL]
              refine rg_last (i := 10) (by kernel_rfl) rfl rfl (by kernel_rfl) (by kernel_rfl) ?_; intro w' hst; have hst2 : St w [] ((b10, blk 32 (fun _ => nB 0) 25) :: (E ++ (L9 ++ [(b3, blk 32 (bF key) 25)]))) w' := hst.sub (by first | exact List.Sublist.cons_cons _ ((List.Sublist.cons _ (List.Sublist.cons _ (List.Sublist.refl _))).trans (List.sublist_append_right E24 _)) | exact (List.Sublist.cons_cons _ (List.Sublist.cons _ (List.Sublist.cons _ (List.Sublist.refl _)))).trans (List.sublist_append_right E24 _) | exact (List.Sublist.cons _ (List.Sublist.cons_cons _ (List.Sublist.cons _ (List.Sublist.refl _)))).trans (List.sublist_append_right E24 _) | exact (List.Sublist.cons _ (List.Sublist.cons _ (List.Sublist.cons_cons _ (List.Sublist.refl _)))).trans (List.sublist_append_right E24 _)); refine wo_storeAll rfl rfl rfl hst2 Pick.head agg25 (fun j _ => oneC_b _ j) (by (conv => lhs; simp only [put_lit, put_none, setL]) <;> rfl) ?_; intro w1 hst1
              clear hst hst2
              have hst := hst1
              clear hst1
              go_wp2_with (first
      | ((with_reducible refine at_op (o := ⟨some 29, _, _, _, _, _⟩) ?_); go_loud (refine wl_append rfl rfl elt29 rfl rfl hown8m (L := (b10, _) :: (L9 ++ [(b3, blk 32 (bF key) 25)])) (hst.perm (by exact List.perm_middle.symm)) (.inr ⟨b10, 0, 32, _, rfl, hst.hasb Pick.head, by omega, fun j _ => by rw [Nat.zero_add]⟩) (by intro h; cases h) (by intro j _; rfl) (by omega) (by unfold maxLen; omega) ?_; intro v34 w34 E34 hown34 hst34 _; clear hst; have hst := hst34; clear hst34)))
              go_wp2_with fail
              go_roundw
              case rel => exact ⟨k + 1, E34, [(b10, _)], by omega, by have := HY.out; go_num, by rw [HT.out, ← glue_bF _ _ m HM.out.symm]; exact hown34.len (by rw [List.length_append, hmac_len, ← HM.out]), by rw [HT.out]; exact .inr ⟨b10, 32, _, rfl, Nat.le_refl _, by simp [maxLen], rfl, fun _ _ => rfl⟩, hst.sub (List.Sublist.append_left (List.Sublist.cons_cons _ (List.sublist_append_right _ _)) _)⟩
              case measure => obtain ⟨ad5, c5, rfl, _⟩ := hown34.slice; simp only [vlen]; omega
            · simp only [put_lit, setL]
              refine rg_st (i := 8) (n := 1) (by kernel_rfl) rfl rfl rfl (fun w' hst => wo_call pl16 rfl rfl (refmac_any _ _ key _ _ (HBK.out _ _ hst (by simp)) (Bs.of_ownp hown24 G1.out (fun p hp => hst.own p (by simp [hp]))) (by omega) N1.out (hK.keep hst.none)) (fun v25 w25 hR25 => ?_))
              obtain ⟨rfl, hst25⟩ := hR25
              refine ⟨[], hst.call hst25, ?_⟩
              simp only [put_lit, setL]
              refine rg_last (i := 10) (by kernel_rfl) rfl rfl (by kernel_rfl) (by kernel_rfl) ?_; intro w' hst; have hst2 : St w [] ((b10, blk 32 (fun _ => nB 0) 25) :: (E ++ (L9 ++ [(b3, blk 32 (bF key) 25)]))) w' := hst.sub (by first | exact List.Sublist.cons_cons _ ((List.Sublist.cons _ (List.Sublist.cons _ (List.Sublist.refl _))).trans (List.sublist_append_right E24 _)) | exact (List.Sublist.cons_cons _ (List.Sublist.cons _ (List.Sublist.cons _ (List.Sublist.refl _)))).trans (List.sublist_append_right E24 _) | exact (List.Sublist.cons _ (List.Sublist.cons_cons _ (List.Sublist.cons _ (List.Sublist.refl _)))).trans (List.sublist_append_right E24 _) | exact (List.Sublist.cons _ (List.Sublist.cons _ (List.Sublist.cons_cons _ (List.Sublist.refl _)))).trans (List.sublist_append_right E24 _)); refine wo_storeAll rfl rfl rfl hst2 Pick.head agg25 (fun j _ => oneC_b _ j) (by (conv => lhs; simp only [put_lit, put_none, setL]) <;> rfl) ?_; intro w1 hst1
              clear hst hst2
              have hst := hst1
              clear hst1
              go_wp2_with (first
      | ((with_reducible refine at_op (o := ⟨some 29, _, _, _, _, _⟩) ?_); go_loud (refine wl_append rfl rfl elt29 rfl rfl hown8m (L := (b10, _) :: (L9 ++ [(b3, blk 32 (bF key) 25)])) (hst.perm (by exact List.perm_middle.symm)) (.inr ⟨b10, 0, 32, _, rfl, hst.hasb Pick.head, by omega, fun j _ => by rw [Nat.zero_add]⟩) (by intro h; cases h) (by intro j _; rfl) (by omega) (by unfold maxLen; omega) ?_; intro v34 w34 E34 hown34 hst34 _; clear hst; have hst := hst34; clear hst34)))
              go_wp2_with fail
              go_roundw
              case rel => exact ⟨k + 1, E34, [(b10, _)], by omega, by have := HY.out; go_num, by rw [HT.out, ← glue_bF _ _ m HM.out.symm]; exact hown34.len (by rw [List.length_append, hmac_len, ← HM.out]), by rw [HT.out]; exact .inr ⟨b10, 32, _, rfl, Nat.le_refl _, by simp [maxLen], rfl, fun _ _ => rfl⟩, hst.sub (List.Sublist.append_left (List.Sublist.cons_cons _ (List.sublist_append_right _ _)) _)⟩
              case measure => obtain ⟨ad5, c5, rfl, _⟩ := hown34.slice; simp only [vlen]; omega
          · simp only [put_lit, setL]
            refine rg_st (i := 7) (n := 2) (by kernel_rfl) rfl rfl rfl (fun w' hst => wo_call pl14 rfl rfl (joined_any _ [(Sha.expB key info k).2, info, [y]] _ (HBss.out b23 b22 _ _ hst (by simp) (by simp) (fun p hp => hst.own p (by simp [hp]))) (by simp) (by rw [F1.out]; exact Nat.le_trans N1.out (by decide))) (fun v24 w24 hR24 => ?_))
            obtain ⟨E24, hown24, hst24⟩ := hR24
            rw [F1.out] at hown24
            refine ⟨E24, hst.call hst24, ?_⟩
            simp only [put_lit, setL]
            refine rg_st (i := 8) (n := 1) (by kernel_rfl) rfl rfl rfl (fun w' hst => wo_call pl16 rfl rfl (refmac_any _ _ key _ _ (HBK.out _ _ hst (by simp)) (Bs.of_ownp hown24 G1.out (fun p hp => hst.own p (by simp [hp]))) (by omega) N1.out (hK.keep hst.none)) (fun v25 w25 hR25 => ?_))
            obtain ⟨rfl, hst25⟩ := hR25
            refine ⟨[], hst.call hst25, ?_⟩
            simp only [put_lit, setL]
            refine rg_last (i := 10) (by kernel_rfl) rfl rfl (by kernel_rfl) (by kernel_rfl) ?_; intro w' hst; have hst2 : St w [] ((b10, blk 32 (fun _ => nB 0) 25) :: (E ++ (L9 ++ [(b3, blk 32 (bF key) 25)]))) w' := hst.sub (by first | exact List.Sublist.cons_cons _ ((List.Sublist.cons _ (List.Sublist.cons _ (List.Sublist.refl _))).trans (List.sublist_append_right E24 _)) | exact (List.Sublist.cons_cons _ (List.Sublist.cons _ (List.Sublist.cons _ (List.Sublist.refl _)))).trans (List.sublist_append_right E24 _) | exact (List.Sublist.cons _ (List.Sublist.cons_cons _ (List.Sublist.cons _ (List.Sublist.refl _)))).trans (List.sublist_append_right E24 _) | exact (List.Sublist.cons _ (List.Sublist.cons _ (List.Sublist.cons_cons _ (List.Sublist.refl _)))).trans (List.sublist_append_right E24 _)); refine wo_storeAll rfl rfl rfl hst2 Pick.head agg25 (fun j _ => oneC_b _ j) (by (conv => lhs; simp only [put_lit, put_none, setL]) <;> rfl) ?_; intro w1 hst1
            clear hst hst2
            have hst := hst1
            clear hst1
            go_wp2_with (first
      | ((with_reducible refine at_op (o := ⟨some 29, _, _, _, _, _⟩) ?_); go_loud (refine wl_append rfl rfl elt29 rfl rfl hown8m (L := (b10, _) :: (L9 ++ [(b3, blk 32 (bF key) 25)])) (hst.perm (by exact List.perm_middle.symm)) (.inr ⟨b10, 0, 32, _, rfl, hst.hasb Pick.head, by omega, fun j _ => by rw [Nat.zero_add]⟩) (by intro h; cases h) (by intro j _; rfl) (by omega) (by unfold maxLen; omega) ?_; intro v34 w34 E34 hown34 hst34 _; clear hst; have hst := hst34; clear hst34)))
            go_wp2_with fail
            go_roundw
            case rel => exact ⟨k + 1, E34, [(b10, _)], by omega, by have := HY.out; go_num, by rw [HT.out, ← glue_bF _ _ m HM.out.symm]; exact hown34.len (by rw [List.length_append, hmac_len, ← HM.out]), by rw [HT.out]; exact .inr ⟨b10, 32, _, rfl, Nat.le_refl _, by simp [maxLen], rfl, fun _ _ => rfl⟩, hst.sub (List.Sublist.append_left (List.Sublist.cons_cons _ (List.sublist_append_right _ _)) _)⟩
            case measure => obtain ⟨ad5, c5, rfl, _⟩ := hown34.slice; simp only [vlen]; omega
        · simp only [put_lit, setL]
          refine rg_st (i := 6) (n := 3) (by kernel_rfl) rfl rfl rfl (fun w' hst => wo_buildSliceN (l := [.slice ad8 c8n c8, .slice ad info.length c, .slice (some ⟨b22, 0, none⟩) 1 1]) rfl elt22 rfl rfl rfl (by decide) hst (fun b23 w23 hb23 hst23 => ⟨[(b23, _)], hst23, ?_⟩))
          simp only [put_lit, setL]
          refine rg_st (i := 7) (n := 2) (by kernel_rfl) rfl rfl rfl (fun w' hst => wo_call pl14 rfl rfl (joined_any _ [(Sha.expB key info k).2, info, [y]] _ (HBss.out b23 b22 _ _ hst (by simp) (by simp) (fun p hp => hst.own p (by simp [hp]))) (by simp) (by rw [F1.out]; exact Nat.le_trans N1.out (by decide))) (fun v24 w24 hR24 => ?_))
          obtain ⟨E24, hown24, hst24⟩ := hR24
          rw [F1.out] at hown24
          refine ⟨E24, hst.call hst24, ?_⟩
          simp only [put_lit, setL]
          refine rg_st (i := 8) (n := 1) (by kernel_rfl) rfl rfl rfl (fun w' hst => wo_call pl16 rfl rfl (refmac_any _ _ key _ _ (HBK.out _ _ hst (by simp)) (Bs.of_ownp hown24 G1.out (fun p hp => hst.own p (by simp [hp]))) (by omega) N1.out (hK.keep hst.none)) (fun v25 w25 hR25 => ?_))
          obtain ⟨rfl, hst25⟩ := hR25
          refine ⟨[], hst.call hst25, ?_⟩
          simp only [put_lit, setL]
          refine rg_last (i := 10) (by kernel_rfl) rfl rfl (by kernel_rfl) (by kernel_rfl) ?_; intro w' hst; have hst2 : St w [] ((b10, blk 32 (fun _ => nB 0) 25) :: (E ++ (L9 ++ [(b3, blk 32 (bF key) 25)]))) w' := hst.sub (by first | exact List.Sublist.cons_cons _ ((List.Sublist.cons _ (List.Sublist.cons _ (List.Sublist.refl _))).trans (List.sublist_append_right E24 _)) | exact (List.Sublist.cons_cons _ (List.Sublist.cons _ (List.Sublist.cons _ (List.Sublist.refl _)))).trans (List.sublist_append_right E24 _) | exact (List.Sublist.cons _ (List.Sublist.cons_cons _ (List.Sublist.cons _ (List.Sublist.refl _)))).trans (List.sublist_append_right E24 _) | exact (List.Sublist.cons _ (List.Sublist.cons _ (List.Sublist.cons_cons _ (List.Sublist.refl _)))).trans (List.sublist_append_right E24 _)); refine wo_storeAll rfl rfl rfl hst2 Pick.head agg25 (fun j _ => oneC_b _ j) (by (conv => lhs; simp only [put_lit, put_none, setL]) <;> rfl) ?_; intro w1 hst1
          clear hst hst2
          have hst := hst1
          clear hst1
          go_wp2_with (first
      | ((with_reducible refine at_op (o := ⟨some 29, _, _, _, _, _⟩) ?_); go_loud (refine wl_append rfl rfl elt29 rfl rfl hown8m (L := (b10, _) :: (L9 ++ [(b3, blk 32 (bF key) 25)])) (hst.perm (by exact List.perm_middle.symm)) (.inr ⟨b10, 0, 32, _, rfl, hst.hasb Pick.head, by omega, fun j _ => by rw [Nat.zero_add]⟩) (by intro h; cases h) (by intro j _; rfl) (by omega) (by unfold maxLen; omega) ?_; intro v34 w34 E34 hown34 hst34 _; clear hst; have hst := hst34; clear hst34)))
          go_wp2_with fail
          go_roundw
          case rel => exact ⟨k + 1, E34, [(b10, _)], by omega, by have := HY.out; go_num, by rw [HT.out, ← glue_bF _ _ m HM.out.symm]; exact hown34.len (by rw [List.length_append, hmac_len, ← HM.out]), by rw [HT.out]; exact .inr ⟨b10, 32, _, rfl, Nat.le_refl _, by simp [maxLen], rfl, fun _ _ => rfl⟩, hst.sub (List.Sublist.append_left (List.Sublist.cons_cons _ (List.sublist_append_right _ _)) _)⟩
          case measure => obtain ⟨ad5, c5, rfl, _⟩ := hown34.slice; simp only [vlen]; omega
      · simp only [put_lit, setL]
        refine rg_st (i := 5) (n := 4) (by kernel_rfl) rfl rfl rfl (fun w' hst => wo_buildSlice1 (v := nB y) rfl elt29 (by decide) rfl (row_one _) hst (fun b22 w22 hb22 hst22 => ⟨[(b22, _)], hst22, ?_⟩))
        simp only [put_lit, setL]
        refine rg_st (i := 6) (n := 3) (by kernel_rfl) rfl rfl rfl (fun w' hst => wo_buildSliceN (l := [.slice ad8 c8n c8, .slice ad info.length c, .slice (some ⟨b22, 0, none⟩) 1 1]) rfl elt22 rfl rfl rfl (by decide) hst (fun b23 w23 hb23 hst23 => ⟨[(b23, _)], hst23, ?_⟩))
        simp only [put_lit, setL]
        refine rg_st (i := 7) (n := 2) (by kernel_rfl) rfl rfl rfl (fun w' hst => wo_call pl14 rfl rfl (joined_any _ [(Sha.expB key info k).2, info, [y]] _ (HBss.out b23 b22 _ _ hst (by simp) (by simp) (fun p hp => hst.own p (by simp [hp]))) (by simp) (by rw [F1.out]; exact Nat.le_trans N1.out (by decide))) (fun v24 w24 hR24 => ?_))
        obtain ⟨E24, hown24, hst24⟩ := hR24
        rw [F1.out] at hown24
        refine ⟨E24, hst.call hst24, ?_⟩
        simp only [put_lit, setL]
        refine rg_st (i := 8) (n := 1) (by kernel_rfl) rfl rfl rfl (fun w' hst => wo_call pl16 rfl rfl (refmac_any _ _ key _ _ (HBK.out _ _ hst (by simp)) (Bs.of_ownp hown24 G1.out (fun p hp => hst.own p (by simp [hp]))) (by omega) N1.out (hK.keep hst.none)) (fun v25 w25 hR25 => ?_))
        obtain ⟨rfl, hst25⟩ := hR25
        refine ⟨[], hst.call hst25, ?_⟩
        simp only [put_lit, setL]
        refine rg_last (i := 10) (by kernel_rfl) rfl rfl (by kernel_rfl) (by kernel_rfl) ?_; intro w' hst; have hst2 : St w [] ((b10, blk 32 (fun _ => nB 0) 25) :: (E ++ (L9 ++ [(b3, blk 32 (bF key) 25)]))) w' := hst.sub (by first | exact List.Sublist.cons_cons _ ((List.Sublist.cons _ (List.Sublist.cons _ (List.Sublist.refl _))).trans (List.sublist_append_right E24 _)) | exact (List.Sublist.cons_cons _ (List.Sublist.cons _ (List.Sublist.cons _ (List.Sublist.refl _)))).trans (List.sublist_append_right E24 _) | exact (List.Sublist.cons _ (List.Sublist.cons_cons _ (List.Sublist.cons _ (List.Sublist.refl _)))).trans (List.sublist_append_right E24 _) | exact (List.Sublist.cons _ (List.Sublist.cons _ (List.Sublist.cons_cons _ (List.Sublist.refl _)))).trans (List.sublist_append_right E24 _)); refine wo_storeAll rfl rfl rfl hst2 Pick.head agg25 (fun j _ => oneC_b _ j) (by (conv => lhs; simp only [put_lit, put_none, setL]) <;> rfl) ?_; intro w1 hst1
        clear hst hst2
        have hst := hst1
        clear hst1
        go_wp2_with (first
      | ((with_reducible refine at_op (o := ⟨some 29, _, _, _, _, _⟩) ?_); go_loud (refine wl_append rfl rfl elt29 rfl rfl hown8m (L := (b10, _) :: (L9 ++ [(b3, blk 32 (bF key) 25)])) (hst.perm (by exact List.perm_middle.symm)) (.inr ⟨b10, 0, 32, _, rfl, hst.hasb Pick.head, by omega, fun j _ => by rw [Nat.zero_add]⟩) (by intro h; cases h) (by intro j _; rfl) (by omega) (by unfold maxLen; omega) ?_; intro v34 w34 E34 hown34 hst34 _; clear hst; have hst := hst34; clear hst34)))
        go_wp2_with fail
        go_roundw
        case rel => exact ⟨k + 1, E34, [(b10, _)], by omega, by have := HY.out; go_num, by rw [HT.out, ← glue_bF _ _ m HM.out.symm]; exact hown34.len (by rw [List.length_append, hmac_len, ← HM.out]), by rw [HT.out]; exact .inr ⟨b10, 32, _, rfl, Nat.le_refl _, by simp [maxLen], rfl, fun _ _ => rfl⟩, hst.sub (List.Sublist.append_left (List.Sublist.cons_cons _ (List.sublist_append_right _ _)) _)⟩
        case measure => obtain ⟨ad5, c5, rfl, _⟩ := hown34.slice; simp only [vlen]; omega
    · obtain rfl : k = (n + 31) / 32 := by omega
      have hB := Bs.of_own hown8 hlt8 hst
      rw [← hm] at hlen hc7 ⊢
      have hmn : n ≤ m := by omega
      have hmn2 : ¬ m < n := by omega
      have hR := Own.cut hown8m hmn
      have HSp := Lib.hid hown8m.spot
      go_wp2_with (fail)
      go_ret
      exact ⟨_, rfl, _, hR, hst.sub (List.sublist_append_left _ _)⟩
end Go.Proofs.YtpidapgglkoogaaDoor
