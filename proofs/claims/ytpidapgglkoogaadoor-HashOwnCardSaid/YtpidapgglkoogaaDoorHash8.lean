/- The walks of hash.Extract, Expand, Derive. -/
import Derived.Test.YtpidapgglkoogaaDoorHash7
import Derived.Test.YtpidapgglkoogaaDoorLibK
namespace Go.Proofs.YtpidapgglkoogaaDoor
open Go.RowKit Go.Jal

set_option maxRecDepth 100000 in
theorem extract_any (v t : Value) (salt key : List Nat) (w : World) (h : Bs w v salt) (ht : Bs w t key) (hk : salt.length ≤ 1000000000000) (hl : key.length ≤ 100000000000) (hK : Has w 1 64 (wF Sha.K)) :
    Ret Tryd.prog 17 #[v, t] w fun v' w' => v' = .agg (row 32 (bF (Sha.hmac salt key))) ∧ St w [] [] w' := by
  go_enter Tryd.func17, Tryd.ntmps17
  have hst := St.refl w
  go_wp2_with (first
      | ((with_reducible refine at_op (o := ⟨some 4, _, _, _, _, _⟩) ?_); go_loud (refine wl_alloc rfl rfl hst zer26 ?_; intro b4 w4 hb4 hst1; clear hst; have hst := hst1; clear hst1))
      | ((with_reducible refine at_op (o := ⟨some 7, _, _, _, _, _⟩) ?_); go_loud (refine wl_buildSlice1 (v := t) (g := fun _ => t) rfl rfl elt22 (by decide) rfl (by obtain ⟨_, _, rfl, _⟩ := ht; exact row_one _) hst ?_; intro b7 w7 hb7 hst1; clear hst; have hst := hst1; clear hst1))
      | ((with_reducible refine at_op (o := ⟨some 8, _, _, _, _, _⟩) ?_); go_loud (refine wl_call pl15 rfl rfl rfl (mac_any _ _ salt [key] _ (h.keep hst) (Bss.one (hst.hasb Pick.head) (ht.keep hst)) hk (by simp) (by simpa using hl) (by simpa using ht.lt) (hK.keep hst)) ?_; rintro v8 w8 ⟨rfl, hst8⟩; replace hst := hst.call hst8; clear hst8))
      | ((with_reducible refine at_op (o := ⟨none, .store 26 (.tmp 4) (.tmp 8), _, _, _, _⟩) ?_); go_loud ((first | (refine wl_storeAll rfl rfl rfl rfl hst (by repeat (first | exact Pick.head | apply Pick.tail)) agg26 (by intro j hj; first | rfl | exact lstF_one rfl j hj | simp [oneC, hj]) (by (conv => lhs; simp only [put_lit, put_none, setL]) <;> rfl) ?_) | (refine wl_storeN rfl rfl rfl rfl hst (by repeat (first | exact Pick.head | apply Pick.tail)) (by omega) agg26 (by intro j hj; first | rfl | exact lstF_one rfl j hj | simp [oneC, hj]) (by (conv => lhs; simp only [put_lit, put_none, setL]) <;> rfl) ?_)); intro w1 hst1; clear hst; have hst := hst1; clear hst1)))
  have hflat : [key].flatten = key := by simp
  rw [hflat] at hst
  exact ret_cellN rfl rfl (St.hasb hst Pick.head) agg26 rfl ⟨_, rfl, rfl, hst.none⟩

theorem expB_len (key info : List Nat) : ∀ n, (Sha.expB key info n).1.length = 32 * n
  | 0 => rfl
  | n + 1 => by simp only [Sha.expB, List.length_append, hmac_len, expB_len key info n]; omega
theorem expB_lt (key info : List Nat) : ∀ n, (∀ x ∈ (Sha.expB key info n).1, x < 256) ∧ ∀ x ∈ (Sha.expB key info n).2, x < 256
  | 0 => by simp [Sha.expB]
  | n + 1 => by
    refine ⟨fun x hx => ?_, fun x hx => hmac_lt _ _ x hx⟩
    rcases List.mem_append.1 hx with hx | hx
    · exact (expB_lt key info n).1 x hx
    · exact hmac_lt _ _ x hx
theorem expB_len2 (key info : List Nat) (n : Nat) : (Sha.expB key info n).2.length ≤ 32 := by
  cases n with
  | zero => simp [Sha.expB]
  | succ n => exact Nat.le_of_eq (hmac_len _ _)

theorem expB_pre (key info : List Nat) (a : Nat) : ∀ d, (Sha.expB key info (a + d)).1.take (32 * a) = (Sha.expB key info a).1
  | 0 => by rw [Nat.add_zero, List.take_of_length_le (by rw [expB_len]; omega)]
  | d + 1 => by
    show ((Sha.expB key info (a + d)).1 ++ _).take _ = _
    rw [List.take_append_of_le_length (by rw [expB_len]; omega)]
    exact expB_pre key info a d
theorem expand_len (key info : List Nat) (n : Nat) : (Sha.expand key info n).length = n := by
  unfold Sha.expand
  rw [List.length_take, expB_len]; omega
theorem expand_lt (key info : List Nat) (n : Nat) : ∀ x ∈ Sha.expand key info n, x < 256 := fun x hx => (expB_lt key info _).1 x (List.mem_of_mem_take hx)
theorem expand_take (key info : List Nat) {n m : Nat} (h : n ≤ m) : (Sha.expand key info m).take n = Sha.expand key info n := by
  obtain ⟨d, hd⟩ : ∃ d, (m + 31) / 32 = (n + 31) / 32 + d := ⟨(m + 31) / 32 - (n + 31) / 32, by omega⟩
  unfold Sha.expand
  rw [List.take_take, Nat.min_eq_left h, hd]
  conv => rhs; rw [← expB_pre key info _ d, List.take_take, Nat.min_eq_left (by omega)]
/-- the first n cells of a block of its own, as a slice -/
def Part (e : TypeId) (ad : Option Addr) (n : Nat) (g : Nat → Value) (E : List (Nat × Obj)) : Prop :=
  (ad = none ∧ n = 0 ∧ E = []) ∨ ∃ b N f, ad = some ⟨b, 0, none⟩ ∧ n ≤ N ∧ E = [(b, blk N f e)] ∧ ∀ j, j < n → f j = g j
theorem Own.part {e : TypeId} {ad : Option Addr} {m c n : Nat} {l : List Nat} {E : List (Nat × Obj)} (h : Own 1 e (.slice ad m c) m (bF l) E) (hn : n ≤ m) : Part e ad n (bF (l.take n)) E := by
  rcases h with ⟨h, h2, rfl⟩ | ⟨b, cap, f, h, h2, _, rfl, h5⟩
  · cases h
    exact .inl ⟨rfl, by omega, rfl⟩
  · cases h
    exact .inr ⟨b, c * 1, f, rfl, by omega, rfl, fun j hj => by
      rw [h5 j (by omega)]
      unfold bF
      simp only [List.getD_eq_getElem?_getD, List.getElem?_take_of_lt hj]⟩
set_option maxRecDepth 100000 in
set_option maxHeartbeats 2000000 in
theorem expand_own (key : List Nat) (v : Value) (info : List Nat) (n : Nat) (w : World) (hk : key.length = 32) (hkl : ∀ x ∈ key, x < 256) (h : Bs w v info) (hl : info.length ≤ 10000000000) (hn : n ≤ 8160) (hK : Has w 1 64 (wF Sha.K)) :
    Ret Tryd.prog 18 #[.agg (row 32 (bF key)), v, nI n] w fun v' w' => ∃ ad E, v' = .tuple #[.slice ad n n, nI 0] ∧ Bs w' (.slice ad n n) (Sha.expand key info n) ∧ Part 5 ad n (bF (Sha.expand key info n)) E ∧ St w [] E w' := by
  obtain ⟨ad, c, rfl, _⟩ := id h
  have HKL := Lib.hid hkl
  clear hkl
  go_enter Tryd.func18, Tryd.ntmps18
  have hst := St.refl w
  go_wp2_with (first
      | ((with_reducible refine at_op (o := ⟨some 3, _, _, _, _, _⟩) ?_); go_loud (refine wl_box rfl rfl rfl (by first | rfl | exact row_one _) hst ?_; intro b3 w3 hb3 hst1; clear hst; have hst := hst1; clear hst1)))
  go_loopw [8, 9, 10] (fun v8 v9 i wr => ∃ (k : Nat) (E L9 : List (Nat × Obj)), k ≤ (n + 31) / 32 ∧ i = nB ((k + 1) % 256) ∧ Own 1 5 v8 (Sha.expB key info k).1.length (bF (Sha.expB key info k).1) E ∧ Own 1 26 v9 (Sha.expB key info k).2.length (bF (Sha.expB key info k).2) L9 ∧
    St w [] (E ++ (L9 ++ [(b3, blk 32 (bF key) 26)])) wr) (fun v8 _ _ _ => n + 32 - vlen v8)
  case atStart => exact ⟨0, [], [], by omega, rfl, Own.nil, Own.nil, hst⟩
  case round =>
    clear hst
    obtain ⟨k, E, L9, hkn, rfl, hown8, hown9, hst⟩ := hrel
    have hlen := expB_len key info k
    have hlen9 := expB_len2 key info k
    have hlt8 := (expB_lt key info k).1
    have hlt9 := (expB_lt key info k).2
    obtain ⟨m, hm⟩ : ∃ m, m = (Sha.expB key info k).1.length := ⟨_, rfl⟩
    obtain ⟨ad8, c8, rfl, hc8, hm8, hnil8⟩ := hown8.slice
    have hown8m := hown8
    rw [← hm] at hown8m
    by_cases hkl : k < (n + 31) / 32
    · obtain ⟨y, hy⟩ : ∃ y, y = (k + 1) % 256 := ⟨_, rfl⟩
      have hy2 : (y + 1) % 256 = (k + 1 + 1) % 256 := by omega
      have by1 : y < 256 := by omega
      have hB9 := Bs.of_own (L := [(b3, blk 32 (bF key) 26)]) hown9 hlt9 (hst.sub (List.sublist_append_right _ _))
      have HT : Hid (Sha.expB key info (k + 1) = ((Sha.expB key info k).1 ++ Sha.hmac key ((Sha.expB key info k).2 ++ info ++ [y]), Sha.hmac key ((Sha.expB key info k).2 ++ info ++ [y]))) := by rw [hy]; rfl
      have HBss : Hid (∀ (b11 b29 b28 : Nat) (L : List (Nat × Obj)) (v9 w' : _), St w [] L w' → (b29, blk 3 (lstF [v9, .slice ad info.length c, .slice (some ⟨b28, 0, none⟩) 1 1]) 29) ∈ L → (b28, blk 1 (fun _ => nB y) 5) ∈ L → Bs w' v9 (Sha.expB key info k).2 →
          Bss w' (.slice (some ⟨b29, 0, none⟩) 3 3) [(Sha.expB key info k).2, info, [y]]) := by
        show ∀ _, _
        intro b11 b29 b28 L v9 w' hst h29 h28 h9
        refine Bss.of_blk ⟨_, _, hst.own _ h29⟩ rfl (by decide) fun j hj => ?_
        obtain rfl | rfl | rfl : j = 0 ∨ j = 1 ∨ j = 2 := by omega
        · exact h9
        · exact h.keep hst.none
        · exact Bs.of_blk (l := [y]) ⟨_, _, hst.own _ h28⟩ (by simp) (fun j hj => by obtain rfl : j = 0 := (by simpa using hj); rfl) (by simpa using by1) (by simp) (by simp [maxLen])
      have HBK : Hid (∀ (L : List (Nat × Obj)) (w' : World), St w [] L w' → (b3, blk 32 (bF key) 26) ∈ L → Bs w' (.slice (some ⟨b3, 0, none⟩) 32 32) key) := by
        show ∀ _, _
        intro L w' hst hm
        have := Bs.of_blk (cap := 32) (off := 0) (l := key) ⟨_, _, hst.own _ hm⟩ (by omega) (fun j _ => by rw [Nat.zero_add]) HKL.out (by omega) (by simp [maxLen])
        rwa [hk] at this
      have h9s := hown9.slice
      obtain ⟨ad9, c9, rfl, hc9⟩ := h9s
      have HY := Lib.hid hy
      have HL9 := Lib.hid hlt9
      have HLT : Hid (∀ x ∈ [(Sha.expB key info k).2, info, [y]].flatten, x < 256) := by
        show ∀ _, _
        intro x hx
        simp only [List.flatten_cons, List.flatten_nil, List.append_nil, List.mem_append, List.mem_singleton] at hx
        rcases hx with hx | hx | hx
        · exact hlt9 x hx
        · exact h.lt x hx
        · omega
      rw [← hm] at hlen hc8 ⊢
      rw [← hy]
      have HM := Lib.hid hm
      have hmn : m < n := by omega
      clear hy hm hlt8 hlt9
      go_wp2_with (first
      | ((with_reducible refine at_op (o := ⟨some 28, _, _, _, _, _⟩) ?_); go_loud (refine wl_buildSlice1 (v := nB y) rfl rfl elt29 (by decide) rfl (row_one _) hst ?_; intro b28 w28 hb28 hst1; clear hst; have hst := hst1; clear hst1))
      | ((with_reducible refine at_op (o := ⟨some 29, _, _, _, _, _⟩) ?_); go_loud (refine wl_buildSliceN (l := [.slice ad9 (Sha.expB key info k).2.length c9, .slice ad info.length c, .slice (some ⟨b28, 0, none⟩) 1 1]) rfl rfl elt22 rfl rfl rfl (by decide) hst ?_; intro b29 w29 hb29 hst1; clear hst; have hst := hst1; clear hst1))
      | ((with_reducible refine at_op (o := ⟨some 30, _, _, _, _, _⟩) ?_); go_loud (refine wl_call pl15 rfl rfl rfl (mac_any _ _ key [(Sha.expB key info k).2, info, [y]] _ (HBK.out _ _ hst (by simp)) (HBss.out 0 b29 b28 _ _ _ hst (by simp) (by simp) (Bs.of_own hown9 HL9.out (hst.sub (.cons _ (.cons _ (List.sublist_append_right E _)))))) (by omega) (by simp) (by simp only [List.flatten_cons, List.flatten_nil, List.append_nil, List.length_append, List.length_singleton]; omega) HLT.out (hK.keep hst.none)) ?_; rintro v30 w30 ⟨rfl, hst30⟩; replace hst := hst.call hst30; clear hst30))
      | ((with_reducible refine at_op (o := ⟨some 11, _, _, _, _, _⟩) ?_); go_loud (refine wl_alloc rfl rfl hst zer26 ?_; intro b11 w11 hb11 hst1; clear hst; have hst := hst1; clear hst1))
      | ((with_reducible refine at_op (o := ⟨none, .store 26 (.tmp 11) (.tmp 30), _, _, _, _⟩) ?_); go_loud ((first | (refine wl_storeAll rfl rfl rfl rfl hst (by repeat (first | exact Pick.head | apply Pick.tail)) agg26 (by intro j hj; first | rfl | exact lstF_one rfl j hj | simp [oneC, hj]) (by (conv => lhs; simp only [put_lit, put_none, setL]) <;> rfl) ?_) | (refine wl_storeN rfl rfl rfl rfl hst (by repeat (first | exact Pick.head | apply Pick.tail)) (by omega) agg26 (by intro j hj; first | rfl | exact lstF_one rfl j hj | simp [oneC, hj]) (by (conv => lhs; simp only [put_lit, put_none, setL]) <;> rfl) ?_)); intro w1 hst1; clear hst; have hst := hst1; clear hst1))
      | ((with_reducible refine at_op (o := ⟨some 34, _, _, _, _, _⟩) ?_); go_loud (refine wl_append rfl rfl elt29 rfl rfl hown8m (L := [(b11, _), (b29, _), (b28, _)] ++ (L9 ++ [(b3, blk 32 (bF key) 26)])) (hst.perm (by exact List.perm_append_comm_assoc [_, _, _] _ _)) (.inr ⟨b11, 0, 32, _, rfl, hst.hasb Pick.head, by omega, fun j _ => by rw [Nat.zero_add]⟩) (by intro h; cases h) (by intro j _; rfl) (by omega) (by unfold maxLen; omega) ?_; intro v34 w34 E34 hown34 hst34 _; clear hst; have hst := hst34; clear hst34)))
      go_wp2_with fail
      go_roundw
      case rel =>
        refine ⟨k + 1, E34, [(b11, _)], by omega, ?_, ?_, ?_, hst.sub (List.Sublist.append_left (List.Sublist.cons_cons _ (.cons _ (.cons _ (List.sublist_append_right _ _)))) _)⟩
        · rw [← hy2]; exact congrArg _ (by simp)
        · rw [HT.out]
          have hfl : [(Sha.expB key info k).2, info, [y]].flatten = (Sha.expB key info k).2 ++ info ++ [y] := by simp
          rw [hfl] at hown34
          rw [← glue_bF _ _ m HM.out.symm]
          exact hown34.len (by rw [List.length_append, hmac_len, ← HM.out])
        · rw [HT.out]
          have hfl : [(Sha.expB key info k).2, info, [y]].flatten = (Sha.expB key info k).2 ++ info ++ [y] := by simp
          rw [hfl]
          exact .inr ⟨b11, 32, _, rfl, Nat.le_refl _, by simp [maxLen], rfl, fun _ _ => rfl⟩
      case measure =>
        obtain ⟨ad5, c5, rfl, _⟩ := hown34.slice
        simp only [vlen]
        omega
    · obtain rfl : k = (n + 31) / 32 := by omega
      have hB := Bs.of_own hown8 hlt8 hst
      rw [← hm] at hlen hc8 ⊢
      have hmn : n ≤ m := by omega
      have hmn2 : ¬ m < n := by omega
      have hR := hown8m.take hm.symm hmn hlt8 hst
      have hP := Own.part hown8m hmn
      have HSp := Lib.hid hown8m.spot
      go_wp2_with (first
      | ((with_reducible refine at_op (o := ⟨some 38, _, _, _, _, _⟩) ?_); go_loud (refine wl_slice3 rfl rfl Tryd.underlying29 sc5.size rfl rfl rfl HSp.out (by omega) (by (conv => lhs; simp only [put_lit, put_none, setL]) <;> rfl) ?_)))
      go_ret2
      exact ⟨_, rfl, _, _, rfl, hR, hP, hst.sub (List.sublist_append_left _ _)⟩
theorem expand_any (key : List Nat) (v : Value) (info : List Nat) (n : Nat) (w : World) (hk : key.length = 32) (hkl : ∀ x ∈ key, x < 256) (h : Bs w v info) (hl : info.length ≤ 10000000000) (hn : n ≤ 8160) (hK : Has w 1 64 (wF Sha.K)) :
    Ret Tryd.prog 18 #[.agg (row 32 (bF key)), v, nI n] w fun v' w' => ∃ v'', v' = .tuple #[v'', nI 0] ∧ Bs w' v'' (Sha.expand key info n) ∧ St w [] [] w' :=
  Calls.mono (expand_own key v info n w hk hkl h hl hn hK) fun _ _ ⟨v', e, _, _, h1, h2, _, h3⟩ => ⟨v', e, _, h1, h2, h3.none⟩
set_option maxRecDepth 100000 in
theorem expand_no (key : List Nat) (v : Value) (n : Int) (w : World) (hn : n < 0 ∨ 8160 < n) :
    Ret Tryd.prog 18 #[.agg (row 32 (bF key)), v, .int .i64 n] w fun v' w' => v' = .tuple #[.slice none 0 0, .int .i64 1] ∧ St w [] [] w' := by
  go_enter Tryd.func18, Tryd.ntmps18
  have hst := St.refl w
  rcases hn with hn | hn
  · go_wp2_with (first
      | ((with_reducible refine at_op (o := ⟨some 3, _, _, _, _, _⟩) ?_); go_loud (refine wl_box rfl rfl rfl (by first | rfl | exact row_one _) hst ?_; intro b3 w3 hb3 hst1; clear hst; have hst := hst1; clear hst1))
      | ((with_reducible refine at_op (o := ⟨some 13, _, _, _, _, _⟩) ?_); go_loud (refine wl_cmp (p := n) (q := 0) (r := true) (by simp [cmpI] <;> omega) rfl rfl rfl rfl rfl (by (conv => lhs; simp only [put_lit, put_none, setL]) <;> rfl) ?_)))
    go_ret2
    exact ⟨_, rfl, rfl, hst.none⟩
  · go_wp2_with (first
      | ((with_reducible refine at_op (o := ⟨some 3, _, _, _, _, _⟩) ?_); go_loud (refine wl_box rfl rfl rfl (by first | rfl | exact row_one _) hst ?_; intro b3 w3 hb3 hst1; clear hst; have hst := hst1; clear hst1))
      | ((with_reducible refine at_op (o := ⟨some 13, _, _, _, _, _⟩) ?_); go_loud (refine wl_cmp (p := n) (q := 0) (r := false) (by simp [cmpI] <;> omega) rfl rfl rfl rfl rfl (by (conv => lhs; simp only [put_lit, put_none, setL]) <;> rfl) ?_))
      | ((with_reducible refine at_op (o := ⟨some 16, _, _, _, _, _⟩) ?_); go_loud (refine wl_cmp (p := n) (q := 8160) (r := true) (by simp [cmpI] <;> omega) rfl rfl rfl rfl rfl (by (conv => lhs; simp only [put_lit, put_none, setL]) <;> rfl) ?_)))
    go_ret2
    exact ⟨_, rfl, rfl, hst.none⟩
end Go.Proofs.YtpidapgglkoogaaDoor
