/- The walks of hash.Mac, Extract, Expand, Derive. -/
import Derived.Test.YtpidapgglkoogaaDoorHash6
namespace Go.Proofs.YtpidapgglkoogaaDoor
open Go.RowKit Go.Jal

theorem padKey_get {x : Nat} {k : List Nat} {j : Nat} (h : j < 64) : (Sha.padKey x k).getD j 0 = k.getD j 0 ^^^ x := by
  simp [Sha.padKey, List.getD_eq_getElem?_getD, h]

/-- the key while it is mixed -/
def xorF (x : Nat) (k : List Nat) (n : Nat) : Nat → Value := fun j => nB (if j < n then k.getD j 0 ^^^ x else k.getD j 0)
theorem xorF_zero (x : Nat) (k : List Nat) (T : TypeId) : blk 64 (bF k) T = blk 64 (xorF x k 0) T := blk_congr fun j _ => by unfold xorF bF; rw [if_neg (by omega)]
theorem xorF_end (x : Nat) (k : List Nat) (T : TypeId) : blk 64 (xorF x k 64) T = blk 64 (bF (Sha.padKey x k)) T := blk_congr fun j hj => by
  unfold xorF bF; rw [if_pos hj, padKey_get hj]
theorem xorF_step (x : Nat) (k : List Nat) (n : Nat) (T : TypeId) : blk 64 (upd (xorF x k n) n (nB (k.getD n 0 ^^^ x))) T = blk 64 (xorF x k (n + 1)) T := blk_congr fun j _ => by
  unfold upd xorF
  by_cases c : j = n
  · subst c; rw [if_pos rfl, if_pos (by omega)]
  · rw [if_neg c]
    by_cases d : j < n
    · rw [if_pos d, if_pos (by omega)]
    · rw [if_neg d, if_neg (by omega)]
theorem xorB (a b : Nat) (ha : a < 256) (hb : b < 256) : bits .xor .u8 a b = ((a ^^^ b : Nat) : Int) := by
  have hx : a ^^^ b < 2 ^ 8 := Nat.xor_lt_two_pow ha hb
  have ha' : a % 2 ^ IntKind.u8.bits = a := Nat.mod_eq_of_lt ha
  have hb' : b % 2 ^ IntKind.u8.bits = b := Nat.mod_eq_of_lt hb
  simp only [bits, BitVec.ofInt_natCast, BitVec.toNat_xor, BitVec.toNat_ofNat, ha', hb', IntKind.wrap_u8]
  omega
theorem hkey_lt {k : List Nat} (h : ∀ x ∈ k, x < 256) : ∀ x ∈ Sha.hkey k, x < 256 := by
  unfold Sha.hkey
  split
  · exact sha_lt k
  · exact h
theorem hkey_len {k : List Nat} : (Sha.hkey k).length ≤ 64 := by
  unfold Sha.hkey
  split
  · rw [sha_len]; decide
  · omega
theorem padKey_len (x : Nat) (k : List Nat) : (Sha.padKey x k).length = 64 := by simp [Sha.padKey]
theorem padKey_lt {x : Nat} {k : List Nat} (h : ∀ x ∈ k, x < 256) (hx : x < 256) : ∀ y ∈ Sha.padKey x k, y < 256 := by
  intro y hy
  obtain ⟨j, _, rfl⟩ := List.mem_map.1 hy
  exact Nat.xor_lt_two_pow (n := 8) (getD_lt h (by decide) j) hx
theorem hmac_len (k t : List Nat) : (Sha.hmac k t).length = 32 := rfl
theorem hmac_lt (k t : List Nat) : ∀ y ∈ Sha.hmac k t, y < 256 := sha_lt _

/-- One byte slice in a list of its own. -/
theorem Bss.one {w : World} {b : Nat} {v : Value} {l : List Nat} (hb : Has w b 1 (fun _ => v)) (hv : Bs w v l) : Bss w (.slice (some ⟨b, 0, none⟩) 1 1) [l] :=
  ⟨_, 1, rfl, by simp, by simp [maxLen], (by intro h; cases h), fun _ => ⟨b, 0, 1, _, rfl, hb, by simp, fun j hj => by
    obtain rfl : j = 0 := by simpa using hj
    exact hv⟩⟩

theorem blit0 (k : List Nat) : blit (fun _ => Value.int IntKind.u8 0) 0 k.length (bF k) = bF k := by
  rw [bF_nil]
  exact blit_bF [] k _ rfl
set_option maxRecDepth 100000 in
theorem mac_any (v t : Value) (key : List Nat) (ls : List (List Nat)) (w : World) (h : Bs w v key) (ht : Bss w t ls) (hk : key.length ≤ 1000000000000) (hn : ls.length ≤ 100000000000) (hl : ls.flatten.length ≤ 100000000000) (hlt : ∀ x ∈ ls.flatten, x < 256) (hK : Has w 1 64 (wF Sha.K)) :
    Ret Tryd.prog 15 #[v, t] w fun v' w' => v' = .agg (row 32 (bF (Sha.hmac key ls.flatten))) ∧ St w [] [] w' := by
  obtain ⟨k, hk'⟩ : ∃ k, k = Sha.hkey key := ⟨_, rfl⟩
  have hkl : ∀ x ∈ k, x < 256 := by rw [hk']; exact hkey_lt h.lt
  have hkn : k.length ≤ 64 := by rw [hk']; exact hkey_len
  have hkey : Sha.hmac key ls.flatten = Sha.sha (Sha.padKey 92 k ++ Sha.sha (Sha.padKey 54 k ++ ls.flatten)) := by rw [hk']; rfl
  rw [hkey]
  clear hkey
  obtain ⟨ad, c, rfl, _⟩ := id h
  obtain ⟨ta, tc, rfl, _⟩ := id ht
  obtain ⟨th, hts, htn, _, htb⟩ := Src.of_bss ht
  have HKL := Lib.hid hkl
  have HTB := Lib.hid htb
  have HLT := Lib.hid hlt
  clear hkl htb hlt
  by_cases hlong : 64 < key.length
  · have hkk : k = Sha.sha key := by rw [hk', Sha.hkey, if_pos hlong]
    have hk32 : k.length = 32 := by rw [hkk]; rfl
    clear hk'
    have HKK := Lib.hid hkk
    clear hkk
    go_enter Tryd.func15, Tryd.ntmps15
    have hst := St.refl w
    go_wp2_with (first
      | ((with_reducible refine at_op (o := ⟨some 4, _, _, _, _, _⟩) ?_); go_loud (refine wl_alloc rfl rfl hst zer26 ?_; intro b4 w4 hb4 hst1; clear hst; have hst := hst1; clear hst1))
      | ((with_reducible refine at_op (o := ⟨some 14, _, _, _, _, _⟩) ?_); go_loud (refine wl_buildSlice1 rfl rfl elt22 (by decide) (by (conv => lhs; whnf) <;> rfl) (by first | exact row_one _ | rfl) hst ?_; intro b14 w14 hb14 hst1; clear hst; have hst := hst1; clear hst1))
      | ((with_reducible refine at_op (o := ⟨some 15, _, _, _, _, _⟩) ?_); go_loud (refine wl_call pl12 rfl rfl rfl (sum_any _ [key] _ (Bss.one (hst.hasb Pick.head) (h.keep hst)) (by simp) (by simp; omega) (by simpa using h.lt) (hK.keep hst)) ?_; rintro v15 w15 ⟨rfl, hst15⟩; replace hst := hst.call hst15; clear hst15))
      | ((with_reducible refine at_op (o := ⟨some 5, _, _, _, _, _⟩) ?_); go_loud (refine wl_alloc rfl rfl hst zer26 ?_; intro b5 w5 hb5 hst1; clear hst; have hst := hst1; clear hst1))
      | ((with_reducible refine at_op (o := ⟨none, .store 26 (.tmp 5) (.tmp 15), _, _, _, _⟩) ?_); go_loud ((first | (refine wl_storeAll rfl rfl rfl rfl hst (by repeat (first | exact Pick.head | apply Pick.tail)) agg26 (by intro j hj; first | rfl | exact lstF_one rfl j hj | simp [oneC, hj]) (by (conv => lhs; simp only [put_lit, put_none, setL]) <;> rfl) ?_) | (refine wl_storeN rfl rfl rfl rfl hst (by repeat (first | exact Pick.head | apply Pick.tail)) (by omega) agg26 (by intro j hj; first | rfl | exact lstF_one rfl j hj | simp [oneC, hj]) (by (conv => lhs; simp only [put_lit, put_none, setL]) <;> rfl) ?_)); intro w1 hst1; clear hst; have hst := hst1; clear hst1))
      | ((with_reducible refine at_op (o := ⟨some 6, _, _, _, _, _⟩) ?_); go_loud (refine wl_alloc rfl rfl hst zer58 ?_; intro b6 w6 hb6 hst1; clear hst; have hst := hst1; clear hst1))
      | ((with_reducible refine at_op (o := ⟨some 7, _, _, _, _, _⟩) ?_); go_loud (refine wl_alloc rfl rfl hst zer58 ?_; intro b7 w7 hb7 hst1; clear hst; have hst := hst1; clear hst1))
      | ((with_reducible refine at_op (o := ⟨some 19, _, _, _, _, _⟩) ?_); go_loud (refine wl_copy rfl rfl Tryd.underlying29 sc5.size rfl rfl (m := k.length) (by first | omega | (simp; omega) | (simp [Nat.min_def]; omega)) hst (by repeat (first | exact Pick.head | apply Pick.tail)) (by omega) (.inr ⟨b5, 0, 32, _, rfl, hst.hasb (.tail (.tail .head)), by omega, fun j _ => by rw [Nat.zero_add]⟩) (by intro j _; rfl) ?_; intro w19 hst1; clear hst; have hst := hst1; clear hst1))
      | ((with_reducible refine at_op (o := ⟨some 22, _, _, _, _, _⟩) ?_); go_loud (refine wl_copy rfl rfl Tryd.underlying29 sc5.size rfl rfl (m := k.length) (by first | omega | (simp; omega) | (simp [Nat.min_def]; omega)) hst (by repeat (first | exact Pick.head | apply Pick.tail)) (by omega) (.inr ⟨b5, 0, 32, _, rfl, hst.hasb (.tail (.tail .head)), by omega, fun j _ => by rw [Nat.zero_add]⟩) (by intro j _; rfl) ?_; intro w22 hst1; clear hst; have hst := hst1; clear hst1)))
    have hst2 : St w [] [(b7, blk 64 (bF k) 58), (b6, blk 64 (bF k) 58), (b4, blk 32 (fun _ => nB 0) 26)] w22 := by
      have hk1 : Sha.sha [key].flatten = k := by rw [HKK.out]; simp
      rw [hk1, blit0] at hst
      exact hst.sub (by repeat (first | exact List.nil_sublist _ | apply List.Sublist.cons_cons | apply List.Sublist.cons))
    clear hst
    have hst := hst2
    clear hst2
    have hst3 : St w [] [(b7, blk 64 (xorF 92 k 0) 58), (b6, blk 64 (xorF 54 k 0) 58), (b4, blk 32 (fun _ => nB 0) 26)] w22 := by
      rw [← xorF_zero, ← xorF_zero]; exact hst
    clear hst
    have hst := hst3
    clear hst3
    go_loopw [23] (fun i wr => ∃ n : Nat, n ≤ 64 ∧ i = .int .i64 (n : Int) ∧ St w [] [(b7, blk 64 (xorF 92 k n) 58), (b6, blk 64 (xorF 54 k n) 58), (b4, blk 32 (fun _ => nB 0) 26)] wr) (fun i _ => 64 - (intOf i).toNat)
    case atStart => exact ⟨0, by omega, rfl, hst⟩
    case round =>
      clear hst
      obtain ⟨n, hn, rfl, hst⟩ := hrel
      by_cases hnl : n < 64
      · obtain ⟨x, hx⟩ : ∃ x, x = k.getD n 0 := ⟨_, rfl⟩
        have bx : x < 256 := by rw [hx]; exact getD_lt HKL.out (by decide) _
        have H6 : Hid (xorF 54 k n n = nB x) := by unfold xorF; rw [if_neg (by omega), hx]; rfl
        have H7 : Hid (xorF 92 k n n = nB x) := by unfold xorF; rw [if_neg (by omega), hx]; rfl
        have S6 := xorF_step 54 k n 58
        have S7 := xorF_step 92 k n 58
        rw [← hx] at S6 S7
        have e6 := xorB x 54 bx (by decide)
        have e7 := xorB x 92 bx (by decide)
        rw [show ((54 : Nat) : Int) = 54 from rfl] at e6
        rw [show ((92 : Nat) : Int) = 92 from rfl] at e7
        have HS6 := Lib.hid S6
        have HS7 := Lib.hid S7
        clear hx S6 S7
        go_wp2_with (first
      | ((with_reducible refine at_op (o := ⟨some 28, _, _, _, _, _⟩) ?_); go_loud (refine wl_load1v rfl rfl rfl (by first | exact St.hasb hst (by repeat (first | exact Pick.head | apply Pick.tail)) | exact St.hasOld hst (by assumption) (by simp)) H6.out (by omega) sc5 (by (conv => lhs; simp only [put_lit, put_none, setL]) <;> rfl) ?_))
      | ((with_reducible refine at_op (o := ⟨none, .store 5 (.tmp 30) (.tmp 29), _, _, _, _⟩) ?_); go_loud (refine wl_store1 rfl rfl rfl (by (conv => lhs; whnf) <;> rfl) hst (by repeat (first | exact Pick.head | apply Pick.tail)) (by omega) sc5 (by rfl) (by (conv => lhs; simp only [put_lit, put_none, setL]) <;> rfl) ?_; intro w1 hst1; clear hst; have hst := hst1; clear hst1))
      | ((with_reducible refine at_op (o := ⟨some 33, _, _, _, _, _⟩) ?_); go_loud (refine wl_load1v rfl rfl rfl (by first | exact St.hasb hst (by repeat (first | exact Pick.head | apply Pick.tail)) | exact St.hasOld hst (by assumption) (by simp)) H7.out (by omega) sc5 (by (conv => lhs; simp only [put_lit, put_none, setL]) <;> rfl) ?_))
      | ((with_reducible refine at_op (o := ⟨none, .store 5 (.tmp 35) (.tmp 34), _, _, _, _⟩) ?_); go_loud (refine wl_store1 rfl rfl rfl (by (conv => lhs; whnf) <;> rfl) hst (by repeat (first | exact Pick.head | apply Pick.tail)) (by omega) sc5 (by rfl) (by (conv => lhs; simp only [put_lit, put_none, setL]) <;> rfl) ?_; intro w1 hst1; clear hst; have hst := hst1; clear hst1)))
        go_wp2_with fail
        go_roundw
        case rel =>
          refine ⟨n + 1, by omega, by go_num, ?_⟩
          rw [← HS6.out, ← HS7.out]
          exact hst.front (by repeat (first | exact Pick.head | apply Pick.tail))
        case measure => simp [intOf]; omega
      · obtain rfl : n = 64 := by omega
        rw [xorF_end, xorF_end] at hst
        have hP6 : ∀ (wr : World) (L : List (Nat × Obj)), St w [] L wr → (b6, blk 64 (bF (Sha.padKey 54 k)) 58) ∈ L → Bs wr (.slice (some ⟨b6, 0, none⟩) 64 64) (Sha.padKey 54 k) := by
          intro wr L hst hm
          exact Bs.of_blk (l := Sha.padKey 54 k) ⟨_, _, hst.own _ hm⟩ (by rw [padKey_len]; omega) (fun j _ => by rw [Nat.zero_add]) (padKey_lt HKL.out (by decide)) (by rw [padKey_len]; omega) (by simp [maxLen])
        have HB1 : ∀ (wr : World) (L : List (Nat × Obj)), St w [] L wr → (b6, blk 64 (bF (Sha.padKey 54 k)) 58) ∈ L → ∀ j, j < 1 + ls.length → Bs wr (glue (1 * 1) (fun _ => .slice (some ⟨b6, 0, none⟩) 64 64) th j) ((Sha.padKey 54 k :: ls).getD j []) := by
          intro wr L hst hm j hj
          unfold glue
          by_cases c0 : j < 1 * 1
          · rw [if_pos c0]
            obtain rfl : j = 0 := by omega
            exact hP6 _ _ hst hm
          · rw [if_neg c0]
            obtain ⟨i, rfl⟩ : ∃ i, j = i + 1 := ⟨j - 1, by omega⟩
            exact ((HTB.out i (by omega)).1).keep hst.none
        have HB2 : ∀ (b9 b44 : Nat) (wr : World) (L : List (Nat × Obj)), St w [] L wr → (b44, blk 2 (lstF [.slice (some ⟨b7, 0, none⟩) 64 64, .slice (some ⟨b9, 0, none⟩) 32 32]) 29) ∈ L → (b7, blk 64 (bF (Sha.padKey 92 k)) 58) ∈ L → (b9, blk 32 (bF (Sha.sha (Sha.padKey 54 k ++ ls.flatten))) 26) ∈ L →
            Bss wr (.slice (some ⟨b44, 0, none⟩) 2 2) [Sha.padKey 92 k, Sha.sha (Sha.padKey 54 k ++ ls.flatten)] := by
          intro b9 b44 wr L hst h44 h7 h9
          refine Bss.of_blk ⟨_, _, hst.own _ h44⟩ rfl (by decide) fun j hj => ?_
          obtain rfl | rfl : j = 0 ∨ j = 1 := by omega
          · exact Bs.of_blk (l := Sha.padKey 92 k) ⟨_, _, hst.own _ h7⟩ (by rw [padKey_len]; omega) (fun j _ => by rw [Nat.zero_add]) (padKey_lt HKL.out (by decide)) (by rw [padKey_len]; omega) (by simp [maxLen])
          · exact Bs.of_blk (l := Sha.sha (Sha.padKey 54 k ++ ls.flatten)) ⟨_, _, hst.own _ h9⟩ (by rw [sha_len]; omega) (fun j _ => by rw [Nat.zero_add]) (sha_lt _) (by rw [sha_len]; omega) (by simp [maxLen])
        go_wp2_with (first
      | ((with_reducible refine at_op (o := ⟨some 38, _, _, _, _, _⟩) ?_); go_loud (refine wl_buildSlice1 rfl rfl elt22 (by decide) (by (conv => lhs; whnf) <;> rfl) (by first | exact row_one _ | rfl) hst ?_; intro b38 w38 hb38 hst1; clear hst; have hst := hst1; clear hst1))
      | ((with_reducible refine at_op (o := ⟨some 40, _, _, _, _, _⟩) ?_); go_loud (refine wl_append rfl rfl elt22 rfl rfl (n := 1) (g := fun _ => .slice (some ⟨b6, 0, none⟩) 64 64) (E := [(b38, _)]) (.inr ⟨_, 1, _, rfl, Nat.le_refl _, by simp [maxLen], rfl, fun _ _ => rfl⟩) hst (by rcases hts with e | ⟨b, off, n, f, e1, e2, e3, e4⟩; exact .inl e; exact .inr ⟨b, off, n, f, e1, e2.keep hst.none, e3, e4⟩) htn (fun j hj => (HTB.out j (by omega)).2) (by omega) (by unfold maxLen; omega) ?_; intro v40 w40 E40 hown40 hst40 _; clear hst; have hst := hst40; clear hst40))
      | ((with_reducible refine at_op (o := ⟨some 41, _, _, _, _, _⟩) ?_); go_loud (refine wl_call pl12 rfl rfl rfl (sum_any _ (Sha.padKey 54 k :: ls) _ (Bss.of_own hown40 hst (by simp; omega) (HB1 _ _ hst (by simp))) (by simp; omega) (by rw [List.flatten_cons, List.length_append, padKey_len]; omega) (by simp only [List.flatten_cons]; intro x hx; rcases List.mem_append.1 hx with hx | hx; exact padKey_lt HKL.out (by decide) x hx; exact HLT.out x hx) (hK.keep hst.none)) ?_; rintro v41 w41 ⟨rfl, hst41⟩; replace hst := hst.call hst41; clear hst41))
      | ((with_reducible refine at_op (o := ⟨some 9, _, _, _, _, _⟩) ?_); go_loud (refine wl_alloc rfl rfl hst zer26 ?_; intro b9 w9 hb9 hst1; clear hst; have hst := hst1; clear hst1))
      | ((with_reducible refine at_op (o := ⟨none, .store 26 (.tmp 9) (.tmp 41), _, _, _, _⟩) ?_); go_loud ((first | (refine wl_storeAll rfl rfl rfl rfl hst (by repeat (first | exact Pick.head | apply Pick.tail)) agg26 (by intro j hj; first | rfl | exact lstF_one rfl j hj | simp [oneC, hj]) (by (conv => lhs; simp only [put_lit, put_none, setL]) <;> rfl) ?_) | (refine wl_storeN rfl rfl rfl rfl hst (by repeat (first | exact Pick.head | apply Pick.tail)) (by omega) agg26 (by intro j hj; first | rfl | exact lstF_one rfl j hj | simp [oneC, hj]) (by (conv => lhs; simp only [put_lit, put_none, setL]) <;> rfl) ?_)); intro w1 hst1; clear hst; have hst := hst1; clear hst1)))
        have hst9 : St w [] [(b9, blk 32 (bF (Sha.sha (Sha.padKey 54 k ++ ls.flatten))) 26), (b7, blk 64 (bF (Sha.padKey 92 k)) 58), (b6, blk 64 (bF (Sha.padKey 54 k)) 58), (b4, blk 32 (fun _ => nB 0) 26)] _ := hst.sub (List.Sublist.cons_cons _ (List.sublist_append_right E40 _))
        refine rg_start (St w [] [(b9, blk 32 (bF (Sha.sha (Sha.padKey 54 k ++ ls.flatten))) 26), (b7, blk 64 (bF (Sha.padKey 92 k)) 58), (b6, blk 64 (bF (Sha.padKey 54 k)) 58), (b4, blk 32 (fun _ => nB 0) 26)]) mixed (hst9.drew) ?_
        refine rg_take [0, 1] 3 _ rfl (by kernel_rfl) (by kernel_rfl) rfl (cls_st _ _ _) (fun _ _ _ _ _ h => h) ?_
        refine tk_wp rfl rfl rfl (by rfl) (fun w hst K hK => (by go_step; exact hK _ (Below.refl _ _))) (by rfl) (by rfl) ?_
        refine tk_wp rfl rfl rfl (by rfl) (fun w hst K hK => (by go_step; exact hK _ (Below.refl _ _))) (by rfl) (by rfl) ?_
        refine tk_nil ?_
        refine rg_st (i := 2) (n := 2) (by kernel_rfl) rfl rfl rfl (fun w44x hst44x => wo_buildSliceN (l := [.slice (some ⟨b7, 0, none⟩) 64 64, .slice (some ⟨b9, 0, none⟩) 32 32]) rfl elt22 rfl rfl rfl (by decide) hst44x (fun b44 w44 hb44 hst44 => ⟨[(b44, _)], hst44, ?_⟩))
        refine rg_st (i := 3) (n := 1) (by kernel_rfl) rfl rfl rfl (fun w45x hst45x => wo_call pl12 rfl rfl (sum_any _ [Sha.padKey 92 k, Sha.sha (Sha.padKey 54 k ++ ls.flatten)] _ (HB2 b9 b44 w45x _ hst45x (by simp) (by simp) (by simp)) (by simp) (by simp [padKey_len, sha_len]) (by simp only [List.flatten_cons, List.flatten_nil, List.append_nil]; intro x hx; rcases List.mem_append.1 hx with hx | hx; exact padKey_lt HKL.out (by decide) x hx; exact sha_lt _ x hx) (hst45x.hasOld hK (by simp))) (fun v45 w45 hR45 => ?_))
        obtain ⟨rfl, hst45⟩ := hR45
        refine ⟨[], hst45x.call hst45, ?_⟩
        refine rg_lastStoreAll (i := 4) (by kernel_rfl) rfl rfl rfl (by kernel_rfl) (by kernel_rfl) rfl rfl (by repeat (first | exact Pick.head | apply Pick.tail)) agg26 (by intro j hj; first | rfl | exact lstF_one rfl j hj | simp [oneC, hj]) (by (conv => lhs; simp only [put_lit, put_none, setL]) <;> rfl) (fun w1 hst1 => ?_)
        clear hst
        go_wp2_with fail
        have hflat : [Sha.padKey 92 k, Sha.sha (Sha.padKey 54 k ++ ls.flatten)].flatten = Sha.padKey 92 k ++ Sha.sha (Sha.padKey 54 k ++ ls.flatten) := by simp
        rw [hflat] at hst1
        exact ret_cellN rfl rfl (St.hasb hst1 Pick.head) agg26 rfl ⟨_, rfl, rfl, hst1.none⟩
  · have hkk : k = key := by rw [hk', Sha.hkey, if_neg hlong]
    clear hk'
    subst hkk
    go_enter Tryd.func15, Tryd.ntmps15
    have hst := St.refl w
    go_wp2_with (first
      | ((with_reducible refine at_op (o := ⟨some 4, _, _, _, _, _⟩) ?_); go_loud (refine wl_alloc rfl rfl hst zer26 ?_; intro b4 w4 hb4 hst1; clear hst; have hst := hst1; clear hst1))
      | ((with_reducible refine at_op (o := ⟨some 6, _, _, _, _, _⟩) ?_); go_loud (refine wl_alloc rfl rfl hst zer58 ?_; intro b6 w6 hb6 hst1; clear hst; have hst := hst1; clear hst1))
      | ((with_reducible refine at_op (o := ⟨some 7, _, _, _, _, _⟩) ?_); go_loud (refine wl_alloc rfl rfl hst zer58 ?_; intro b7 w7 hb7 hst1; clear hst; have hst := hst1; clear hst1))
      | ((with_reducible refine at_op (o := ⟨some 19, _, _, _, _, _⟩) ?_); go_loud (refine wl_copy rfl rfl Tryd.underlying29 sc5.size rfl rfl (m := k.length) (by first | omega | (simp; omega) | (simp [Nat.min_def]; omega)) hst (by repeat (first | exact Pick.head | apply Pick.tail)) (by omega) (by simpa using Src.of_bs (h.keep hst)) (by intro j _; rfl) ?_; intro w19 hst1; clear hst; have hst := hst1; clear hst1))
      | ((with_reducible refine at_op (o := ⟨some 22, _, _, _, _, _⟩) ?_); go_loud (refine wl_copy rfl rfl Tryd.underlying29 sc5.size rfl rfl (m := k.length) (by first | omega | (simp; omega) | (simp [Nat.min_def]; omega)) hst (by repeat (first | exact Pick.head | apply Pick.tail)) (by omega) (by simpa using Src.of_bs (h.keep hst)) (by intro j _; rfl) ?_; intro w22 hst1; clear hst; have hst := hst1; clear hst1)))
    have hst2 : St w [] [(b7, blk 64 (bF k) 58), (b6, blk 64 (bF k) 58), (b4, blk 32 (fun _ => nB 0) 26)] w22 := by
      rw [blit0] at hst
      exact hst
    clear hst
    have hst := hst2
    clear hst2
    have hst3 : St w [] [(b7, blk 64 (xorF 92 k 0) 58), (b6, blk 64 (xorF 54 k 0) 58), (b4, blk 32 (fun _ => nB 0) 26)] w22 := by
      rw [← xorF_zero, ← xorF_zero]; exact hst
    clear hst
    have hst := hst3
    clear hst3
    go_loopw [23] (fun i wr => ∃ n : Nat, n ≤ 64 ∧ i = .int .i64 (n : Int) ∧ St w [] [(b7, blk 64 (xorF 92 k n) 58), (b6, blk 64 (xorF 54 k n) 58), (b4, blk 32 (fun _ => nB 0) 26)] wr) (fun i _ => 64 - (intOf i).toNat)
    case atStart => exact ⟨0, by omega, rfl, hst⟩
    case round =>
      clear hst
      obtain ⟨n, hn, rfl, hst⟩ := hrel
      by_cases hnl : n < 64
      · obtain ⟨x, hx⟩ : ∃ x, x = k.getD n 0 := ⟨_, rfl⟩
        have bx : x < 256 := by rw [hx]; exact getD_lt HKL.out (by decide) _
        have H6 : Hid (xorF 54 k n n = nB x) := by unfold xorF; rw [if_neg (by omega), hx]; rfl
        have H7 : Hid (xorF 92 k n n = nB x) := by unfold xorF; rw [if_neg (by omega), hx]; rfl
        have S6 := xorF_step 54 k n 58
        have S7 := xorF_step 92 k n 58
        rw [← hx] at S6 S7
        have e6 := xorB x 54 bx (by decide)
        have e7 := xorB x 92 bx (by decide)
        rw [show ((54 : Nat) : Int) = 54 from rfl] at e6
        rw [show ((92 : Nat) : Int) = 92 from rfl] at e7
        have HS6 := Lib.hid S6
        have HS7 := Lib.hid S7
        clear hx S6 S7
        go_wp2_with (first
      | ((with_reducible refine at_op (o := ⟨some 28, _, _, _, _, _⟩) ?_); go_loud (refine wl_load1v rfl rfl rfl (by first | exact St.hasb hst (by repeat (first | exact Pick.head | apply Pick.tail)) | exact St.hasOld hst (by assumption) (by simp)) H6.out (by omega) sc5 (by (conv => lhs; simp only [put_lit, put_none, setL]) <;> rfl) ?_))
      | ((with_reducible refine at_op (o := ⟨none, .store 5 (.tmp 30) (.tmp 29), _, _, _, _⟩) ?_); go_loud (refine wl_store1 rfl rfl rfl (by (conv => lhs; whnf) <;> rfl) hst (by repeat (first | exact Pick.head | apply Pick.tail)) (by omega) sc5 (by rfl) (by (conv => lhs; simp only [put_lit, put_none, setL]) <;> rfl) ?_; intro w1 hst1; clear hst; have hst := hst1; clear hst1))
      | ((with_reducible refine at_op (o := ⟨some 33, _, _, _, _, _⟩) ?_); go_loud (refine wl_load1v rfl rfl rfl (by first | exact St.hasb hst (by repeat (first | exact Pick.head | apply Pick.tail)) | exact St.hasOld hst (by assumption) (by simp)) H7.out (by omega) sc5 (by (conv => lhs; simp only [put_lit, put_none, setL]) <;> rfl) ?_))
      | ((with_reducible refine at_op (o := ⟨none, .store 5 (.tmp 35) (.tmp 34), _, _, _, _⟩) ?_); go_loud (refine wl_store1 rfl rfl rfl (by (conv => lhs; whnf) <;> rfl) hst (by repeat (first | exact Pick.head | apply Pick.tail)) (by omega) sc5 (by rfl) (by (conv => lhs; simp only [put_lit, put_none, setL]) <;> rfl) ?_; intro w1 hst1; clear hst; have hst := hst1; clear hst1)))
        go_wp2_with fail
        go_roundw
        case rel =>
          refine ⟨n + 1, by omega, by go_num, ?_⟩
          rw [← HS6.out, ← HS7.out]
          exact hst.front (by repeat (first | exact Pick.head | apply Pick.tail))
        case measure => simp [intOf]; omega
      · obtain rfl : n = 64 := by omega
        rw [xorF_end, xorF_end] at hst
        have hP6 : ∀ (wr : World) (L : List (Nat × Obj)), St w [] L wr → (b6, blk 64 (bF (Sha.padKey 54 k)) 58) ∈ L → Bs wr (.slice (some ⟨b6, 0, none⟩) 64 64) (Sha.padKey 54 k) := by
          intro wr L hst hm
          exact Bs.of_blk (l := Sha.padKey 54 k) ⟨_, _, hst.own _ hm⟩ (by rw [padKey_len]; omega) (fun j _ => by rw [Nat.zero_add]) (padKey_lt HKL.out (by decide)) (by rw [padKey_len]; omega) (by simp [maxLen])
        have HB1 : ∀ (wr : World) (L : List (Nat × Obj)), St w [] L wr → (b6, blk 64 (bF (Sha.padKey 54 k)) 58) ∈ L → ∀ j, j < 1 + ls.length → Bs wr (glue (1 * 1) (fun _ => .slice (some ⟨b6, 0, none⟩) 64 64) th j) ((Sha.padKey 54 k :: ls).getD j []) := by
          intro wr L hst hm j hj
          unfold glue
          by_cases c0 : j < 1 * 1
          · rw [if_pos c0]
            obtain rfl : j = 0 := by omega
            exact hP6 _ _ hst hm
          · rw [if_neg c0]
            obtain ⟨i, rfl⟩ : ∃ i, j = i + 1 := ⟨j - 1, by omega⟩
            exact ((HTB.out i (by omega)).1).keep hst.none
        have HB2 : ∀ (b9 b44 : Nat) (wr : World) (L : List (Nat × Obj)), St w [] L wr → (b44, blk 2 (lstF [.slice (some ⟨b7, 0, none⟩) 64 64, .slice (some ⟨b9, 0, none⟩) 32 32]) 29) ∈ L → (b7, blk 64 (bF (Sha.padKey 92 k)) 58) ∈ L → (b9, blk 32 (bF (Sha.sha (Sha.padKey 54 k ++ ls.flatten))) 26) ∈ L →
            Bss wr (.slice (some ⟨b44, 0, none⟩) 2 2) [Sha.padKey 92 k, Sha.sha (Sha.padKey 54 k ++ ls.flatten)] := by
          intro b9 b44 wr L hst h44 h7 h9
          refine Bss.of_blk ⟨_, _, hst.own _ h44⟩ rfl (by decide) fun j hj => ?_
          obtain rfl | rfl : j = 0 ∨ j = 1 := by omega
          · exact Bs.of_blk (l := Sha.padKey 92 k) ⟨_, _, hst.own _ h7⟩ (by rw [padKey_len]; omega) (fun j _ => by rw [Nat.zero_add]) (padKey_lt HKL.out (by decide)) (by rw [padKey_len]; omega) (by simp [maxLen])
          · exact Bs.of_blk (l := Sha.sha (Sha.padKey 54 k ++ ls.flatten)) ⟨_, _, hst.own _ h9⟩ (by rw [sha_len]; omega) (fun j _ => by rw [Nat.zero_add]) (sha_lt _) (by rw [sha_len]; omega) (by simp [maxLen])
        go_wp2_with (first
      | ((with_reducible refine at_op (o := ⟨some 38, _, _, _, _, _⟩) ?_); go_loud (refine wl_buildSlice1 rfl rfl elt22 (by decide) (by (conv => lhs; whnf) <;> rfl) (by first | exact row_one _ | rfl) hst ?_; intro b38 w38 hb38 hst1; clear hst; have hst := hst1; clear hst1))
      | ((with_reducible refine at_op (o := ⟨some 40, _, _, _, _, _⟩) ?_); go_loud (refine wl_append rfl rfl elt22 rfl rfl (n := 1) (g := fun _ => .slice (some ⟨b6, 0, none⟩) 64 64) (E := [(b38, _)]) (.inr ⟨_, 1, _, rfl, Nat.le_refl _, by simp [maxLen], rfl, fun _ _ => rfl⟩) hst (by rcases hts with e | ⟨b, off, n, f, e1, e2, e3, e4⟩; exact .inl e; exact .inr ⟨b, off, n, f, e1, e2.keep hst.none, e3, e4⟩) htn (fun j hj => (HTB.out j (by omega)).2) (by omega) (by unfold maxLen; omega) ?_; intro v40 w40 E40 hown40 hst40 _; clear hst; have hst := hst40; clear hst40))
      | ((with_reducible refine at_op (o := ⟨some 41, _, _, _, _, _⟩) ?_); go_loud (refine wl_call pl12 rfl rfl rfl (sum_any _ (Sha.padKey 54 k :: ls) _ (Bss.of_own hown40 hst (by simp; omega) (HB1 _ _ hst (by simp))) (by simp; omega) (by rw [List.flatten_cons, List.length_append, padKey_len]; omega) (by simp only [List.flatten_cons]; intro x hx; rcases List.mem_append.1 hx with hx | hx; exact padKey_lt HKL.out (by decide) x hx; exact HLT.out x hx) (hK.keep hst.none)) ?_; rintro v41 w41 ⟨rfl, hst41⟩; replace hst := hst.call hst41; clear hst41))
      | ((with_reducible refine at_op (o := ⟨some 9, _, _, _, _, _⟩) ?_); go_loud (refine wl_alloc rfl rfl hst zer26 ?_; intro b9 w9 hb9 hst1; clear hst; have hst := hst1; clear hst1))
      | ((with_reducible refine at_op (o := ⟨none, .store 26 (.tmp 9) (.tmp 41), _, _, _, _⟩) ?_); go_loud ((first | (refine wl_storeAll rfl rfl rfl rfl hst (by repeat (first | exact Pick.head | apply Pick.tail)) agg26 (by intro j hj; first | rfl | exact lstF_one rfl j hj | simp [oneC, hj]) (by (conv => lhs; simp only [put_lit, put_none, setL]) <;> rfl) ?_) | (refine wl_storeN rfl rfl rfl rfl hst (by repeat (first | exact Pick.head | apply Pick.tail)) (by omega) agg26 (by intro j hj; first | rfl | exact lstF_one rfl j hj | simp [oneC, hj]) (by (conv => lhs; simp only [put_lit, put_none, setL]) <;> rfl) ?_)); intro w1 hst1; clear hst; have hst := hst1; clear hst1)))
        have hst9 : St w [] [(b9, blk 32 (bF (Sha.sha (Sha.padKey 54 k ++ ls.flatten))) 26), (b7, blk 64 (bF (Sha.padKey 92 k)) 58), (b6, blk 64 (bF (Sha.padKey 54 k)) 58), (b4, blk 32 (fun _ => nB 0) 26)] _ := hst.sub (List.Sublist.cons_cons _ (List.sublist_append_right E40 _))
        refine rg_start (St w [] [(b9, blk 32 (bF (Sha.sha (Sha.padKey 54 k ++ ls.flatten))) 26), (b7, blk 64 (bF (Sha.padKey 92 k)) 58), (b6, blk 64 (bF (Sha.padKey 54 k)) 58), (b4, blk 32 (fun _ => nB 0) 26)]) mixed (hst9.drew) ?_
        refine rg_take [0, 1] 3 _ rfl (by kernel_rfl) (by kernel_rfl) rfl (cls_st _ _ _) (fun _ _ _ _ _ h => h) ?_
        refine tk_wp rfl rfl rfl (by rfl) (fun w hst K hK => (by go_step; exact hK _ (Below.refl _ _))) (by rfl) (by rfl) ?_
        refine tk_wp rfl rfl rfl (by rfl) (fun w hst K hK => (by go_step; exact hK _ (Below.refl _ _))) (by rfl) (by rfl) ?_
        refine tk_nil ?_
        refine rg_st (i := 2) (n := 2) (by kernel_rfl) rfl rfl rfl (fun w44x hst44x => wo_buildSliceN (l := [.slice (some ⟨b7, 0, none⟩) 64 64, .slice (some ⟨b9, 0, none⟩) 32 32]) rfl elt22 rfl rfl rfl (by decide) hst44x (fun b44 w44 hb44 hst44 => ⟨[(b44, _)], hst44, ?_⟩))
        refine rg_st (i := 3) (n := 1) (by kernel_rfl) rfl rfl rfl (fun w45x hst45x => wo_call pl12 rfl rfl (sum_any _ [Sha.padKey 92 k, Sha.sha (Sha.padKey 54 k ++ ls.flatten)] _ (HB2 b9 b44 w45x _ hst45x (by simp) (by simp) (by simp)) (by simp) (by simp [padKey_len, sha_len]) (by simp only [List.flatten_cons, List.flatten_nil, List.append_nil]; intro x hx; rcases List.mem_append.1 hx with hx | hx; exact padKey_lt HKL.out (by decide) x hx; exact sha_lt _ x hx) (hst45x.hasOld hK (by simp))) (fun v45 w45 hR45 => ?_))
        obtain ⟨rfl, hst45⟩ := hR45
        refine ⟨[], hst45x.call hst45, ?_⟩
        refine rg_lastStoreAll (i := 4) (by kernel_rfl) rfl rfl rfl (by kernel_rfl) (by kernel_rfl) rfl rfl (by repeat (first | exact Pick.head | apply Pick.tail)) agg26 (by intro j hj; first | rfl | exact lstF_one rfl j hj | simp [oneC, hj]) (by (conv => lhs; simp only [put_lit, put_none, setL]) <;> rfl) (fun w1 hst1 => ?_)
        clear hst
        go_wp2_with fail
        have hflat : [Sha.padKey 92 k, Sha.sha (Sha.padKey 54 k ++ ls.flatten)].flatten = Sha.padKey 92 k ++ Sha.sha (Sha.padKey 54 k ++ ls.flatten) := by simp
        rw [hflat] at hst1
        exact ret_cellN rfl rfl (St.hasb hst1 Pick.head) agg26 rfl ⟨_, rfl, rfl, hst1.none⟩
end Go.Proofs.YtpidapgglkoogaaDoor
