/- The walks of jalousieref01.turn and Sum. -/
import Derived.Test.YthbobmpeaemdnaaDoorHash6
namespace Go.Proofs.YthbobmpeaemdnaaDoor
open Go.RowKit Go.Jal

theorem at_idx {f : Nat → Value} {i j : Nat} {v : Value} (h : f j = v) (e : i = j) : f i = v := by rw [e]; exact h
set_option maxRecDepth 100000 in
theorem turn_any (x n : Nat) (w : World) (hx : x < 4294967296) (hn : n ≤ 32) :
    Ret Tryd.prog 27 #[nW x, nI n] w fun v' w' => v' = nW (Sha.rotr n x) ∧ w = w' := by
  go_enter Tryd.func27, Tryd.ntmps27
  go_wp2_with fail
  go_loop [0, 5] (fun v i => ∃ k : Nat, k ≤ n ∧ i = .int .i64 k ∧ v = nW (Sha.rotr k x)) (fun _ i => n - (intOf i).toNat)
  case atStart => exact ⟨0, by omega, rfl, by rw [Sha.rotr_zero]⟩
  case round =>
    obtain ⟨k, hk, rfl, rfl⟩ := hrel
    by_cases hkl : k < n
    · have h1 := Sha.rotr_lt (n := k) (by omega) hx
      have h2 := Sha.rotr_succ (n := k) (by omega) hx
      obtain ⟨y, hy⟩ : ∃ y, y = Sha.rotr k x := ⟨_, rfl⟩
      rw [← hy] at h1 h2 ⊢
      have H2 := Lib.hid h2
      clear hy h2
      have e1 : ((y : Int) / 2 + (y : Int) % 2 * 2147483648) % 4294967296 = (y : Int) / 2 + (y : Int) % 2 * 2147483648 := by omega
      go_wp2_with fail
      go_round
      case rel => exact ⟨k + 1, by omega, by go_num, by rw [H2.out]; simp⟩
      case measure => simp [intOf]; omega
    · obtain rfl : k = n := by omega
      go_wp2_with fail
      go_ret
      exact ⟨_, rfl, rfl, rfl⟩

/-- the schedule as the reference makes it -/
def wsch (b : List Nat) (j : Nat) : List Nat := if j ≤ 16 then Sha.words b j else Sha.grow (Sha.words b 16) (j - 16)
theorem wsch_len (b : List Nat) (j : Nat) : (wsch b j).length = j := by
  unfold wsch
  split
  · exact words_len b j
  · rw [Sha.grow_length, words_len]; omega
theorem wsch_lt {b : List Nat} (h : ∀ x ∈ b, x < 256) (j : Nat) : ∀ x ∈ wsch b j, x < 4294967296 := by
  unfold wsch
  split
  · exact words_lt h j
  · exact Sha.grow_lt (words_lt h 16) _
theorem wsch_lo {b : List Nat} {j : Nat} (h : j < 16) : wsch b (j + 1) = wsch b j ++ [Sha.bigN ((b.drop (4 * j)).take 4)] := by
  unfold wsch
  rw [if_pos (by omega), if_pos (by omega), words_snoc]
theorem wsch_hi {b : List Nat} {j : Nat} (h : 16 ≤ j) : wsch b (j + 1) = wsch b j ++ [Sha.schN (wsch b j)] := by
  unfold wsch
  rw [if_neg (by omega)]
  by_cases c : j = 16
  · subst c; rw [if_pos (by omega)]; rfl
  · rw [if_neg (by omega), show j + 1 - 16 = (j - 16) + 1 by omega]; rfl
theorem wsch_64 (b : List Nat) : wsch b 64 = Sha.sched b := rfl
theorem bigN4 {l : List Nat} {i : Nat} (h : i + 4 ≤ l.length) : Sha.bigN ((l.drop i).take 4) = ((l.getD i 0 * 256 + l.getD (i + 1) 0) * 256 + l.getD (i + 2) 0) * 256 + l.getD (i + 3) 0 := by
  have e : (l.drop i).take 4 = [l[i], l[i + 1], l[i + 2], l[i + 3]] := by
    rw [List.drop_eq_getElem_cons (by omega : i < l.length), List.drop_eq_getElem_cons (by omega : i + 1 < l.length), List.drop_eq_getElem_cons (by omega : i + 1 + 1 < l.length), List.drop_eq_getElem_cons (by omega : i + 1 + 1 + 1 < l.length)]
    rfl
  rw [e]
  simp only [List.getD_eq_getElem?_getD, List.getElem?_eq_getElem (by omega : i < l.length), List.getElem?_eq_getElem (by omega : i + 1 < l.length), List.getElem?_eq_getElem (by omega : i + 2 < l.length), List.getElem?_eq_getElem (by omega : i + 3 < l.length), Option.getD_some]
  simp [Sha.bigN]
theorem bytes_get (s : Sha.S8) {n : Nat} (h : n < 32) : s.bytes.getD n 0 = s.list.getD (n / 4) 0 / 2 ^ (24 - 8 * (n % 4)) % 256 := by
  have h1 : n / 4 < 8 := by omega
  have h2 : n % 4 < 4 := by omega
  obtain ⟨q, hq⟩ : ∃ q, q = n / 4 := ⟨_, rfl⟩
  obtain ⟨r, hr⟩ : ∃ r, r = n % 4 := ⟨_, rfl⟩
  have hn : n = 4 * q + r := by omega
  rw [← hq] at h1 ⊢
  rw [← hr] at h2 ⊢
  subst hn
  clear hq hr h
  obtain rfl | rfl | rfl | rfl | rfl | rfl | rfl | rfl : q = 0 ∨ q = 1 ∨ q = 2 ∨ q = 3 ∨ q = 4 ∨ q = 5 ∨ q = 6 ∨ q = 7 := by omega
  all_goals
    obtain rfl | rfl | rfl | rfl : r = 0 ∨ r = 1 ∨ r = 2 ∨ r = 3 := by omega
    all_goals simp [Sha.S8.bytes, Sha.S8.list, Sha.b4]
theorem glue_nil (g : Nat → Value) (l : List Nat) : glue (0 * 1) g (bF l) = bF l := by funext j; simp [glue]

set_option maxRecDepth 100000 in
set_option maxHeartbeats 2000000 in
theorem refsum_any (v : Value) (l : List Nat) (w : World) (h : Bs w v l) (hl : l.length ≤ 1000000000000) (hK : Has w 0 64 (wF Sha.K)) :
    Ret Tryd.prog 11 #[v] w fun v' w' => v' = .agg (row 32 (bF (Sha.sha l))) ∧ St w [] [] w' := by
  obtain ⟨ad, c, rfl, _⟩ := id h
  go_enter Tryd.func11, Tryd.ntmps11
  have hst := St.refl w
  go_wp2_with (first
      | ((with_reducible refine at_d 2 ?_); go_loud (refine wl_alloc rfl rfl hst zer27 ?_; clear hst; intro b2 w2 hb2 hst))
      | ((with_reducible refine at_d 28 ?_); go_loud (refine wl_append rfl rfl elt35 rfl rfl (n := 0) (g := bF []) (E := []) Own.nil hst (Src.of_bs (h.keep hst.none)) (fun e => by obtain ⟨ao, cap, e1, e2, _, _, e3, _⟩ := h; cases e1; have := e3 e; omega) (by intro j _; rfl) (by omega) (by unfold maxLen; omega) ?_; intro v28 w28 E1 hown1 hst1 _; clear hst; have hst := hst1; clear hst1; rw [Nat.zero_add, glue_nil] at hown1))
      | ((with_reducible refine at_d 30 ?_); go_loud (refine wl_buildSlice1 rfl rfl elt35 (by decide) (by (conv => lhs; whnf) <;> rfl) (by first | exact row_one _ | rfl) hst ?_; clear hst; intro b30 w30 hb30 hst))
      | ((with_reducible refine at_d 31 ?_); go_loud (refine wl_append rfl rfl elt35 rfl rfl hown1 (L := [(b30, blk 1 (fun _ => nB 128) 5), (b2, blk 32 (fun _ => nB 0) 27)]) (hst.perm (by exact List.perm_middle.symm)) (.inr ⟨_, 0, _, _, rfl, hst.hasb Pick.head, Nat.le_refl _, fun _ _ => rfl⟩) (by intro h; cases h) (by intro j _; rfl) (by omega) (by unfold maxLen; omega) ?_; intro v2 w2 E2 hown2 hst2 _; clear hst)))
  have hown0 : Own 1 5 v2 (l ++ [128] ++ List.replicate 0 0).length (bF (l ++ [128] ++ List.replicate 0 0)) E2 := by
    rw [List.replicate_zero, List.append_nil, List.length_append]
    exact hown2.congr fun j hj => glue_one rfl (by simpa using hj)
  have hst : St w [] (E2 ++ [(b2, blk 32 (fun _ => nB 0) 27)]) w2 := hst2.sub (by simp)
  clear hst2 hown2 hown1
  go_loopw [3] (fun v3 wr => ∃ k E', k ≤ Sha.zerosOf l.length ∧ Own 1 5 v3 (l ++ [128] ++ List.replicate k 0).length (bF (l ++ [128] ++ List.replicate k 0)) E' ∧ St w [] (E' ++ [(b2, blk 32 (fun _ => nB 0) 27)]) wr) (fun v3 _ => l.length + 65 - vlen v3)
  case atStart => exact ⟨0, E2, by omega, hown0, hst⟩
  case round =>
    clear hst hown0
    obtain ⟨k, E3, hk, hown, hst⟩ := hrel
    obtain ⟨n, hn2⟩ : ∃ n, n = (l ++ [128] ++ List.replicate k 0).length := ⟨_, rfl⟩
    have hn3 : n = l.length + 1 + k := by rw [hn2]; simp; omega
    have hz := hk
    unfold Sha.zerosOf at hz
    rw [← hn2] at hown
    obtain ⟨ad3, c3, rfl, hc3, hm3, hnil3⟩ := hown.slice
    by_cases hkl : k < Sha.zerosOf l.length
    · have hne : ¬ ((n : Int) % 64 = 56) := by unfold Sha.zerosOf at hkl; omega
      have HN := Lib.hid hn2
      have HN3 := Lib.hid hn3
      have hb : n ≤ 1000000000100 := by omega
      clear hn2 hn3 hz
      go_wp2_with (first
      | ((with_reducible refine at_d 37 ?_); go_loud (refine wl_buildSlice1 rfl rfl elt35 (by decide) (by (conv => lhs; whnf) <;> rfl) (by first | exact row_one _ | rfl) hst ?_; clear hst; intro b37 w37 hb37 hst))
      | ((with_reducible refine at_d 38 ?_); go_loud (refine wl_append rfl rfl elt35 rfl rfl hown (L := [(b37, blk 1 (fun _ => nB 0) 5), (b2, blk 32 (fun _ => nB 0) 27)]) (hst.perm (by exact List.perm_middle.symm)) (.inr ⟨_, 0, _, _, rfl, hst.hasb Pick.head, Nat.le_refl _, fun _ _ => rfl⟩) (by intro h; cases h) (by intro j _; rfl) (by omega) (by unfold maxLen; omega) ?_; intro v2 w2 E4 hown2 hst2 _; clear hst)))
      go_roundw
      case rel =>
        refine ⟨k + 1, E4, hkl, ?_, hst2.sub (by simp)⟩
        rw [List.replicate_succ', ← List.append_assoc, List.length_append, ← HN.out]
        exact hown2.congr fun j hj => glue_one HN.out.symm (by simpa using hj)
      case measure =>
        obtain ⟨ad5, c5, rfl, _⟩ := hown2.slice
        simp only [vlen]
        have := HN3.out
        unfold Sha.zerosOf at hkl
        omega
    · have hne : (n : Int) % 64 = 56 := by unfold Sha.zerosOf at hkl; omega
      obtain rfl : k = Sha.zerosOf l.length := by omega
      obtain ⟨l0, hl0⟩ : ∃ l0, l0 = l ++ [128] ++ List.replicate (Sha.zerosOf l.length) 0 := ⟨_, rfl⟩
      obtain ⟨x, hx⟩ : ∃ x, x = 8 * l.length := ⟨_, rfl⟩
      have hown' : Own 1 5 (.slice ad3 n c3) (l0 ++ (Sha.big8 x).take 0).length (bF (l0 ++ (Sha.big8 x).take 0)) E3 := by rw [List.take_zero, List.append_nil, hl0, ← hn2]; exact hown
      have hpad : Sha.pad l = l0 ++ Sha.big8 x := by rw [hl0, hx]; rfl
      have hl0n : l0.length = n := by rw [hl0, hn2]
      have HPad := Lib.hid hpad
      have Hl0n := Lib.hid hl0n
      have bx : x ≤ 8000000000000 := by omega
      have e8 : ((l.length : Int) * 8) % 18446744073709551616 = (x : Int) := by omega
      have e8' : (l.length : Int) * 8 = (x : Int) := by omega
      have hb : n ≤ 1000000000100 := by omega
      clear hn2 hn3 hz hl0 hx hown hpad hl0n
      go_wp2_with (fail)
      go_loopw [3, 5] (fun v' i wr => ∃ k : Nat, k ≤ 8 ∧ i = .int .i64 (7 - (k : Int)) ∧ ∃ E', Own 1 5 v' (l0 ++ (Sha.big8 x).take k).length (bF (l0 ++ (Sha.big8 x).take k)) E' ∧ St w [] (E' ++ [(b2, blk 32 (fun _ => nB 0) 27)]) wr) (fun _ i _ => (intOf i + 1).toNat)
      case atStart => exact ⟨0, by omega, rfl, E3, hown', hst⟩
      case round =>
        clear hst hown'
        obtain ⟨k, hk, rfl, E1, hown1, hst⟩ := hrel
        by_cases hkl : k < 8
        · have hy := big8_get (x := x) hkl
          have hlen : (l0 ++ (Sha.big8 x).take k).length = n + k := by rw [List.length_append, Hl0n.out]; simp [Sha.big8]; omega
          have HT : Hid ((Sha.big8 x).take (k + 1) = (Sha.big8 x).take k ++ [(Sha.big8 x).getD k 0]) := take_snoc _ _ (by simpa [Sha.big8] using hkl)
          obtain ⟨q, hq⟩ : ∃ q, q = 7 - k := ⟨_, rfl⟩
          have eq1 : (7 : Int) - (k : Int) = (q : Int) := by omega
          rw [eq1]
          obtain ⟨y, hy2⟩ : ∃ y, y = (Sha.big8 x).getD k 0 := ⟨_, rfl⟩
          rw [← hy2] at HT hy
          rw [show 56 - 8 * k = 8 * q by omega] at hy
          have ey : (x : Int) / 2 ^ (8 * q) % 256 = (y : Int) := by rw [hy]; simp
          have HQ := Lib.hid hq
          have bq : q ≤ 7 := by omega
          clear hy hy2 hq
          go_wp2_with (first
      | ((with_reducible refine at_d 54 ?_); go_loud (refine wl_buildSlice1 rfl rfl elt35 (by decide) (by (conv => lhs; whnf) <;> rfl) (by first | exact row_one _ | rfl) hst ?_; clear hst; intro b54 w54 hb54 hst))
      | ((with_reducible refine at_d 55 ?_); go_loud (rw [ey] at hst; refine wl_append rfl rfl elt35 rfl rfl hown1 (L := [(b54, blk 1 (fun _ => nB y) 5), (b2, blk 32 (fun _ => nB 0) 27)]) (hst.perm (by exact List.perm_middle.symm)) (.inr ⟨_, 0, _, _, rfl, hst.hasb Pick.head, Nat.le_refl _, fun _ _ => rfl⟩) (by intro h; cases h) (by intro j _; rfl) (by omega) (by unfold maxLen; omega) ?_; intro v2 w2 E4 hown2 hst2 _; clear hst)))
          go_roundw
          case rel =>
            refine ⟨k + 1, by omega, by have := HQ.out; go_num, E4, ?_, hst2.sub (by simp)⟩
            rw [HT.out, ← List.append_assoc]
            exact (hown2.congr (g' := bF (l0 ++ (Sha.big8 x).take k ++ [y])) fun j hj => glue_one rfl (by simpa using hj)).len (by simp [Sha.big8]; omega)
          case measure => simp [intOf]; omega
        · obtain rfl : k = 8 := by omega
          rw [show (7 : Int) - ((8 : Nat) : Int) = -1 from rfl]
          have hk8 : l0 ++ (Sha.big8 x).take 8 = Sha.pad l := HPad.out.symm
          rw [hk8] at hown1
          obtain ⟨p, hp⟩ : ∃ p, p = Sha.pad l := ⟨_, rfl⟩
          have hp1 := pad_len l
          have hp2 := pad_mod l
          have hp3 := pad_lt h.lt
          rw [← hp] at hp1 hp2 hp3 hown1
          obtain ⟨m, hm⟩ : ∃ m, p.length = 64 * m := ⟨p.length / 64, by omega⟩
          have hm2 : m ≤ 20000000000 := by unfold Sha.zerosOf at hp1; omega
          have HP := Lib.hid hp
          rcases hown1 with ⟨rfl, h0, _⟩ | ⟨b4, cap, f, rfl, hcap, hcm, rfl, hf⟩
          · omega
          rw [hm] at hcap ⊢
          have hf' : ∀ j, j < p.length → f (0 + j) = bF p j := fun j hj => by rw [Nat.zero_add]; exact hf j (by omega)
          have HF : Hid (∀ k j, k < m → j < 64 → ∃ x, x < 256 ∧ x = ((p.drop (64 * k)).take 64).getD j 0 ∧ f (64 * k + j) = nB x) := by
            show ∀ _, _
            intro k j hk hj
            refine ⟨_, ?_, rfl, ?_⟩
            · exact getD_lt (fun x hx => hp3 x (List.mem_of_mem_drop (List.mem_of_mem_take hx))) (by decide) j
            · have := hf' (64 * k + j) (by omega)
              rw [Nat.zero_add] at this
              rw [this]
              simp only [bF, List.getD_eq_getElem?_getD]
              rw [List.getElem?_take_of_lt hj, List.getElem?_drop]
          have HP1 := Lib.hid hp1
          have HM := Lib.hid hm
          have HPL : Hid (∀ x ∈ p, x < 256) := hp3
          have bm : 64 * m ≤ cap := by omega
          clear hf hf' hp3 hp1 hp2 hm h hp hk8 HPad
          go_wp2_with (first
      | ((with_reducible refine at_d 56 ?_); go_loud (refine wl_buildA (l := Sha.init.list.map nW) rfl rfl bld78 rfl rfl rfl (hk := ?_)))
      | ((with_reducible refine at_d 6 ?_); go_loud (refine wl_alloc rfl rfl hst zer78 ?_; clear hst; intro b6 w6 hb6 hst))
      | ((with_reducible refine at_n (.store 78 (.tmp 6) (.tmp 56)) ?_); go_loud ((first | (refine wl_storeAll rfl rfl rfl rfl (hs := agg78) (hk := ?_)) | (refine wl_storeN rfl rfl rfl rfl (hs := agg78) (hk := ?_))); clear hst; intro w1 hst)))
          rw [blk_lst _ 8 78 rfl] at hst
          obtain ⟨z56, hz56⟩ : ∃ z, z = Value.agg (row 8 (lstF (Sha.init.list.map nW))) := ⟨_, rfl⟩
          rw [← hz56]
          clear hz56 hne e8 e8'
          go_loopw [7] (fun i wr => ∃ k : Nat, k ≤ m ∧ i = .int .i64 (64 * (k : Int)) ∧ St w [] [(b6, blk 8 (wF (Sha.after p k).list) 78), (b4, blk (cap * 1) f 5), (b2, blk 32 (fun _ => nB 0) 27)] wr) (fun i _ => 64 * m - (intOf i).toNat)
          case atStart => exact ⟨0, by omega, rfl, hst⟩
          case round =>
            clear hst
            obtain ⟨k, hk, rfl, hst⟩ := hrel
            by_cases hkl : k < m
            · obtain ⟨B, hB⟩ : ∃ B, B = (p.drop (64 * k)).take 64 := ⟨_, rfl⟩
              have hBn : B.length = 64 := by rw [hB, List.length_take, List.length_drop]; have := HM.out; omega
              have hBl : ∀ x ∈ B, x < 256 := by rw [hB]; exact fun x hx => HPL.out x (List.mem_of_mem_drop (List.mem_of_mem_take hx))
              have hA := after_lt p k
              obtain ⟨s, hs⟩ : ∃ s, s = Sha.after p k := ⟨_, rfl⟩
              have HAft : Hid (Sha.after p (k + 1) = Sha.block s B) := by rw [hB, hs]; rfl
              rw [← hs] at hst hA
              have HFk : Hid (∀ j, j < 64 → ∃ x, x < 256 ∧ x = B.getD j 0 ∧ f (64 * k + j) = nB x) := by
                show ∀ _, _
                intro j hj; rw [hB]; exact HF.out k j hkl hj
              have HBn := Lib.hid hBn
              have HBl := Lib.hid hBl
              have HA := Lib.hid hA
              clear hB hBn hBl hA hs
              go_wp2_with (first
      | ((with_reducible refine at_d 8 ?_); go_loud (refine wl_alloc rfl rfl hst zer79 ?_; clear hst; intro b8 w8 hb8 hst)))
              rw [wF_nil] at hst
              go_loopw [9] (fun i wr => ∃ j : Nat, j ≤ 64 ∧ i = .int .i64 (j : Int) ∧ St w [] [(b8, blk 64 (wF (wsch B j)) 79), (b6, blk 8 (wF s.list) 78), (b4, blk (cap * 1) f 5), (b2, blk 32 (fun _ => nB 0) 27)] wr) (fun i _ => 64 - (intOf i).toNat)
              case atStart => exact ⟨0, by omega, rfl, hst⟩
              case round =>
                clear hst
                obtain ⟨j, hj, rfl, hst⟩ := hrel
                by_cases hjl : j < 16
                · as_aux_lemma =>
                  obtain ⟨xa, ba, hxa, Ha⟩ := HFk.out (4 * j) (by omega)
                  obtain ⟨xb, bb, hxb, Hb⟩ := HFk.out (4 * j + 1) (by omega)
                  obtain ⟨xc, bc, hxc, Hc⟩ := HFk.out (4 * j + 2) (by omega)
                  obtain ⟨xd, bd, hxd, Hd⟩ := HFk.out (4 * j + 3) (by omega)
                  replace Ha := Lib.hid Ha
                  replace Hb := Lib.hid Hb
                  replace Hc := Lib.hid Hc
                  replace Hd := Lib.hid Hd
                  have HW : Hid (wsch B (j + 1) = wsch B j ++ [((xa * 256 + xb) * 256 + xc) * 256 + xd]) := by
                    show _ = _
                    rw [wsch_lo hjl, bigN4 (by have := HBn.out; omega), ← hxa, ← hxb, ← hxc, ← hxd]
                  have hlen := wsch_len B j
                  obtain ⟨S, hS⟩ : ∃ S, S = wsch B j := ⟨_, rfl⟩
                  rw [← hS] at hst HW hlen
                  have Hlen := Lib.hid hlen
                  clear hxa hxb hxc hxd hS hlen
                  go_wp2_with (fail)
                  refine rg_start (St w [] [(b8, blk 64 (wF S) 79), (b6, blk 8 (wF s.list) 78), (b4, blk (cap * 1) f 5), (b2, blk 32 (fun _ => nB 0) 27)]) mixed (hst.drew) ?_
                  refine rg_take [0, 1, 2, 3, 4, 5, 6, 7, 8, 9, 10, 11, 12, 13, 14, 15, 16, 17, 18, 19, 20, 21, 22, 23, 24, 25, 26, 27, 28, 29, 30] 1 _ rfl (by kernel_rfl) (by kernel_rfl) rfl (cls_st _ _ _) (fun _ _ _ _ _ h => h) ?_
                  refine tk_wp (hk := ?_)
                  refine tk_wp (hk := ?_)
                  refine tk_wp (hk := ?_)
                  refine tk_wp (hk := ?_)
                  refine tk_load1 rfl rfl (by rfl) rfl (fun w hst => (by first | exact St.hasb hst (by repeat (first | exact Pick.head | apply Pick.tail)) | exact St.hasOld hst (by assumption) (by simp) | assumption)) (at_idx Ha.out (by omega)) (by omega) sc5 (hk := ?_)
                  refine tk_wp (hk := ?_)
                  refine tk_wp (hk := ?_)
                  refine tk_wp (hk := ?_)
                  refine tk_wp (hk := ?_)
                  refine tk_wp (hk := ?_)
                  refine tk_wp (hk := ?_)
                  refine tk_load1 rfl rfl (by rfl) rfl (fun w hst => (by first | exact St.hasb hst (by repeat (first | exact Pick.head | apply Pick.tail)) | exact St.hasOld hst (by assumption) (by simp) | assumption)) (at_idx Hb.out (by omega)) (by omega) sc5 (hk := ?_)
                  refine tk_wp (hk := ?_)
                  refine tk_wp (hk := ?_)
                  refine tk_wp (hk := ?_)
                  refine tk_wp (hk := ?_)
                  refine tk_wp (hk := ?_)
                  refine tk_wp (hk := ?_)
                  refine tk_wp (hk := ?_)
                  refine tk_load1 rfl rfl (by rfl) rfl (fun w hst => (by first | exact St.hasb hst (by repeat (first | exact Pick.head | apply Pick.tail)) | exact St.hasOld hst (by assumption) (by simp) | assumption)) (at_idx Hc.out (by omega)) (by omega) sc5 (hk := ?_)
                  refine tk_wp (hk := ?_)
                  refine tk_wp (hk := ?_)
                  refine tk_wp (hk := ?_)
                  refine tk_wp (hk := ?_)
                  refine tk_wp (hk := ?_)
                  refine tk_wp (hk := ?_)
                  refine tk_wp (hk := ?_)
                  refine tk_load1 rfl rfl (by rfl) rfl (fun w hst => (by first | exact St.hasb hst (by repeat (first | exact Pick.head | apply Pick.tail)) | exact St.hasOld hst (by assumption) (by simp) | assumption)) (at_idx Hd.out (by omega)) (by omega) sc5 (hk := ?_)
                  refine tk_wp (hk := ?_)
                  refine tk_wp (hk := ?_)
                  refine tk_wp (hk := ?_)
                  refine tk_nil ?_
                  refine rg_lastStore1 (i := 31) (by kernel_rfl) rfl rfl rfl (by kernel_rfl) (by kernel_rfl) rfl (by (conv => lhs; whnf) <;> rfl) (by repeat (first | exact Pick.head | apply Pick.tail)) (by omega) sc77 (by rfl) (by (conv => lhs; simp only [put_lit, put_none, setL]) <;> rfl) (fun w1 hst1 => ?_)
                  clear hst
                  go_wp2_with fail
                  go_roundw
                  case rel =>
                    refine ⟨j + 1, by omega, by go_num, ?_⟩
                    rw [HW.out, ← wF_snoc Hlen.out]
                    rw [show Value.int IntKind.u32 ((xa : Int) * 16777216 + (xb : Int) * 65536 + (xc : Int) * 256 + (xd : Int)) = nW (((xa * 256 + xb) * 256 + xc) * 256 + xd) from congrArg _ (by omega)] at hst1
                    exact hst1
                  case measure => simp [intOf]; omega
                · by_cases hjh : j < 64
                  · as_aux_lemma =>
                    obtain ⟨i, rfl⟩ : ∃ i, j = i + 16 := ⟨j - 16, by omega⟩
                    have hlen := wsch_len B (i + 16)
                    have hall := wsch_lt HBl.out (i + 16)
                    have hnext := wsch_hi (b := B) (j := i + 16) (by omega)
                    obtain ⟨S, hS⟩ : ∃ S, S = wsch B (i + 16) := ⟨_, rfl⟩
                    rw [← hS] at hst hlen hall hnext
                    obtain ⟨x, hx⟩ : ∃ x, x = S.getD (i + 1) 0 := ⟨_, rfl⟩
                    obtain ⟨y, hy⟩ : ∃ y, y = S.getD (i + 14) 0 := ⟨_, rfl⟩
                    obtain ⟨p', hp'⟩ : ∃ p', p' = S.getD i 0 := ⟨_, rfl⟩
                    obtain ⟨q, hq⟩ : ∃ q, q = S.getD (i + 9) 0 := ⟨_, rfl⟩
                    have bx : x < 4294967296 := by rw [hx]; exact getD_lt hall (by decide) _
                    have bY : y < 4294967296 := by rw [hy]; exact getD_lt hall (by decide) _
                    have bp : p' < 4294967296 := by rw [hp']; exact getD_lt hall (by decide) _
                    have bq : q < 4294967296 := by rw [hq]; exact getD_lt hall (by decide) _
                    have Hx : Hid (wF S (i + 1) = nW x) := by rw [hx]; rfl
                    have Hy : Hid (wF S (i + 14) = nW y) := by rw [hy]; rfl
                    have Hp : Hid (wF S i = nW p') := by rw [hp']; rfl
                    have Hq : Hid (wF S (i + 9) = nW q) := by rw [hq]; rfl
                    have HN : Hid (Sha.schN S = (p' + Sha.s0 x + q + Sha.s1 y) % 4294967296) := by
                      show _ = _
                      unfold Sha.schN
                      rw [hlen, show i + 16 - 16 = i by omega, show i + 16 - 15 = i + 1 by omega, show i + 16 - 7 = i + 9 by omega, show i + 16 - 2 = i + 14 by omega, ← hx, ← hy, ← hp', ← hq]
                    have Hnext := Lib.hid hnext
                    have Hlen := Lib.hid hlen
                    clear hx hy hp' hq hS hall hlen hnext
                    have c1 := Sha.rotr_lt (n := 7) (by decide) bx
                    have c2 := Sha.rotr_lt (n := 18) (by decide) bx
                    have c3 := Sha.rotr_lt (n := 17) (by decide) bY
                    have c4 := Sha.rotr_lt (n := 19) (by decide) bY
                    have c5 := Sha.s0_lt bx
                    have c6 := Sha.s1_lt bY
                    have e1 := xorW _ _ c1 c2
                    have e2 := xorW _ _ c3 c4
                    have e3 : bits .xor .u32 ((Sha.rotr 7 x ^^^ Sha.rotr 18 x : Nat) : Int) ((x : Int) / 8) = ((Sha.s0 x : Nat) : Int) := xorW _ _ (Sha.xor_lt c1 c2) (Sha.div_lt 8 bx)
                    have e4 : bits .xor .u32 ((Sha.rotr 17 y ^^^ Sha.rotr 19 y : Nat) : Int) ((y : Int) / 1024) = ((Sha.s1 y : Nat) : Int) := xorW _ _ (Sha.xor_lt c3 c4) (Sha.div_lt 1024 bY)
                    go_wp2_with (fail)
                    refine rg_start (St w [] [(b8, blk 64 (wF S) 79), (b6, blk 8 (wF s.list) 78), (b4, blk (cap * 1) f 5), (b2, blk 32 (fun _ => nB 0) 27)]) mixed (hst.drew) ?_
                    refine rg_take [0, 1, 2, 3, 4, 5, 6, 7, 8, 9, 10, 11, 12, 13, 14, 15, 16, 17] 0 _ rfl (by kernel_rfl) (by kernel_rfl) rfl (cls_st _ _ _) (fun _ _ _ _ _ h => h) ?_
                    refine tk_wp (hk := ?_)
                    refine tk_wp (hk := ?_)
                    refine tk_wp (hk := ?_)
                    refine tk_load1 rfl rfl (by rfl) rfl (fun w hst => (by first | exact St.hasb hst (by repeat (first | exact Pick.head | apply Pick.tail)) | exact St.hasOld hst (by assumption) (by simp) | assumption)) (at_idx Hx.out (by omega)) (by omega) sc77 (hk := ?_)
                    refine tk_call pl27 rfl rfl (by rfl) rfl (fun w hst => turn_any x 7 w bx (by decide)) (fun w u w' hR => (by obtain ⟨rfl, rfl⟩ := hR; exact ⟨rfl, Below.refl _ _⟩)) (hk := ?_)
                    refine tk_wp (hk := ?_)
                    refine tk_wp (hk := ?_)
                    refine tk_wp (hk := ?_)
                    refine tk_load1 rfl rfl (by rfl) rfl (fun w hst => (by first | exact St.hasb hst (by repeat (first | exact Pick.head | apply Pick.tail)) | exact St.hasOld hst (by assumption) (by simp) | assumption)) (at_idx Hx.out (by omega)) (by omega) sc77 (hk := ?_)
                    refine tk_call pl27 rfl rfl (by rfl) rfl (fun w hst => turn_any x 18 w bx (by decide)) (fun w u w' hR => (by obtain ⟨rfl, rfl⟩ := hR; exact ⟨rfl, Below.refl _ _⟩)) (hk := ?_)
                    refine tk_wp (hk := ?_)
                    refine tk_wp (hk := ?_)
                    refine tk_wp (hk := ?_)
                    refine tk_wp (hk := ?_)
                    refine tk_load1 rfl rfl (by rfl) rfl (fun w hst => (by first | exact St.hasb hst (by repeat (first | exact Pick.head | apply Pick.tail)) | exact St.hasOld hst (by assumption) (by simp) | assumption)) (at_idx Hx.out (by omega)) (by omega) sc77 (hk := ?_)
                    refine tk_wp (hk := ?_)
                    refine tk_wp (hk := ?_)
                    refine tk_wp (hk := ?_)
                    refine tk_nil ?_
                    refine rg_done (by kernel_rfl) (fun w1 hst1 => ?_) _
                    clear hst; have hst := hst1; clear hst1
                    go_wp2_with fail
                    refine rg_start (St w [] [(b8, blk 64 (wF S) 79), (b6, blk 8 (wF s.list) 78), (b4, blk (cap * 1) f 5), (b2, blk 32 (fun _ => nB 0) 27)]) mixed (hst.drew) ?_
                    refine rg_take [0, 1, 2, 3, 4, 5, 6, 7, 8, 9, 10, 11, 12, 13, 14, 15, 16, 17] 0 _ rfl (by kernel_rfl) (by kernel_rfl) rfl (cls_st _ _ _) (fun _ _ _ _ _ h => h) ?_
                    refine tk_wp (hk := ?_)
                    refine tk_wp (hk := ?_)
                    refine tk_wp (hk := ?_)
                    refine tk_load1 rfl rfl (by rfl) rfl (fun w hst => (by first | exact St.hasb hst (by repeat (first | exact Pick.head | apply Pick.tail)) | exact St.hasOld hst (by assumption) (by simp) | assumption)) (at_idx Hy.out (by omega)) (by omega) sc77 (hk := ?_)
                    refine tk_call pl27 rfl rfl (by rfl) rfl (fun w hst => turn_any y 17 w bY (by decide)) (fun w u w' hR => (by obtain ⟨rfl, rfl⟩ := hR; exact ⟨rfl, Below.refl _ _⟩)) (hk := ?_)
                    refine tk_wp (hk := ?_)
                    refine tk_wp (hk := ?_)
                    refine tk_wp (hk := ?_)
                    refine tk_load1 rfl rfl (by rfl) rfl (fun w hst => (by first | exact St.hasb hst (by repeat (first | exact Pick.head | apply Pick.tail)) | exact St.hasOld hst (by assumption) (by simp) | assumption)) (at_idx Hy.out (by omega)) (by omega) sc77 (hk := ?_)
                    refine tk_call pl27 rfl rfl (by rfl) rfl (fun w hst => turn_any y 19 w bY (by decide)) (fun w u w' hR => (by obtain ⟨rfl, rfl⟩ := hR; exact ⟨rfl, Below.refl _ _⟩)) (hk := ?_)
                    refine tk_wp (hk := ?_)
                    refine tk_wp (hk := ?_)
                    refine tk_wp (hk := ?_)
                    refine tk_wp (hk := ?_)
                    refine tk_load1 rfl rfl (by rfl) rfl (fun w hst => (by first | exact St.hasb hst (by repeat (first | exact Pick.head | apply Pick.tail)) | exact St.hasOld hst (by assumption) (by simp) | assumption)) (at_idx Hy.out (by omega)) (by omega) sc77 (hk := ?_)
                    refine tk_wp (hk := ?_)
                    refine tk_wp (hk := ?_)
                    refine tk_wp (hk := ?_)
                    refine tk_nil ?_
                    refine rg_done (by kernel_rfl) (fun w1 hst1 => ?_) _
                    clear hst; have hst := hst1; clear hst1
                    go_wp2_with fail
                    refine rg_start (St w [] [(b8, blk 64 (wF S) 79), (b6, blk 8 (wF s.list) 78), (b4, blk (cap * 1) f 5), (b2, blk 32 (fun _ => nB 0) 27)]) mixed (hst.drew) ?_
                    refine rg_take [0, 1, 2, 3, 4, 5, 6, 7, 8, 9, 10, 11, 12, 13, 14] 1 _ rfl (by kernel_rfl) (by kernel_rfl) rfl (cls_st _ _ _) (fun _ _ _ _ _ h => h) ?_
                    refine tk_wp (hk := ?_)
                    refine tk_wp (hk := ?_)
                    refine tk_wp (hk := ?_)
                    refine tk_wp (hk := ?_)
                    refine tk_load1 rfl rfl (by rfl) rfl (fun w hst => (by first | exact St.hasb hst (by repeat (first | exact Pick.head | apply Pick.tail)) | exact St.hasOld hst (by assumption) (by simp) | assumption)) (at_idx Hp.out (by omega)) (by omega) sc77 (hk := ?_)
                    refine tk_wp (hk := ?_)
                    refine tk_wp (hk := ?_)
                    refine tk_wp (hk := ?_)
                    refine tk_wp (hk := ?_)
                    refine tk_wp (hk := ?_)
                    refine tk_load1 rfl rfl (by rfl) rfl (fun w hst => (by first | exact St.hasb hst (by repeat (first | exact Pick.head | apply Pick.tail)) | exact St.hasOld hst (by assumption) (by simp) | assumption)) (at_idx Hq.out (by omega)) (by omega) sc77 (hk := ?_)
                    refine tk_wp (hk := ?_)
                    refine tk_wp (hk := ?_)
                    refine tk_wp (hk := ?_)
                    refine tk_wp (hk := ?_)
                    refine tk_nil ?_
                    refine rg_lastStore1 (i := 15) (by kernel_rfl) rfl rfl rfl (by kernel_rfl) (by kernel_rfl) rfl (by (conv => lhs; whnf) <;> rfl) (by repeat (first | exact Pick.head | apply Pick.tail)) (by omega) sc77 (by rfl) (by (conv => lhs; simp only [put_lit, put_none, setL]) <;> rfl) (fun w1 hst1 => ?_)
                    clear hst
                    go_wp2_with fail
                    go_roundw
                    case rel =>
                      refine ⟨i + 16 + 1, by omega, by go_num, ?_⟩
                      rw [Hnext.out, ← wF_snoc Hlen.out, HN.out]
                      rw [show Value.int IntKind.u32 ((((p' : Int) + (Sha.s0 x : Nat) + (q : Nat)) % 4294967296 + (Sha.s1 y : Nat)) % 4294967296) = nW ((p' + Sha.s0 x + q + Sha.s1 y) % 4294967296) from congrArg _ (by omega)] at hst1
                      exact hst1
                    case measure => simp [intOf]; omega
                  · obtain rfl : j = 64 := by omega
                    rw [wsch_64] at hst
                    rw [show ((64 : Nat) : Int) = 64 from rfl]
                    have hWa : ∀ x ∈ Sha.sched B, x < 4294967296 := by rw [← wsch_64]; exact wsch_lt HBl.out 64
                    obtain ⟨W, hW⟩ : ∃ W, W = Sha.sched B := ⟨_, rfl⟩
                    rw [← hW] at hst hWa
                    have HBlk : Hid (Sha.block s B = Sha.add8 s (Sha.rounds W s 64)) := by show _ = _; rw [hW]; rfl
                    have HWa := Lib.hid hWa
                    have HK := Lib.hid hK
                    clear hW hjl hj hjh hWa
                    have HA' := HA.out
                    obtain ⟨za, zb, zc, zd, ze, zf, zg, zh⟩ := s
                    simp only [Sha.S8.list, List.mem_cons, List.not_mem_nil, or_false, forall_eq_or_imp, forall_eq] at HA'
                    obtain ⟨ya, yb, yc, yd, ye, yf, yg, yh⟩ := HA'
                    simp only [Sha.S8.list] at hst
                    go_wp2_with (fail)
                    refine rg_start (St w [] [(b8, blk 64 (wF W) 79), (b6, blk 8 (wF [za, zb, zc, zd, ze, zf, zg, zh]) 78), (b4, blk (cap * 1) f 5), (b2, blk 32 (fun _ => nB 0) 27)]) mixed (hst.drew) ?_
                    refine rg_take [0, 1, 2, 3, 4, 5, 6, 7, 8, 9, 10, 11, 12, 13, 14, 15, 16, 17, 18, 19, 20, 21, 22, 23] 0 _ rfl (by kernel_rfl) (by kernel_rfl) rfl (cls_st _ _ _) (fun _ _ _ _ _ h => h) ?_
                    refine tk_wp (hk := ?_)
                    refine tk_load1 rfl rfl (by rfl) rfl (fun w hst => (by first | exact St.hasb hst (by repeat (first | exact Pick.head | apply Pick.tail)) | exact St.hasOld hst (by assumption) (by simp) | assumption)) (show _ = Value.int .u32 ((za : Nat) : Int) from rfl) (by omega) sc77 (hk := ?_)
                    refine tk_wp (hk := ?_)
                    refine tk_load1 rfl rfl (by rfl) rfl (fun w hst => (by first | exact St.hasb hst (by repeat (first | exact Pick.head | apply Pick.tail)) | exact St.hasOld hst (by assumption) (by simp) | assumption)) (show _ = Value.int .u32 ((zb : Nat) : Int) from rfl) (by omega) sc77 (hk := ?_)
                    refine tk_wp (hk := ?_)
                    refine tk_load1 rfl rfl (by rfl) rfl (fun w hst => (by first | exact St.hasb hst (by repeat (first | exact Pick.head | apply Pick.tail)) | exact St.hasOld hst (by assumption) (by simp) | assumption)) (show _ = Value.int .u32 ((zc : Nat) : Int) from rfl) (by omega) sc77 (hk := ?_)
                    refine tk_wp (hk := ?_)
                    refine tk_load1 rfl rfl (by rfl) rfl (fun w hst => (by first | exact St.hasb hst (by repeat (first | exact Pick.head | apply Pick.tail)) | exact St.hasOld hst (by assumption) (by simp) | assumption)) (show _ = Value.int .u32 ((zd : Nat) : Int) from rfl) (by omega) sc77 (hk := ?_)
                    refine tk_wp (hk := ?_)
                    refine tk_load1 rfl rfl (by rfl) rfl (fun w hst => (by first | exact St.hasb hst (by repeat (first | exact Pick.head | apply Pick.tail)) | exact St.hasOld hst (by assumption) (by simp) | assumption)) (show _ = Value.int .u32 ((ze : Nat) : Int) from rfl) (by omega) sc77 (hk := ?_)
                    refine tk_wp (hk := ?_)
                    refine tk_load1 rfl rfl (by rfl) rfl (fun w hst => (by first | exact St.hasb hst (by repeat (first | exact Pick.head | apply Pick.tail)) | exact St.hasOld hst (by assumption) (by simp) | assumption)) (show _ = Value.int .u32 ((zf : Nat) : Int) from rfl) (by omega) sc77 (hk := ?_)
                    refine tk_wp (hk := ?_)
                    refine tk_load1 rfl rfl (by rfl) rfl (fun w hst => (by first | exact St.hasb hst (by repeat (first | exact Pick.head | apply Pick.tail)) | exact St.hasOld hst (by assumption) (by simp) | assumption)) (show _ = Value.int .u32 ((zg : Nat) : Int) from rfl) (by omega) sc77 (hk := ?_)
                    refine tk_wp (hk := ?_)
                    refine tk_load1 rfl rfl (by rfl) rfl (fun w hst => (by first | exact St.hasb hst (by repeat (first | exact Pick.head | apply Pick.tail)) | exact St.hasOld hst (by assumption) (by simp) | assumption)) (show _ = Value.int .u32 ((zh : Nat) : Int) from rfl) (by omega) sc77 (hk := ?_)
                    refine tk_wp (hk := ?_)
                    refine tk_wp (hk := ?_)
                    refine tk_wp (hk := ?_)
                    refine tk_wp (hk := ?_)
                    refine tk_wp (hk := ?_)
                    refine tk_wp (hk := ?_)
                    refine tk_wp (hk := ?_)
                    refine tk_wp (hk := ?_)
                    refine tk_nil ?_
                    refine rg_done (by kernel_rfl) (fun w1 hst1 => ?_) _
                    clear hst; have hst := hst1; clear hst1
                    go_wp2_with fail
                    go_loopw [13, 14, 15, 16, 17, 18, 19, 20, 21] (fun a b c d e f' g h i wr => ∃ n : Nat, n ≤ 64 ∧ i = .int .i64 (n : Int) ∧ ∃ r, r = Sha.rounds W ⟨za, zb, zc, zd, ze, zf, zg, zh⟩ n ∧ a = nW r.a ∧ b = nW r.b ∧ c = nW r.c ∧ d = nW r.d ∧ e = nW r.e ∧ f' = nW r.f ∧ g = nW r.g ∧ h = nW r.h ∧
                      St w [] [(b8, blk 64 (wF W) 79), (b6, blk 8 (wF [za, zb, zc, zd, ze, zf, zg, zh]) 78), (b4, blk (cap * 1) f 5), (b2, blk 32 (fun _ => nB 0) 27)] wr) (fun _ _ _ _ _ _ _ _ i _ => 64 - (intOf i).toNat)
                    case atStart => exact ⟨0, by omega, rfl, _, rfl, rfl, rfl, rfl, rfl, rfl, rfl, rfl, rfl, hst⟩
                    case round =>
                      clear hst
                      obtain ⟨n, hn, rfl, r, hr, rfl, rfl, rfl, rfl, rfl, rfl, rfl, rfl, hst⟩ := hrel
                      have hlt := Sha.rounds_lt HA.out W n
                      rw [← hr] at hlt
                      have HR := Lib.hid hr
                      clear hr
                      obtain ⟨ra, rb, rc, rd, re, rf, rg, rh⟩ := r
                      simp only [Sha.S8.list, List.mem_cons, List.not_mem_nil, or_false, forall_eq_or_imp, forall_eq] at hlt
                      obtain ⟨ha, hb, hc, hd, he, hf, hg, hh⟩ := hlt
                      by_cases hnl : n < 64
                      · as_aux_lemma =>
                        obtain ⟨x, hx⟩ : ∃ x, x = W.getD n 0 := ⟨_, rfl⟩
                        obtain ⟨y, hy⟩ : ∃ y, y = Sha.K.getD n 0 := ⟨_, rfl⟩
                        have bx : x < 4294967296 := by rw [hx]; exact getD_lt HWa.out (by decide) _
                        have bY : y < 4294967296 := by rw [hy]; exact getD_lt Sha.K_lt (by decide) _
                        have Hx : Hid (wF W n = nW x) := by rw [hx]; rfl
                        have Hy : Hid (wF Sha.K n = nW y) := by rw [hy]; rfl
                        have HX := Lib.hid hx
                        have HY := Lib.hid hy
                        clear hx hy
                        have q1 := Sha.rotr_lt (n := 6) (by decide) he
                        have q2 := Sha.rotr_lt (n := 11) (by decide) he
                        have q3 := Sha.rotr_lt (n := 25) (by decide) he
                        have q4 := Sha.rotr_lt (n := 2) (by decide) ha
                        have q5 := Sha.rotr_lt (n := 13) (by decide) ha
                        have q6 := Sha.rotr_lt (n := 22) (by decide) ha
                        have e1 := xorW _ _ q1 q2
                        have e2 : bits .xor .u32 ((Sha.rotr 6 re ^^^ Sha.rotr 11 re : Nat) : Int) (Sha.rotr 25 re : Nat) = (Sha.e1 re : Nat) := xorW _ _ (Sha.xor_lt q1 q2) q3
                        have e3 := xorW _ _ q4 q5
                        have e4 : bits .xor .u32 ((Sha.rotr 2 ra ^^^ Sha.rotr 13 ra : Nat) : Int) (Sha.rotr 22 ra : Nat) = (Sha.e0 ra : Nat) := xorW _ _ (Sha.xor_lt q4 q5) q6
                        obtain ⟨ne, hne⟩ : ∃ ne, ne = 4294967295 - re := ⟨_, rfl⟩
                        have e5 : (4294967295 : Int) - (re : Int) = (ne : Int) := by omega
                        have bne : ne < 4294967296 := by omega
                        have e6 := (bitsW re rf he hf).1
                        have e7 := (bitsW ne rg bne hg).1
                        have e8 : bits .xor .u32 ((re &&& rf : Nat) : Int) ((ne &&& rg : Nat) : Int) = (Sha.ch re rf rg : Nat) := by
                          rw [xorW _ _ (Sha.and_lt hf) (Sha.and_lt hg), hne]; rfl
                        have e9 := (bitsW ra rb ha hb).1
                        have e10 := (bitsW ra rc ha hc).1
                        have e11 := (bitsW rb rc hb hc).1
                        have e12 := xorW _ _ (Sha.and_lt (a := ra) hb) (Sha.and_lt (a := ra) hc)
                        have e13 : bits .xor .u32 ((ra &&& rb ^^^ ra &&& rc : Nat) : Int) ((rb &&& rc : Nat) : Int) = (Sha.maj ra rb rc : Nat) := xorW _ _ (Sha.xor_lt (Sha.and_lt hb) (Sha.and_lt hc)) (Sha.and_lt hc)
                        have bch := Sha.ch_lt (e := re) hf hg
                        have bmj := Sha.maj_lt (a := ra) hb hc
                        have be0 := Sha.e0_lt ha
                        have be1 := Sha.e1_lt he
                        obtain ⟨t, ht⟩ : ∃ t, t = (rh + Sha.e1 re + Sha.ch re rf rg + y + x) % 4294967296 := ⟨_, rfl⟩
                        obtain ⟨u, hu⟩ : ∃ u, u = (Sha.e0 ra + Sha.maj ra rb rc) % 4294967296 := ⟨_, rfl⟩
                        obtain ⟨na, hna⟩ : ∃ na, na = (t + u) % 4294967296 := ⟨_, rfl⟩
                        obtain ⟨nd, hnd⟩ : ∃ nd, nd = (rd + t) % 4294967296 := ⟨_, rfl⟩
                        have et : ((rh : Int) + (Sha.e1 re : Nat) + (Sha.ch re rf rg : Nat) + (y : Nat) + (x : Nat)) % 4294967296 = (t : Nat) := by rw [ht]; omega
                        have eu : (((Sha.e0 ra : Nat) : Int) + ((Sha.maj ra rb rc : Nat) : Int)) % 4294967296 = (u : Nat) := by rw [hu]; omega
                        have ena : ((t : Int) + ((u : Nat) : Int)) % 4294967296 = (na : Nat) := by rw [hna]; omega
                        have end' : ((rd : Int) + ((t : Nat) : Int)) % 4294967296 = (nd : Nat) := by rw [hnd]; omega
                        have HR2 : Hid (Sha.rounds W ⟨za, zb, zc, zd, ze, zf, zg, zh⟩ (n + 1) = ⟨na, ra, rb, rc, nd, re, rf, rg⟩) := by
                          show _ = _
                          rw [Sha.rounds, ← HR.out, ← HX.out, ← HY.out, hna, hnd, ht, hu]; rfl
                        clear ht hu hna hnd
                        have HNE := Lib.hid hne
                        clear hne
                        go_wp2_with (fail)
                        refine rg_start (St w [] [(b8, blk 64 (wF W) 79), (b6, blk 8 (wF [za, zb, zc, zd, ze, zf, zg, zh]) 78), (b4, blk (cap * 1) f 5), (b2, blk 32 (fun _ => nB 0) 27)]) mixed (hst.drew) ?_
                        refine rg_take [0, 1, 2, 3, 4, 5, 6, 7, 8, 9, 10, 11, 12, 13, 14, 15, 16, 17, 18, 19, 20, 21, 22, 23, 24, 25, 26, 27] 0 _ rfl (by kernel_rfl) (by kernel_rfl) rfl (cls_st _ _ _) (fun _ _ _ _ _ h => h) ?_
                        refine tk_wp (hk := ?_)
                        refine tk_wp (hk := ?_)
                        refine tk_call pl27 rfl rfl (by rfl) rfl (fun w hst => turn_any re 6 w he (by decide)) (fun w u w' hR => (by obtain ⟨rfl, rfl⟩ := hR; exact ⟨rfl, Below.refl _ _⟩)) (hk := ?_)
                        refine tk_wp (hk := ?_)
                        refine tk_call pl27 rfl rfl (by rfl) rfl (fun w hst => turn_any re 11 w he (by decide)) (fun w u w' hR => (by obtain ⟨rfl, rfl⟩ := hR; exact ⟨rfl, Below.refl _ _⟩)) (hk := ?_)
                        refine tk_wp (hk := ?_)
                        refine tk_wp (hk := ?_)
                        refine tk_call pl27 rfl rfl (by rfl) rfl (fun w hst => turn_any re 25 w he (by decide)) (fun w u w' hR => (by obtain ⟨rfl, rfl⟩ := hR; exact ⟨rfl, Below.refl _ _⟩)) (hk := ?_)
                        refine tk_wp (hk := ?_)
                        refine tk_wp (hk := ?_)
                        refine tk_wp (hk := ?_)
                        refine tk_wp (hk := ?_)
                        refine tk_wp (hk := ?_)
                        refine tk_wp (hk := ?_)
                        refine tk_wp (hk := ?_)
                        refine tk_wp (hk := ?_)
                        refine tk_wp (hk := ?_)
                        refine tk_wp (hk := ?_)
                        refine tk_wp (hk := ?_)
                        refine tk_wp (hk := ?_)
                        refine tk_wp (hk := ?_)
                        refine tk_load1 rfl rfl (by rfl) rfl (fun w hst => hst.hasOld HK.out (by simp)) (at_idx Hy.out (by omega)) (by omega) sc77 (hk := ?_)
                        refine tk_wp (hk := ?_)
                        refine tk_wp (hk := ?_)
                        refine tk_wp (hk := ?_)
                        refine tk_load1 rfl rfl (by rfl) rfl (fun w hst => (by first | exact St.hasb hst (by repeat (first | exact Pick.head | apply Pick.tail)) | exact St.hasOld hst (by assumption) (by simp) | assumption)) (at_idx Hx.out (by omega)) (by omega) sc77 (hk := ?_)
                        refine tk_wp (hk := ?_)
                        refine tk_wp (hk := ?_)
                        refine tk_nil ?_
                        refine rg_done (by kernel_rfl) (fun w1 hst1 => ?_) _
                        clear hst; have hst := hst1; clear hst1
                        go_wp2_with (first
      | ((with_reducible refine at_d 201 ?_); go_loud (refine wl_call pl27 rfl rfl rfl (turn_any ra 2 _ ha (by decide)) ?_; rintro v w' ⟨rfl, rfl⟩))
      | ((with_reducible refine at_d 203 ?_); go_loud (refine wl_call pl27 rfl rfl rfl (turn_any ra 13 _ ha (by decide)) ?_; rintro v w' ⟨rfl, rfl⟩))
      | ((with_reducible refine at_d 206 ?_); go_loud (refine wl_call pl27 rfl rfl rfl (turn_any ra 22 _ ha (by decide)) ?_; rintro v w' ⟨rfl, rfl⟩)))
                        go_roundw
                        case rel =>
                          refine ⟨n + 1, by omega, by go_num, _, rfl, ?_⟩
                          rw [HR2.out]
                          refine ⟨?_, rfl, rfl, rfl, ?_, rfl, rfl, rfl, hst⟩
                          · first | (rw [ena]; done) | (rw [eu, ena]; done) | exact congrArg (Value.int .u32) ena
                          · first | (rw [end']; done) | exact congrArg (Value.int .u32) end'
                        case measure => simp [intOf]; omega
                      · as_aux_lemma =>
                        obtain rfl : n = 64 := by omega
                        rw [show ((64 : Nat) : Int) = 64 from rfl]
                        have HB2 : Hid (Sha.block ⟨za, zb, zc, zd, ze, zf, zg, zh⟩ B = Sha.add8 ⟨za, zb, zc, zd, ze, zf, zg, zh⟩ ⟨ra, rb, rc, rd, re, rf, rg, rh⟩) := by show _ = _; rw [HBlk.out, ← HR.out]
                        obtain ⟨na, hna⟩ : ∃ n, n = (za + ra) % 4294967296 := ⟨_, rfl⟩; obtain ⟨nb, hnb⟩ : ∃ n, n = (zb + rb) % 4294967296 := ⟨_, rfl⟩; obtain ⟨nc, hnc⟩ : ∃ n, n = (zc + rc) % 4294967296 := ⟨_, rfl⟩; obtain ⟨nd, hnd⟩ : ∃ n, n = (zd + rd) % 4294967296 := ⟨_, rfl⟩; obtain ⟨ne, hne⟩ : ∃ n, n = (ze + re) % 4294967296 := ⟨_, rfl⟩; obtain ⟨nf, hnf⟩ : ∃ n, n = (zf + rf) % 4294967296 := ⟨_, rfl⟩; obtain ⟨ng, hng⟩ : ∃ n, n = (zg + rg) % 4294967296 := ⟨_, rfl⟩; obtain ⟨nh, hnh⟩ : ∃ n, n = (zh + rh) % 4294967296 := ⟨_, rfl⟩
                        have ena : ((za : Int) + (ra : Int)) % 4294967296 = (na : Int) := (by omega); have enb : ((zb : Int) + (rb : Int)) % 4294967296 = (nb : Int) := (by omega); have enc : ((zc : Int) + (rc : Int)) % 4294967296 = (nc : Int) := (by omega); have end' : ((zd : Int) + (rd : Int)) % 4294967296 = (nd : Int) := (by omega); have ene : ((ze : Int) + (re : Int)) % 4294967296 = (ne : Int) := (by omega); have enf : ((zf : Int) + (rf : Int)) % 4294967296 = (nf : Int) := (by omega); have eng : ((zg : Int) + (rg : Int)) % 4294967296 = (ng : Int) := (by omega); have enh : ((zh : Int) + (rh : Int)) % 4294967296 = (nh : Int) := (by omega)
                        have HN8 : Hid (Sha.add8 ⟨za, zb, zc, zd, ze, zf, zg, zh⟩ ⟨ra, rb, rc, rd, re, rf, rg, rh⟩ = ⟨na, nb, nc, nd, ne, nf, ng, nh⟩) := by
                          show _ = _
                          rw [hna, hnb, hnc, hnd, hne, hnf, hng, hnh]; rfl
                        clear hna hnb hnc hnd hne hnf hng hnh
                        go_wp2_with (first
      | ((with_reducible refine at_d 233 ?_); go_loud (refine wl_load1v rfl rfl rfl (by first | exact St.hasb hst (by repeat (first | exact Pick.head | apply Pick.tail)) | exact St.hasOld hst (by assumption) (by simp) | assumption) (show _ = Value.int .u32 ((za : Nat) : Int) from rfl) (by omega) sc77 (hk := ?_)))
      | ((with_reducible refine at_d 237 ?_); go_loud (refine wl_load1v rfl rfl rfl (by first | exact St.hasb hst (by repeat (first | exact Pick.head | apply Pick.tail)) | exact St.hasOld hst (by assumption) (by simp) | assumption) (show _ = Value.int .u32 ((zb : Nat) : Int) from rfl) (by omega) sc77 (hk := ?_)))
      | ((with_reducible refine at_d 241 ?_); go_loud (refine wl_load1v rfl rfl rfl (by first | exact St.hasb hst (by repeat (first | exact Pick.head | apply Pick.tail)) | exact St.hasOld hst (by assumption) (by simp) | assumption) (show _ = Value.int .u32 ((zc : Nat) : Int) from rfl) (by omega) sc77 (hk := ?_)))
      | ((with_reducible refine at_d 245 ?_); go_loud (refine wl_load1v rfl rfl rfl (by first | exact St.hasb hst (by repeat (first | exact Pick.head | apply Pick.tail)) | exact St.hasOld hst (by assumption) (by simp) | assumption) (show _ = Value.int .u32 ((zd : Nat) : Int) from rfl) (by omega) sc77 (hk := ?_)))
      | ((with_reducible refine at_d 249 ?_); go_loud (refine wl_load1v rfl rfl rfl (by first | exact St.hasb hst (by repeat (first | exact Pick.head | apply Pick.tail)) | exact St.hasOld hst (by assumption) (by simp) | assumption) (show _ = Value.int .u32 ((ze : Nat) : Int) from rfl) (by omega) sc77 (hk := ?_)))
      | ((with_reducible refine at_d 253 ?_); go_loud (refine wl_load1v rfl rfl rfl (by first | exact St.hasb hst (by repeat (first | exact Pick.head | apply Pick.tail)) | exact St.hasOld hst (by assumption) (by simp) | assumption) (show _ = Value.int .u32 ((zf : Nat) : Int) from rfl) (by omega) sc77 (hk := ?_)))
      | ((with_reducible refine at_d 257 ?_); go_loud (refine wl_load1v rfl rfl rfl (by first | exact St.hasb hst (by repeat (first | exact Pick.head | apply Pick.tail)) | exact St.hasOld hst (by assumption) (by simp) | assumption) (show _ = Value.int .u32 ((zg : Nat) : Int) from rfl) (by omega) sc77 (hk := ?_)))
      | ((with_reducible refine at_d 261 ?_); go_loud (refine wl_load1v rfl rfl rfl (by first | exact St.hasb hst (by repeat (first | exact Pick.head | apply Pick.tail)) | exact St.hasOld hst (by assumption) (by simp) | assumption) (show _ = Value.int .u32 ((zh : Nat) : Int) from rfl) (by omega) sc77 (hk := ?_)))
      | ((with_reducible refine at_d 264 ?_); go_loud (rw [ena, enb, enc, end', ene, enf, eng, enh]; refine wl_buildA (l := [na, nb, nc, nd, ne, nf, ng, nh].map nW) rfl rfl bld78 rfl rfl rfl (hk := ?_)))
      | ((with_reducible refine at_n (.store 78 (.tmp 6) (.tmp 264)) ?_); go_loud ((first | (refine wl_storeAll rfl rfl rfl rfl (hs := agg78) (hk := ?_)) | (refine wl_storeN rfl rfl rfl rfl (hs := agg78) (hk := ?_))); clear hst; intro w1 hst)))
                        go_wp2_with fail
                        go_roundw
                        case rel =>
                          refine ⟨k + 1, by omega, by go_num, ?_⟩
                          rw [HAft.out, HB2.out, HN8.out]
                          rw [blk_lst _ 8 78 rfl] at hst
                          exact hst.sub (by repeat (first | exact List.nil_sublist _ | apply List.Sublist.cons_cons | apply List.Sublist.cons))
                        case measure => simp [intOf]; omega
            · obtain rfl : k = m := by omega
              have ha := after_lt p k
              have hout : Sha.sha l = (Sha.after p k).bytes := by
                rw [Sha.sha, ← HP.out, HM.out]; congr 1; rw [Nat.mul_div_cancel_left _ (by decide)]
              obtain ⟨s, hs⟩ : ∃ s, s = Sha.after p k := ⟨_, rfl⟩
              rw [← hs] at hout hst ha
              clear hs
              have Hout := Lib.hid hout
              have HA := Lib.hid ha
              clear ha hout
              go_wp2_with (first
      | ((with_reducible refine at_d 24 ?_); go_loud (refine wl_alloc rfl rfl hst zer27 ?_; clear hst; intro b24 w24 hb24 hst)))
              rw [bF_nil] at hst
              go_loopw [25] (fun i wr => ∃ n : Nat, n ≤ 32 ∧ i = .int .i64 (n : Int) ∧ St w [] [(b24, blk 32 (bF (s.bytes.take n)) 27), (b6, blk 8 (wF s.list) 78), (b2, blk 32 (fun _ => nB 0) 27)] wr) (fun i _ => 32 - (intOf i).toNat)
              case atStart => exact ⟨0, by omega, rfl, hst.sub (by simp)⟩
              case round =>
                clear hst
                obtain ⟨n, hn, rfl, hst⟩ := hrel
                by_cases hnl : n < 32
                · obtain ⟨q, hq⟩ : ∃ q, q = n / 4 := ⟨_, rfl⟩
                  obtain ⟨r, hr⟩ : ∃ r, r = n % 4 := ⟨_, rfl⟩
                  obtain ⟨e, he⟩ : ∃ e, e = 24 - 8 * r := ⟨_, rfl⟩
                  have hq8 : q < 8 := by omega
                  have hby := bytes_get s hnl
                  rw [← hq, ← hr, ← he] at hby
                  have eq1 : (n : Int) / 4 = (q : Int) := by omega
                  have er1 : (n : Int) % 4 = (r : Int) := by omega
                  have er2 : 24 - 8 * (r : Int) = (e : Int) := by omega
                  have be : e ≤ 24 := by omega
                  obtain ⟨x, hx⟩ : ∃ x, x = s.list.getD q 0 := ⟨_, rfl⟩
                  rw [← hx] at hby
                  have bx : x < 4294967296 := by rw [hx]; exact getD_lt HA.out (by decide) _
                  have Hx : Hid (wF s.list q = nW x) := by rw [hx]; rfl
                  have HB : Hid (s.bytes.take (n + 1) = s.bytes.take n ++ [x / 2 ^ e % 256]) := by
                    show _ = _
                    rw [take_snoc _ _ (by rw [bytes_len]; omega), hby]
                  have Hlen : Hid ((s.bytes.take n).length = n) := by show _ = _; rw [List.length_take, bytes_len]; omega
                  clear hx hq hr he hby
                  go_wp2_with (first
      | ((with_reducible refine at_d 273 ?_); go_loud (refine wl_load1v rfl rfl rfl (by first | exact St.hasb hst (by repeat (first | exact Pick.head | apply Pick.tail)) | exact St.hasOld hst (by assumption) (by simp) | assumption) Hx.out (by omega) sc77 (hk := ?_)))
      | ((with_reducible refine at_n (.store 5 (.tmp 281) (.tmp 280)) ?_); go_loud (refine wl_store1 rfl rfl rfl (hs := sc5) (hk := ?_); clear hst; intro w1 hst)))
                  go_wp2_with fail
                  go_roundw
                  case rel =>
                    refine ⟨n + 1, by omega, by go_num, ?_⟩
                    rw [HB.out, ← bF_snoc Hlen.out]
                    rw [show Value.int IntKind.u8 ((x : Int) / 2 ^ e % 256) = nB (x / 2 ^ e % 256) from congrArg _ (by simp)] at hst
                    exact hst
                  case measure => simp [intOf]; omega
                · obtain rfl : n = 32 := by omega
                  go_wp2_with (first
      | ((with_reducible refine at_d 282 ?_); go_loud ((first | (refine wl_loadAll rfl rfl rfl (hs := agg27) (hk := ?_)) | (refine wl_loadN rfl rfl rfl (hs := agg27) (hk := ?_)))))
      | ((with_reducible refine at_n (.store 27 (.tmp 2) (.tmp 282)) ?_); go_loud ((first | (refine wl_storeAll rfl rfl rfl rfl (hs := agg27) (hk := ?_)) | (refine wl_storeN rfl rfl rfl rfl (hs := agg27) (hk := ?_))); clear hst; intro w1 hst)))
                  rw [show s.bytes.take 32 = s.bytes from rfl] at hst
                  refine ret_cellN rfl rfl (St.hasb hst Pick.head) agg27 rfl ⟨_, rfl, by rw [Hout.out], hst.none⟩
end Go.Proofs.YthbobmpeaemdnaaDoor
