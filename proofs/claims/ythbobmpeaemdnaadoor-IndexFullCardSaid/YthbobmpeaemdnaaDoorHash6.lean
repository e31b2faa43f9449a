/- The walks of hash.start and hash.Sum. -/
import Derived.Test.YthbobmpeaemdnaaDoorHash5
import Derived.Test.YthbobmpeaemdnaaDoorLibH
namespace Go.Proofs.YthbobmpeaemdnaaDoor
open Go.RowKit Go.Jal

theorem lst_row (l : List Nat) (n : Nat) (hn : l.length = n) : row n (lstF (l.map nW)) = row n (wF l) := by
  subst hn
  refine row_congr fun j hj => ?_
  unfold lstF wF
  simp only [List.getD_eq_getElem?_getD, List.getElem?_map, List.getElem?_eq_getElem hj]
  rfl
set_option maxRecDepth 100000 in
theorem start_any (w : World) : Ret Tryd.prog 41 #[] w fun v' w' => v' = .agg (row 8 (wF Sha.init.list)) ∧ St w [] [] w' := by
  go_enter Tryd.func41, Tryd.ntmps41
  have hst := St.refl w
  go_wp2_with (first
      | ((with_reducible refine at_d 0 ?_); go_loud (refine wl_alloc rfl rfl hst zer95 ?_; clear hst; intro b0 w0 hb0 hst))
      | ((with_reducible refine at_d 1 ?_); go_loud (refine wl_buildA (l := Sha.init.list.map nW) rfl rfl bld95 rfl rfl rfl (hk := ?_)))
      | ((with_reducible refine at_n (.store 95 (.tmp 0) (.tmp 1)) ?_); go_loud ((first | (refine wl_storeAll rfl rfl rfl rfl (hs := agg95) (hk := ?_)) | (refine wl_storeN rfl rfl rfl rfl (hs := agg95) (hk := ?_))); clear hst; intro w1 hst)))
  exact ret_cellN rfl rfl (St.hasb hst Pick.head) agg95 rfl ⟨_, rfl, by rw [lst_row _ 8 rfl], hst.none⟩
theorem bigB4 (x : Nat) : bigB 4 x = Sha.b4 x := by simp [bigB, Sha.b4, List.range_succ]
theorem b4_len (x : Nat) : (Sha.b4 x).length = 4 := rfl
theorem b4_lt (x : Nat) : ∀ y ∈ Sha.b4 x, y < 256 := by simp [Sha.b4]; omega
theorem bytes_lt (s : Sha.S8) : ∀ y ∈ s.bytes, y < 256 := by
  intro y hy
  simp only [Sha.S8.bytes, List.mem_append] at hy
  rcases hy with ((((((hy | hy) | hy) | hy) | hy) | hy) | hy) | hy <;> exact b4_lt _ y hy
theorem bytes_len (s : Sha.S8) : s.bytes.length = 32 := rfl
theorem bytes_step (s : Sha.S8) {k : Nat} (hk : k < 8) : s.bytes.take (4 * (k + 1)) = s.bytes.take (4 * k) ++ Sha.b4 (s.list.getD k 0) := by
  obtain rfl | rfl | rfl | rfl | rfl | rfl | rfl | rfl : k = 0 ∨ k = 1 ∨ k = 2 ∨ k = 3 ∨ k = 4 ∨ k = 5 ∨ k = 6 ∨ k = 7 := by omega
  all_goals rfl
theorem sha_len (l : List Nat) : (Sha.sha l).length = 32 := rfl
theorem sha_lt (l : List Nat) : ∀ y ∈ Sha.sha l, y < 256 := bytes_lt _
theorem pad_len (l : List Nat) : (Sha.pad l).length = l.length + 9 + Sha.zerosOf l.length := by
  simp [Sha.pad, Sha.big8]; omega
theorem pad_mod (l : List Nat) : (Sha.pad l).length % 64 = 0 := by rw [pad_len]; unfold Sha.zerosOf; omega
theorem pad_lt {l : List Nat} (h : ∀ x ∈ l, x < 256) : ∀ x ∈ Sha.pad l, x < 256 := by
  intro x hx
  simp only [Sha.pad, List.mem_append, List.mem_singleton, List.mem_replicate] at hx
  rcases hx with ((hx | hx) | hx) | hx
  · exact h x hx
  · omega
  · omega
  · simp [Sha.big8] at hx; omega
theorem block_lt (s : Sha.S8) (b : List Nat) : ∀ x ∈ (Sha.block s b).list, x < 4294967296 := by
  simp [Sha.block, Sha.add8, Sha.S8.list]; omega
theorem after_lt (p : List Nat) : ∀ n, ∀ x ∈ (Sha.after p n).list, x < 4294967296
  | 0 => by show ∀ x ∈ Sha.init.list, _; decide
  | n + 1 => block_lt _ _

set_option maxRecDepth 100000 in
theorem sum_any (v : Value) (ls : List (List Nat)) (w : World) (h : Bss w v ls) (hn : ls.length ≤ 1000000000000) (hl : ls.flatten.length ≤ 1000000000000) (hlt : ∀ x ∈ ls.flatten, x < 256) (hK : Has w 1 64 (wF Sha.K)) :
    Ret Tryd.prog 25 #[v] w fun v' w' => v' = .agg (row 32 (bF (Sha.sha ls.flatten))) ∧ St w [] [] w' := by
  obtain ⟨p, hp⟩ : ∃ p, p = Sha.pad ls.flatten := ⟨_, rfl⟩
  have hp1 := pad_len ls.flatten
  have hp2 := pad_mod ls.flatten
  have hp3 := pad_lt hlt
  rw [← hp] at hp1 hp2 hp3
  obtain ⟨m, hm⟩ : ∃ m, p.length = 64 * m := ⟨p.length / 64, by omega⟩
  have hm2 : m ≤ 20000000000 := by unfold Sha.zerosOf at hp1; omega
  have HP := Lib.hid hp
  go_enter Tryd.func25, Tryd.ntmps25
  have hst := St.refl w
  go_wp2_with (first
      | ((with_reducible refine at_d 2 ?_); go_loud (refine wl_alloc rfl rfl hst zer28 ?_; clear hst; intro b2 w2 hb2 hst))
      | ((with_reducible refine at_d 9 ?_); go_loud (refine wl_call pl41 rfl rfl rfl (start_any _) ?_; rintro v9 w9 ⟨rfl, hst9⟩; replace hst := hst.call hst9; clear hst9))
      | ((with_reducible refine at_d 3 ?_); go_loud (refine wl_alloc rfl rfl hst zer95 ?_; clear hst; intro b3 w3 hb3 hst))
      | ((with_reducible refine at_n (.store 95 (.tmp 3) (.tmp 9)) ?_); go_loud ((first | (refine wl_storeAll rfl rfl rfl rfl (hs := agg95) (hk := ?_)) | (refine wl_storeN rfl rfl rfl rfl (hs := agg95) (hk := ?_))); clear hst; intro w1 hst))
      | ((with_reducible refine at_d 11 ?_); go_loud (refine wl_call pl43 rfl rfl rfl (join_any _ ls _ (h.keep hst) (by omega) (by omega) hlt) ?_; rintro v11 w11 ⟨hb11, hst11⟩; replace hst := hst.call hst11; clear hst11))
      | ((with_reducible refine at_d 12 ?_); go_loud (refine wl_call pl42 rfl rfl rfl (padded_any _ _ _ hb11 hl) ?_; rintro v12 w12 ⟨E12, hown, hst12⟩; replace hst := hst.call hst12; clear hst12)))
  rw [← hp] at hown
  rcases hown with ⟨rfl, h0, _⟩ | ⟨b4, cap, f, rfl, hcap, hcm, rfl, hf⟩
  · omega
  rw [hm] at hcap ⊢
  have hst4 : St w [] [(b3, blk 8 (wF (Sha.after p 0).list) 95), (b4, blk (cap * 1) f 5), (b2, blk 32 (fun _ => nB 0) 28)] w12 := hst.front (.tail .head)
  clear hst
  have hf' : ∀ j, j < p.length → f (0 + j) = bF p j := fun j hj => by rw [Nat.zero_add]; exact hf j (by omega)
  have HSub : Hid (∀ (wr : World) (k n c : Nat), Has wr b4 (cap * 1) f → k < m → n = 64 → 64 ≤ c → c ≤ maxLen → Bs wr (.slice (some ⟨b4, 64 * k, none⟩) n c) ((p.drop (64 * k)).take 64)) := by
    show ∀ _, _
    intro wr k n c hb hk hn hc hcm
    subst hn
    have := Bs.sub (w := wr) (i := 64 * k) (j := 64 * k + 64) (cap := c) hb (by omega) hf' hp3 (by omega) (by omega) (by omega) hcm
    rwa [show 64 * k + 64 - 64 * k = 64 by omega, Nat.zero_add] at this
  have HP3 := Lib.hid hp3
  have HP1 := Lib.hid hp1
  have HM := Lib.hid hm
  have HL := Lib.hid hlt
  have bm : 64 * m ≤ cap := by omega
  clear hf hf' hp3 hp1 hp2 hm hlt h hp
  go_loopw [5] (fun i wr => ∃ k : Nat, k ≤ m ∧ i = .int .i64 (64 * (k : Int)) ∧ St w [] [(b3, blk 8 (wF (Sha.after p k).list) 95), (b4, blk (cap * 1) f 5), (b2, blk 32 (fun _ => nB 0) 28)] wr) (fun i _ => 64 * m - (intOf i).toNat)
  case atStart => exact ⟨0, by omega, rfl, hst4⟩
  case round =>
    clear hst4
    obtain ⟨k, hk, rfl, hst⟩ := hrel
    by_cases hkl : k < m
    · go_wp2_with (first
      | ((with_reducible refine at_d 24 ?_); go_loud (refine wl_call pl44 rfl rfl rfl (mix_any (Sha.after p k) b3 95 ((p.drop (64 * k)).take 64) _ _ (hst.own (b3, blk 8 (wF (Sha.after p k).list) 95) (List.mem_cons_self ..)) (after_lt p k) (HSub.out _ k _ _ (hst.hasb (.tail .head)) hkl (by omega) (by omega) (by unfold maxLen at *; omega)) (by have := HM.out; simp; omega) (hst.hasOld hK (by simp))) ?_; rintro v24 w24 ⟨rfl, hst24⟩; replace hst := hst.call1 hst24; clear hst24)))
      go_wp2_with fail
      go_roundw
      case rel => exact ⟨k + 1, by omega, by go_num, hst⟩
      case measure => simp [intOf]; omega
    · obtain rfl : k = m := by omega
      have ha := after_lt p k
      have hout : Sha.sha ls.flatten = (Sha.after p k).bytes := by
        rw [Sha.sha, ← HP.out, HM.out]; congr 1; rw [Nat.mul_div_cancel_left _ (by decide)]
      obtain ⟨s, hs⟩ : ∃ s, s = Sha.after p k := ⟨_, rfl⟩
      rw [← hs] at hout hst ha
      clear hs
      have Hout := Lib.hid hout
      have HA := Lib.hid ha
      clear ha hout
      go_wp2_with (first
      | ((with_reducible refine at_d 6 ?_); go_loud (refine wl_alloc rfl rfl hst zer28 ?_; clear hst; intro b6 w6 hb6 hst))
      | ((with_reducible refine at_d 25 ?_); go_loud ((first | (refine wl_loadAll rfl rfl rfl (hs := agg95) (hk := ?_)) | (refine wl_loadN rfl rfl rfl (hs := agg95) (hk := ?_))))))
      rw [bF_nil] at hst
      go_loopw [26] (fun i wr => ∃ k : Nat, k ≤ 8 ∧ i = .int .i64 (k : Int) ∧ St w [] [(b6, blk 32 (bF (s.bytes.take (4 * k))) 28), (b2, blk 32 (fun _ => nB 0) 28)] wr) (fun i _ => 8 - (intOf i).toNat)
      case atStart => exact ⟨0, by omega, rfl, hst.sub (by simp)⟩
      case round =>
        clear hst
        obtain ⟨k', hk', rfl, hst⟩ := hrel
        by_cases hkl : k' < 8
        · obtain ⟨x, hx⟩ : ∃ x, x = s.list.getD k' 0 := ⟨_, rfl⟩
          have bx : x < 4294967296 := by rw [hx]; exact getD_lt HA.out (by decide) _
          have Hx : Hid (wF s.list k' = nW x) := by rw [hx]; rfl
          have HB : Hid (s.bytes.take (4 * (k' + 1)) = s.bytes.take (4 * k') ++ Sha.b4 x) := by rw [hx]; exact bytes_step s hkl
          have hlen : (s.bytes.take (4 * k')).length = 4 * k' := by rw [List.length_take, bytes_len]; omega
          have HLen := Lib.hid hlen
          clear hx hlen
          go_wp2_with (first
      | ((with_reducible refine at_d 29 ?_); go_loud (refine wl_index1 rfl rfl Tryd.underlying95 sc77 rfl rfl hkl Hx.out (hk := ?_)))
      | ((with_reducible refine at_d 35 ?_); go_loud (refine wl_sliceArr (l := 4 * k') (h := 4 * k' + 4) rfl rfl Tryd.underlying28 sc5.size rfl (by first | rfl | (show Value.int _ _ = _; congr 1)) (by first | rfl | (show Value.int _ _ = _; congr 1)) (by omega) (by omega) (by omega) (show _ = Value.slice (some ⟨b6, 4 * k', none⟩) 4 (32 - 4 * k') by rw [Nat.zero_add]; congr 1; omega) (hk := ?_)))
      | ((with_reducible refine at_d 38 ?_); go_loud (refine wl_call pl45 rfl rfl rfl (putBig_any b6 (4 * k') 32 4 _ x _ 28 _ (hst.own _ (List.mem_cons_self ..)) (by omega) (by decide) (by omega)) ?_; rintro v38 w38 ⟨rfl, hst38⟩; replace hst := hst.call1 hst38; clear hst38)))
          go_wp2_with fail
          go_roundw
          case rel =>
            refine ⟨k' + 1, by omega, by go_num, ?_⟩
            rw [HB.out, ← blit_bF _ _ 4 (b4_len x), HLen.out, ← bigB4]
            exact hst
          case measure => simp [intOf]; omega
        · obtain rfl : k' = 8 := by omega
          go_wp2_with (first
      | ((with_reducible refine at_d 40 ?_); go_loud ((first | (refine wl_loadAll rfl rfl rfl (hs := agg28) (hk := ?_)) | (refine wl_loadN rfl rfl rfl (hs := agg28) (hk := ?_)))))
      | ((with_reducible refine at_n (.store 28 (.tmp 2) (.tmp 40)) ?_); go_loud ((first | (refine wl_storeAll rfl rfl rfl rfl (hs := agg28) (hk := ?_)) | (refine wl_storeN rfl rfl rfl rfl (hs := agg28) (hk := ?_))); clear hst; intro w1 hst)))
          rw [show s.bytes.take (4 * 8) = s.bytes from rfl] at hst
          refine ret_cellN rfl rfl (St.hasb hst Pick.head) agg28 rfl ⟨_, rfl, by rw [Hout.out], hst.none⟩
end Go.Proofs.YthbobmpeaemdnaaDoor
