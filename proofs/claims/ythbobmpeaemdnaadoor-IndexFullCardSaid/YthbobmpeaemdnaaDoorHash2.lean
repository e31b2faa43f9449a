/- The walks of hash.spread. -/
import Derived.Test.YthbobmpeaemdnaaDoorHash1
import Derived.Test.YthbobmpeaemdnaaDoorLibF
namespace Go.Proofs.YthbobmpeaemdnaaDoor
open Go.RowKit Go.Jal

set_option maxRecDepth 100000 in
theorem spread_any (l : List Nat) (v : Value) (w : World) (h : Bs w v l) (hl : l.length = 64) :
    Ret Tryd.prog 62 #[v] w fun v' w' => v' = .agg (row 64 (wF (Sha.sched l))) ∧ St w [] [] w' := by
  obtain ⟨ao, cap, rfl, hcap, hm, hlt, hnil, hc⟩ := h
  obtain ⟨b, off, n, f, rfl, hb, hn, hf⟩ := hc (by intro e; subst e; simp at hl)
  have HH : Hid (∀ (w' : World) (k m cap' : Nat), St w [] [] w' → k < 16 → m = 4 → 4 ≤ cap' → cap' ≤ maxLen → Bs w' (.slice (some ⟨b, off + 4 * k, none⟩) m cap') ((l.drop (4 * k)).take 4)) := by
    intro w' k m cap' hst hk hm4 h1 h2
    subst hm4
    have := Bs.sub (w := w') (i := 4 * k) (j := 4 * k + 4) (cap := cap') (hst.hasOld hb (by simp)) hn hf hlt (by omega) (by omega) (by omega) h2
    rwa [show 4 * k + 4 - 4 * k = 4 by omega] at this
  clear hc hf hnil hb
  unfold maxLen at hm
  rw [hl] at hcap hn
  rw [hl]
  go_enter Tryd.func62, Tryd.ntmps62
  have hst := St.refl w
  go_wp2_with (first
      | ((with_reducible refine at_d 2 ?_); go_loud (refine wl_alloc rfl rfl hst zer79 ?_; clear hst; intro b2 w2 hb2 hst))
      | ((with_reducible refine at_d 3 ?_); go_loud (refine wl_alloc rfl rfl hst zer79 ?_; clear hst; intro b3 w3 hb3 hst)))
  go_loopw [10] (fun i wr => ∃ k : Nat, k ≤ 16 ∧ i = .int .i64 k ∧ St w [] [(b3, blk 64 (wF (Sha.words l k)) 79), (b2, blk 64 (fun x => Value.int IntKind.u32 0) 79)] wr) (fun i _ => 16 - (intOf i).toNat)
  case atStart => exact ⟨0, by omega, rfl, by rw [wF_nil] at hst ⊢; exact hst⟩
  case round =>
    clear hst
    obtain ⟨k, hk, rfl, hst⟩ := hrel
    by_cases hkl : k < 16
    · have hbg := bigN_lt ((l.drop (4 * k)).take 4) (by intro x hx; have := HH.out wr k 4 4 hst.none hkl rfl (by omega) (by unfold maxLen; omega); obtain ⟨_, _, _, _, _, h, _⟩ := this; exact h x hx)
      have hbg2 : Sha.bigN ((l.drop (4 * k)).take 4) < 4294967296 := Nat.lt_of_lt_of_le hbg (Nat.pow_le_pow_right (show 256 > 0 by decide) (show _ ≤ 4 by rw [List.length_take]; omega))
      clear hbg
      go_wp2_with (first
      | ((with_reducible refine at_d 21 ?_); go_loud (refine wl_call pl80 rfl rfl rfl (big_any ((l.drop (4 * k)).take 4) _ wr ?hbs ?hbl) ?_; (case hbs => exact HH.out wr k _ _ hst.none hkl (by omega) (by omega) (by unfold maxLen; omega)); (case hbl => rw [List.length_take]; omega); rintro v w' ⟨rfl, rfl⟩))
      | ((with_reducible refine at_n (.store 77 (.tmp 23) (.tmp 22)) ?_); go_loud (refine wl_store1 rfl rfl rfl (hs := sc77) (hk := ?_); clear hst; intro w1 hst)))
      go_roundw
      case rel =>
        refine ⟨k + 1, by omega, by go_num, ?_⟩
        rw [words_snoc, ← wF_snoc (words_len l k)]
        exact hst
      case measure => simp [intOf]; omega
    · obtain rfl : k = 16 := by omega
      rw [show ((16 : Nat) : Int) = 16 from rfl]
      go_wp2_with fail
      clear hkl hk
      go_loopw [5] (fun i wr => ∃ k : Nat, k ≤ 48 ∧ i = .int .i64 ((k + 16 : Nat) : Int) ∧ St w [] [(b3, blk 64 (wF (Sha.grow (Sha.words l 16) k)) 79), (b2, blk 64 (fun x => Value.int IntKind.u32 0) 79)] wr) (fun i _ => 64 - (intOf i).toNat)
      case atStart => exact ⟨0, by omega, rfl, hst⟩
      case round =>
        clear hst
        obtain ⟨k, hk, rfl, hst⟩ := hrel
        by_cases hkl : k < 48
        · have hlen := Sha.grow_length (Sha.words l 16) k
          rw [words_len] at hlen
          have hall := Sha.grow_lt (words_lt hlt 16) k
          obtain ⟨S, hS⟩ : ∃ S, S = Sha.grow (Sha.words l 16) k := ⟨_, rfl⟩
          rw [← hS] at hst hlen hall
          obtain ⟨x, hx⟩ : ∃ x, x = S.getD (k + 1) 0 := ⟨_, rfl⟩
          obtain ⟨y, hy⟩ : ∃ y, y = S.getD (k + 14) 0 := ⟨_, rfl⟩
          obtain ⟨p, hp⟩ : ∃ p, p = S.getD k 0 := ⟨_, rfl⟩
          obtain ⟨q, hq⟩ : ∃ q, q = S.getD (k + 9) 0 := ⟨_, rfl⟩
          have bx : x < 4294967296 := by rw [hx]; exact getD_lt hall (by decide) _
          have bY : y < 4294967296 := by rw [hy]; exact getD_lt hall (by decide) _
          have bp : p < 4294967296 := by rw [hp]; exact getD_lt hall (by decide) _
          have bq : q < 4294967296 := by rw [hq]; exact getD_lt hall (by decide) _
          have Hx : Hid (wF S (k + 1) = nW x) := by rw [hx]; rfl
          have Hy : Hid (wF S (k + 14) = nW y) := by rw [hy]; rfl
          have Hp : Hid (wF S k = nW p) := by rw [hp]; rfl
          have Hq : Hid (wF S (k + 9) = nW q) := by rw [hq]; rfl
          have HN : Hid (Value.int .u32 ((((p : Int) + (Sha.s0 x : Nat) + (q : Nat)) % 4294967296 + (Sha.s1 y : Nat)) % 4294967296) = nW (Sha.schN S)) := by
            show _ = _
            unfold Sha.schN
            rw [hlen, show 16 + k - 16 = k by omega, show 16 + k - 15 = k + 1 by omega, show 16 + k - 7 = k + 9 by omega, show 16 + k - 2 = k + 14 by omega, ← hx, ← hy, ← hp, ← hq]
            exact congrArg (Value.int .u32) (by omega)
          have HS := Lib.hid hS
          have Hlen := Lib.hid hlen
          clear hx hy hp hq hS hall hlen
          have c1 := Sha.rotr_lt (n := 7) (by decide) bx
          have c2 := Sha.rotr_lt (n := 18) (by decide) bx
          have c3 := Sha.rotr_lt (n := 17) (by decide) bY
          have c4 := Sha.rotr_lt (n := 19) (by decide) bY
          have c5 := Sha.s0_lt bx
          have c6 := Sha.s1_lt bY
          have e1 := xorW _ _ c1 c2
          have e2 := xorW _ _ c3 c4
          have e3 : bits .xor .u32 ((Sha.rotr 7 x ^^^ Sha.rotr 18 x : Nat) : Int) ((x : Int) / 8) = ((Sha.s0 x : Nat) : Int) := xorW _ _ (Sha.xor_lt c1 c2) (Sha.div_lt 8 bx)
          have e4 : bits .xor .u32 ((Sha.rotr 17 y ^^^ Sha.rotr 19 y : Nat) : Int) ((y : Int) / 1024) = ((Sha.s1 y : Nat) : Int) := xorW _ _ (Sha.xor_lt c3 c4) (Sha.div_lt 1024 bY)
          go_wp2_with fail
          refine rg_start (St w [] [(b3, blk 64 (wF S) 79), (b2, blk 64 (fun x => Value.int IntKind.u32 0) 79)]) mixed (hst.drew) ?_
          refine rg_take [0, 1, 2, 3, 4, 5, 6, 7, 8, 9] 0 _ rfl (by kernel_rfl) (by kernel_rfl) rfl (cls_st _ _ _) (fun _ _ _ _ _ h => h) ?_
          refine tk_wp (hk := ?_)
          refine tk_wp (hk := ?_)
          refine tk_wp (hk := ?_)
          refine tk_load1 rfl rfl (by rfl) rfl (fun w hst => (by first | exact St.hasb hst (by repeat (first | exact Pick.head | apply Pick.tail)) | exact St.hasOld hst (by assumption) (by simp) | assumption)) Hx.out (by omega) sc77 (hk := ?_)
          refine tk_wp (hk := ?_)
          refine tk_wp (hk := ?_)
          refine tk_wp (hk := ?_)
          refine tk_load1 rfl rfl (by rfl) rfl (fun w hst => (by first | exact St.hasb hst (by repeat (first | exact Pick.head | apply Pick.tail)) | exact St.hasOld hst (by assumption) (by simp) | assumption)) Hy.out (by omega) sc77 (hk := ?_)
          refine tk_wp (hk := ?_)
          refine tk_wp (hk := ?_)
          refine tk_nil ?_
          refine rg_done (by kernel_rfl) (fun w1 hst1 => ?_) _
          clear hst; have hst := hst1; clear hst1
          go_wp2_with (first
      | ((with_reducible refine at_d 38 ?_); go_loud (refine wl_call pl63 rfl rfl rfl (rotl_any x 7 _ bx (by decide) (by decide)) ?_; rintro v w' ⟨rfl, rfl⟩))
      | ((with_reducible refine at_d 40 ?_); go_loud (refine wl_call pl63 rfl rfl rfl (rotl_any x 18 _ bx (by decide) (by decide)) ?_; rintro v w' ⟨rfl, rfl⟩))
      | ((with_reducible refine at_d 46 ?_); go_loud (refine wl_call pl63 rfl rfl rfl (rotl_any y 17 _ bY (by decide) (by decide)) ?_; rintro v w' ⟨rfl, rfl⟩))
      | ((with_reducible refine at_d 48 ?_); go_loud (refine wl_call pl63 rfl rfl rfl (rotl_any y 19 _ bY (by decide) (by decide)) ?_; rintro v w' ⟨rfl, rfl⟩)))
          refine rg_start (SX w [] b3 64 (wF S) (k + 16) 1 79 [(b2, blk 64 (fun x => Value.int IntKind.u32 0) 79)]) mixed (SX.of hst.drew Pick.head) ?_
          refine rg_take [0, 1, 2, 3, 4, 5, 6, 7, 8, 9, 10, 11, 12, 13, 14] 1 _ rfl (by kernel_rfl) (by kernel_rfl) rfl (cls_sx) (fun _ _ _ _ _ h => h) ?_
          refine tk_wp (hk := ?_)
          refine tk_wp (hk := ?_)
          refine tk_wp (hk := ?_)
          refine tk_wp (hk := ?_)
          refine tk_load1x rfl rfl (by rfl) rfl (fun w hst => (by obtain ⟨f, h1, h2⟩ := hst.own (k := k) (by omega) (by omega); exact ⟨f, h1, h2.trans Hp.out⟩)) (by omega) sc77 (hk := ?_)
          refine tk_wp (hk := ?_)
          refine tk_wp (hk := ?_)
          refine tk_wp (hk := ?_)
          refine tk_wp (hk := ?_)
          refine tk_wp (hk := ?_)
          refine tk_load1x rfl rfl (by rfl) rfl (fun w hst => (by obtain ⟨f, h1, h2⟩ := hst.own (k := k + 9) (by omega) (by omega); exact ⟨f, h1, h2.trans Hq.out⟩)) (by omega) sc77 (hk := ?_)
          refine tk_wp (hk := ?_)
          refine tk_wp (hk := ?_)
          refine tk_wp (hk := ?_)
          refine tk_wp (hk := ?_)
          refine tk_nil ?_
          refine rg_store1 (i := 15) (by kernel_rfl) rfl rfl rfl (by kernel_rfl) rfl (by (conv => lhs; whnf) <;> rfl) (by omega) sc77 (by rfl) (by (conv => lhs; simp only [put_lit, put_none, setL]) <;> rfl) (fun w1 hst1 => ?_)
          clear hst
          go_wp2_with fail
          go_roundw
          case rel =>
            refine ⟨k + 1, by omega, by go_num, ?_⟩
            rw [show Sha.grow (Sha.words l 16) (k + 1) = S ++ [Sha.schN S] by rw [HS.out]; rfl, ← wF_snoc (k := k + 16) (by rw [Hlen.out]; omega), ← HN.out]
            exact hst1
          case measure => simp [intOf]; omega
        · obtain rfl : k = 48 := by omega
          go_wp2_with (first
      | ((with_reducible refine at_d 68 ?_); go_loud ((first | (refine wl_loadAll rfl rfl rfl (hs := agg79) (hk := ?_)) | (refine wl_loadN rfl rfl rfl (hs := agg79) (hk := ?_)))))
      | ((with_reducible refine at_n (.store 79 (.tmp 2) (.tmp 68)) ?_); go_loud ((first | (refine wl_storeAll rfl rfl rfl rfl (hs := agg79) (hk := ?_)) | (refine wl_storeN rfl rfl rfl rfl (hs := agg79) (hk := ?_))); clear hst; intro w1 hst)))
          exact ret_cellN rfl rfl (St.hasb hst Pick.head) agg79 rfl ⟨_, rfl, rfl, hst.none⟩
end Go.Proofs.YthbobmpeaemdnaaDoor
