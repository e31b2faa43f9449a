/- The walk of hash.(*state).mix. -/
import Derived.Test.YthbobmpeaemdnaaDoorHash2
namespace Go.Proofs.YthbobmpeaemdnaaDoor
open Go.RowKit Go.Jal

/-- the state while the sums are made -/
def addF (A B : List Nat) (k : Nat) : Nat → Value := fun j => nW (if j < k then (A.getD j 0 + B.getD j 0) % 4294967296 else A.getD j 0)
theorem addF_zero (A B : List Nat) (T : TypeId) : blk 8 (wF A) T = blk 8 (addF A B 0) T := blk_congr fun j _ => by unfold addF wF; rw [if_neg (by omega)]
theorem addF_end (s r : Sha.S8) (T : TypeId) : blk 8 (addF s.list r.list 8) T = blk 8 (wF (Sha.add8 s r).list) T := blk_congr fun j hj => by
  unfold addF wF; rw [if_pos hj]
  obtain rfl | rfl | rfl | rfl | rfl | rfl | rfl | rfl : j = 0 ∨ j = 1 ∨ j = 2 ∨ j = 3 ∨ j = 4 ∨ j = 5 ∨ j = 6 ∨ j = 7 := by omega
  all_goals rfl
theorem addF_step (A B : List Nat) (k : Nat) (T : TypeId) : blk 8 (upd (addF A B k) k (nW ((A.getD k 0 + B.getD k 0) % 4294967296))) T = blk 8 (addF A B (k + 1)) T := blk_congr fun j _ => by
  unfold upd addF
  by_cases c : j = k
  · subst c; rw [if_pos rfl, if_pos (by omega)]
  · rw [if_neg c]
    by_cases d : j < k
    · rw [if_pos d, if_pos (by omega)]
    · rw [if_neg d, if_neg (by omega)]
theorem blk_lst (l : List Nat) (n : Nat) (T : TypeId) (hn : l.length = n) : blk n (lstF (l.map nW)) T = blk n (wF l) T := by
  subst hn
  refine blk_congr fun j hj => ?_
  unfold lstF wF
  simp only [List.getD_eq_getElem?_getD, List.getElem?_map, List.getElem?_eq_getElem hj]
  rfl

theorem lstF_one {l : List Value} (h : l.all Value.oneCell' = true) (j : Nat) (hj : j < l.length) : (lstF l j).oneCell' = true := by
  unfold lstF
  rw [List.getD_eq_getElem?_getD, List.getElem?_eq_getElem hj]
  exact (List.all_eq_true.1 h) _ (List.getElem_mem hj)

set_option maxRecDepth 100000 in
set_option maxHeartbeats 1000000 in
theorem mix_any (s : Sha.S8) (sb : Nat) (T : TypeId) (l : List Nat) (v : Value) (w : World) (hs : w.heap[sb]? = some (blk 8 (wF s.list) T)) (hsl : ∀ x ∈ s.list, x < 4294967296) (h : Bs w v l) (hl : l.length = 64)
    (hK : Has w 1 64 (wF Sha.K)) :
    Ret Tryd.prog 44 #[.pointer (some ⟨sb, 0, none⟩), v] w fun v' w' => v' = .tuple #[] ∧ St w [sb] [(sb, blk 8 (wF (Sha.block s l).list) T)] w' := by
  have hsb : 1 ∉ [sb] := by
    intro hm
    obtain rfl : 1 = sb := by simpa using hm
    obtain ⟨T', fr, hK⟩ := hK
    rw [hs] at hK
    simp only [Option.some.injEq, blk, Obj.cells.injEq] at hK
    have := congrArg Array.size hK.1
    simp at this
  have hl256 : ∀ x ∈ l, x < 256 := by obtain ⟨_, _, _, _, _, h, _⟩ := h; exact h
  have hWl : (Sha.sched l).length = 64 := by rw [Sha.sched, Sha.grow_length, words_len]
  have hWa : ∀ x ∈ Sha.sched l, x < 4294967296 := Sha.grow_lt (words_lt hl256 16) 48
  obtain ⟨W, hW⟩ : ∃ W, W = Sha.sched l := ⟨_, rfl⟩
  have HSp := spread_any l v w h hl
  rw [← hW] at hWl hWa HSp
  have hv := h
  obtain ⟨ao, cap, rfl, _⟩ := hv
  have HW := Lib.hid hW
  rw [hl] at HSp ⊢
  clear hW
  go_enter Tryd.func44, Tryd.ntmps44
  have hst := St.refl1 hs
  have Hlist := Lib.hid hsl
  have HWl := Lib.hid hWl
  clear hs hsl hWl h hl256
  go_wp2_with (first
      | ((with_reducible refine at_d 13 ?_); go_loud (refine wl_call pl62 rfl rfl rfl HSp ?_; rintro v w1 ⟨rfl, hst1⟩; have hst := (hst.mono (M' := [sb]) (fun _ h => h)); replace hst := hst.call hst1; clear hst1))
      | ((with_reducible refine at_d 4 ?_); go_loud (refine wl_alloc rfl rfl hst zer79 ?_; clear hst; intro b4 w4 hb4 hst))
      | ((with_reducible refine at_n (.store 79 (.tmp 4) (.tmp 13)) ?_); go_loud ((first | (refine wl_storeAll rfl rfl rfl rfl (hs := agg79) (hk := ?_)) | (refine wl_storeN rfl rfl rfl rfl (hs := agg79) (hk := ?_))); clear hst; intro w1 hst))
      | ((with_reducible refine at_d 16 ?_); go_loud ((first | (refine wl_loadAll rfl rfl rfl (hs := agg95) (hk := ?_)) | (refine wl_loadN rfl rfl rfl (hs := agg95) (hk := ?_)))))
      | ((with_reducible refine at_d 5 ?_); go_loud (refine wl_alloc rfl rfl hst zer95 ?_; clear hst; intro b5 w5 hb5 hst))
      | ((with_reducible refine at_n (.store 95 (.tmp 5) (.tmp 16)) ?_); go_loud ((first | (refine wl_storeAll rfl rfl rfl rfl (hs := agg95) (hk := ?_)) | (refine wl_storeN rfl rfl rfl rfl (hs := agg95) (hk := ?_))); clear hst; intro w1 hst)))
  go_loopw [17] (fun i wr => ∃ k : Nat, k ≤ 64 ∧ i = .int .i64 k ∧ St w [sb] [(b5, blk 8 (wF (Sha.rounds W s k).list) 95), (b4, blk 64 (wF W) 79), (sb, blk 8 (wF s.list) T)] wr) (fun i _ => 64 - (intOf i).toNat)
  case atStart => exact ⟨0, by omega, rfl, hst⟩
  case round =>
    clear hst
    obtain ⟨k, hk, rfl, hst⟩ := hrel
    by_cases hkl : k < 64
    · have hlt := Sha.rounds_lt Hlist.out W k
      obtain ⟨r, hr⟩ : ∃ r, r = Sha.rounds W s k := ⟨_, rfl⟩
      rw [← hr] at hst hlt
      obtain ⟨ra, rb, rc, rd, re, rf, rg, rh⟩ := r
      simp only [Sha.S8.list] at hst hlt
      simp only [List.mem_cons, List.not_mem_nil, or_false, forall_eq_or_imp, forall_eq] at hlt
      obtain ⟨ha, hb, hc, hd, he, hf, hg, hh⟩ := hlt
      obtain ⟨x, hx⟩ : ∃ x, x = W.getD k 0 := ⟨_, rfl⟩
      obtain ⟨y, hy⟩ : ∃ y, y = Sha.K.getD k 0 := ⟨_, rfl⟩
      have bx : x < 4294967296 := by rw [hx]; exact getD_lt hWa (by decide) _
      have bY : y < 4294967296 := by rw [hy]; exact getD_lt Sha.K_lt (by decide) _
      have Hx : Hid (wF W k = nW x) := by rw [hx]; rfl
      have Hy : Hid (wF Sha.K k = nW y) := by rw [hy]; rfl
      have HR := Lib.hid hr
      have HX := Lib.hid hx
      have HY := Lib.hid hy
      clear hx hy hr
      have q1 := Sha.rotr_lt (n := 6) (by decide) he
      have q2 := Sha.rotr_lt (n := 11) (by decide) he
      have q3 := Sha.rotr_lt (n := 25) (by decide) he
      have q4 := Sha.rotr_lt (n := 2) (by decide) ha
      have q5 := Sha.rotr_lt (n := 13) (by decide) ha
      have q6 := Sha.rotr_lt (n := 22) (by decide) ha
      have e1 := xorW _ _ q1 q2
      have e2 : bits .xor .u32 ((Sha.rotr 6 re ^^^ Sha.rotr 11 re : Nat) : Int) (Sha.rotr 25 re : Nat) = (Sha.e1 re : Nat) := xorW _ _ (Sha.xor_lt q1 q2) q3
      have e3 := xorW _ _ q4 q5
      have e4 : bits .xor .u32 ((Sha.rotr 2 ra ^^^ Sha.rotr 13 ra : Nat) : Int) (Sha.rotr 22 ra : Nat) = (Sha.e0 ra : Nat) := xorW _ _ (Sha.xor_lt q4 q5) q6
      obtain ⟨ne, hne⟩ : ∃ ne, ne = 4294967295 - re := ⟨_, rfl⟩
      have e5 := notW re he
      rw [← hne] at e5
      have bne : ne < 4294967296 := by omega
      have e6 := (bitsW re rf he hf).1
      have e7 := (bitsW ne rg bne hg).1
      have e8 : bits .xor .u32 ((re &&& rf : Nat) : Int) ((ne &&& rg : Nat) : Int) = (Sha.ch re rf rg : Nat) := by
        rw [xorW _ _ (Sha.and_lt hf) (Sha.and_lt hg), hne]; rfl
      have e9 := (bitsW ra rb ha hb).1
      have e10 := (bitsW ra rc ha hc).1
      have e11 := (bitsW rb rc hb hc).1
      have e12 := xorW _ _ (Sha.and_lt (a := ra) hb) (Sha.and_lt (a := ra) hc)
      have e13 : bits .xor .u32 ((ra &&& rb ^^^ ra &&& rc : Nat) : Int) ((rb &&& rc : Nat) : Int) = (Sha.maj ra rb rc : Nat) := xorW _ _ (Sha.xor_lt (Sha.and_lt hb) (Sha.and_lt hc)) (Sha.and_lt hc)
      have bch := Sha.ch_lt (e := re) hf hg
      have bmj := Sha.maj_lt (a := ra) hb hc
      have b0 := Sha.e0_lt ha
      have b1 := Sha.e1_lt he
      obtain ⟨t, ht⟩ : ∃ t, t = (rh + Sha.e1 re + Sha.ch re rf rg + y + x) % 4294967296 := ⟨_, rfl⟩
      obtain ⟨u, hu⟩ : ∃ u, u = (Sha.e0 ra + Sha.maj ra rb rc) % 4294967296 := ⟨_, rfl⟩
      obtain ⟨na, hna⟩ : ∃ na, na = (t + u) % 4294967296 := ⟨_, rfl⟩
      obtain ⟨nd, hnd⟩ : ∃ nd, nd = (rd + t) % 4294967296 := ⟨_, rfl⟩
      have et : ((rh : Int) + (Sha.e1 re : Nat) + (Sha.ch re rf rg : Nat) + (y : Nat) + (x : Nat)) % 4294967296 = (t : Nat) := by rw [ht]; omega
      have eu : (((Sha.e0 ra : Nat) : Int) + ((Sha.maj ra rb rc : Nat) : Int)) % 4294967296 = (u : Nat) := by rw [hu]; omega
      have ena : ((t : Int) + ((u : Nat) : Int)) % 4294967296 = (na : Nat) := by rw [hna]; omega
      have end' : ((rd : Int) + ((t : Nat) : Int)) % 4294967296 = (nd : Nat) := by rw [hnd]; omega
      have HR2 : Hid (Sha.rounds W s (k + 1) = ⟨na, ra, rb, rc, nd, re, rf, rg⟩) := by
        show _ = _
        rw [Sha.rounds, ← HR.out, ← HX.out, ← HY.out, hna, hnd, ht, hu]; rfl
      clear ht hu hna hnd
      have HNE := Lib.hid hne
      clear hne
      go_wp2_with fail
      refine rg_start (St w [sb] [(b5, blk 8 (wF [ra, rb, rc, rd, re, rf, rg, rh]) 95), (b4, blk 64 (wF W) 79), (sb, blk 8 (wF s.list) T)]) mixed (hst.drew) ?_
      refine rg_take [0, 1, 2, 3, 4, 5, 6, 7, 8, 9, 10, 11] 0 _ rfl (by kernel_rfl) (by kernel_rfl) rfl (cls_st _ _ _) (fun _ _ _ _ _ h => h) ?_
      refine tk_wp (hk := ?_)
      refine tk_load1 rfl rfl (by rfl) rfl (fun w hst => (by first | exact St.hasb hst (by repeat (first | exact Pick.head | apply Pick.tail)) | exact St.hasOld hst (by assumption) (by simp) | assumption)) (show _ = nW re from rfl) (by omega) sc77 (hk := ?_)
      refine tk_call pl63 rfl rfl (by rfl) rfl (fun w hst => rotl_any re 6 w he (by decide) (by decide)) (fun w u w' hR => (by obtain ⟨rfl, rfl⟩ := hR; exact ⟨rfl, Below.refl _ _⟩)) (hk := ?_)
      refine tk_wp (hk := ?_)
      refine tk_load1 rfl rfl (by rfl) rfl (fun w hst => (by first | exact St.hasb hst (by repeat (first | exact Pick.head | apply Pick.tail)) | exact St.hasOld hst (by assumption) (by simp) | assumption)) (show _ = nW re from rfl) (by omega) sc77 (hk := ?_)
      refine tk_call pl63 rfl rfl (by rfl) rfl (fun w hst => rotl_any re 11 w he (by decide) (by decide)) (fun w u w' hR => (by obtain ⟨rfl, rfl⟩ := hR; exact ⟨rfl, Below.refl _ _⟩)) (hk := ?_)
      refine tk_wp (hk := ?_)
      refine tk_wp (hk := ?_)
      refine tk_load1 rfl rfl (by rfl) rfl (fun w hst => (by first | exact St.hasb hst (by repeat (first | exact Pick.head | apply Pick.tail)) | exact St.hasOld hst (by assumption) (by simp) | assumption)) (show _ = nW re from rfl) (by omega) sc77 (hk := ?_)
      refine tk_call pl63 rfl rfl (by rfl) rfl (fun w hst => rotl_any re 25 w he (by decide) (by decide)) (fun w u w' hR => (by obtain ⟨rfl, rfl⟩ := hR; exact ⟨rfl, Below.refl _ _⟩)) (hk := ?_)
      refine tk_wp (hk := ?_)
      refine tk_wp (hk := ?_)
      refine tk_nil ?_
      refine rg_done (by kernel_rfl) (fun w1 hst1 => ?_) _
      clear hst; have hst := hst1; clear hst1
      go_wp2_with fail
      refine rg_start (St w [sb] [(b5, blk 8 (wF [ra, rb, rc, rd, re, rf, rg, rh]) 95), (b4, blk 64 (wF W) 79), (sb, blk 8 (wF s.list) T)]) mixed (hst.drew) ?_
      refine rg_take [0, 1, 2, 3, 4, 5, 6, 7, 8, 9, 10, 11, 12, 13, 14, 15, 16, 17, 18, 19, 20, 21, 22, 23, 24, 25] 0 _ rfl (by kernel_rfl) (by kernel_rfl) rfl (cls_st _ _ _) (fun _ _ _ _ _ h => h) ?_
      refine tk_wp (hk := ?_)
      refine tk_load1 rfl rfl (by rfl) rfl (fun w hst => (by first | exact St.hasb hst (by repeat (first | exact Pick.head | apply Pick.tail)) | exact St.hasOld hst (by assumption) (by simp) | assumption)) (show _ = nW rh from rfl) (by omega) sc77 (hk := ?_)
      refine tk_wp (hk := ?_)
      refine tk_wp (hk := ?_)
      refine tk_wp (hk := ?_)
      refine tk_load1 rfl rfl (by rfl) rfl (fun w hst => (by first | exact St.hasb hst (by repeat (first | exact Pick.head | apply Pick.tail)) | exact St.hasOld hst (by assumption) (by simp) | assumption)) (show _ = nW re from rfl) (by omega) sc77 (hk := ?_)
      refine tk_wp (hk := ?_)
      refine tk_load1 rfl rfl (by rfl) rfl (fun w hst => (by first | exact St.hasb hst (by repeat (first | exact Pick.head | apply Pick.tail)) | exact St.hasOld hst (by assumption) (by simp) | assumption)) (show _ = nW rf from rfl) (by omega) sc77 (hk := ?_)
      refine tk_wp (hk := ?_)
      refine tk_wp (hk := ?_)
      refine tk_load1 rfl rfl (by rfl) rfl (fun w hst => (by first | exact St.hasb hst (by repeat (first | exact Pick.head | apply Pick.tail)) | exact St.hasOld hst (by assumption) (by simp) | assumption)) (show _ = nW re from rfl) (by omega) sc77 (hk := ?_)
      refine tk_wp (hk := ?_)
      refine tk_wp (hk := ?_)
      refine tk_load1 rfl rfl (by rfl) rfl (fun w hst => (by first | exact St.hasb hst (by repeat (first | exact Pick.head | apply Pick.tail)) | exact St.hasOld hst (by assumption) (by simp) | assumption)) (show _ = nW rg from rfl) (by omega) sc77 (hk := ?_)
      refine tk_wp (hk := ?_)
      refine tk_wp (hk := ?_)
      refine tk_wp (hk := ?_)
      refine tk_wp (hk := ?_)
      refine tk_wp (hk := ?_)
      refine tk_load1 rfl rfl (by rfl) rfl (fun w hst => hst.hasOld hK hsb) Hy.out (by omega) sc77 (hk := ?_)
      refine tk_wp (hk := ?_)
      refine tk_wp (hk := ?_)
      refine tk_wp (hk := ?_)
      refine tk_load1 rfl rfl (by rfl) rfl (fun w hst => (by first | exact St.hasb hst (by repeat (first | exact Pick.head | apply Pick.tail)) | exact St.hasOld hst (by assumption) (by simp) | assumption)) Hx.out (by omega) sc77 (hk := ?_)
      refine tk_wp (hk := ?_)
      refine tk_wp (hk := ?_)
      refine tk_nil ?_
      refine rg_done (by kernel_rfl) (fun w1 hst1 => ?_) _
      clear hst; have hst := hst1; clear hst1
      go_wp2_with fail
      refine rg_start (St w [sb] [(b5, blk 8 (wF [ra, rb, rc, rd, re, rf, rg, rh]) 95), (b4, blk 64 (wF W) 79), (sb, blk 8 (wF s.list) T)]) mixed (hst.drew) ?_
      refine rg_take [0, 1, 2, 3, 4, 5, 6, 7, 8, 9, 10, 11] 0 _ rfl (by kernel_rfl) (by kernel_rfl) rfl (cls_st _ _ _) (fun _ _ _ _ _ h => h) ?_
      refine tk_wp (hk := ?_)
      refine tk_load1 rfl rfl (by rfl) rfl (fun w hst => (by first | exact St.hasb hst (by repeat (first | exact Pick.head | apply Pick.tail)) | exact St.hasOld hst (by assumption) (by simp) | assumption)) (show _ = nW ra from rfl) (by omega) sc77 (hk := ?_)
      refine tk_call pl63 rfl rfl (by rfl) rfl (fun w hst => rotl_any ra 2 w ha (by decide) (by decide)) (fun w u w' hR => (by obtain ⟨rfl, rfl⟩ := hR; exact ⟨rfl, Below.refl _ _⟩)) (hk := ?_)
      refine tk_wp (hk := ?_)
      refine tk_load1 rfl rfl (by rfl) rfl (fun w hst => (by first | exact St.hasb hst (by repeat (first | exact Pick.head | apply Pick.tail)) | exact St.hasOld hst (by assumption) (by simp) | assumption)) (show _ = nW ra from rfl) (by omega) sc77 (hk := ?_)
      refine tk_call pl63 rfl rfl (by rfl) rfl (fun w hst => rotl_any ra 13 w ha (by decide) (by decide)) (fun w u w' hR => (by obtain ⟨rfl, rfl⟩ := hR; exact ⟨rfl, Below.refl _ _⟩)) (hk := ?_)
      refine tk_wp (hk := ?_)
      refine tk_wp (hk := ?_)
      refine tk_load1 rfl rfl (by rfl) rfl (fun w hst => (by first | exact St.hasb hst (by repeat (first | exact Pick.head | apply Pick.tail)) | exact St.hasOld hst (by assumption) (by simp) | assumption)) (show _ = nW ra from rfl) (by omega) sc77 (hk := ?_)
      refine tk_call pl63 rfl rfl (by rfl) rfl (fun w hst => rotl_any ra 22 w ha (by decide) (by decide)) (fun w u w' hR => (by obtain ⟨rfl, rfl⟩ := hR; exact ⟨rfl, Below.refl _ _⟩)) (hk := ?_)
      refine tk_wp (hk := ?_)
      refine tk_wp (hk := ?_)
      refine tk_nil ?_
      refine rg_done (by kernel_rfl) (fun w1 hst1 => ?_) _
      clear hst; have hst := hst1; clear hst1
      go_wp2_with (first
      | ((with_reducible refine at_d 69 ?_); go_loud (refine wl_load1v rfl rfl rfl (by first | exact St.hasb hst (by repeat (first | exact Pick.head | apply Pick.tail)) | exact St.hasOld hst (by assumption) (by simp) | assumption) (show _ = nW ra from rfl) (by omega) sc77 (hk := ?_)))
      | ((with_reducible refine at_d 71 ?_); go_loud (refine wl_load1v rfl rfl rfl (by first | exact St.hasb hst (by repeat (first | exact Pick.head | apply Pick.tail)) | exact St.hasOld hst (by assumption) (by simp) | assumption) (show _ = nW rb from rfl) (by omega) sc77 (hk := ?_)))
      | ((with_reducible refine at_d 74 ?_); go_loud (refine wl_load1v rfl rfl rfl (by first | exact St.hasb hst (by repeat (first | exact Pick.head | apply Pick.tail)) | exact St.hasOld hst (by assumption) (by simp) | assumption) (show _ = nW ra from rfl) (by omega) sc77 (hk := ?_)))
      | ((with_reducible refine at_d 76 ?_); go_loud (refine wl_load1v rfl rfl rfl (by first | exact St.hasb hst (by repeat (first | exact Pick.head | apply Pick.tail)) | exact St.hasOld hst (by assumption) (by simp) | assumption) (show _ = nW rc from rfl) (by omega) sc77 (hk := ?_)))
      | ((with_reducible refine at_d 80 ?_); go_loud (refine wl_load1v rfl rfl rfl (by first | exact St.hasb hst (by repeat (first | exact Pick.head | apply Pick.tail)) | exact St.hasOld hst (by assumption) (by simp) | assumption) (show _ = nW rb from rfl) (by omega) sc77 (hk := ?_)))
      | ((with_reducible refine at_d 82 ?_); go_loud (refine wl_load1v rfl rfl rfl (by first | exact St.hasb hst (by repeat (first | exact Pick.head | apply Pick.tail)) | exact St.hasOld hst (by assumption) (by simp) | assumption) (show _ = nW rc from rfl) (by omega) sc77 (hk := ?_)))
      | ((with_reducible refine at_d 90 ?_); go_loud (refine wl_load1v rfl rfl rfl (by first | exact St.hasb hst (by repeat (first | exact Pick.head | apply Pick.tail)) | exact St.hasOld hst (by assumption) (by simp) | assumption) (show _ = nW ra from rfl) (by omega) sc77 (hk := ?_)))
      | ((with_reducible refine at_d 92 ?_); go_loud (refine wl_load1v rfl rfl rfl (by first | exact St.hasb hst (by repeat (first | exact Pick.head | apply Pick.tail)) | exact St.hasOld hst (by assumption) (by simp) | assumption) (show _ = nW rb from rfl) (by omega) sc77 (hk := ?_)))
      | ((with_reducible refine at_d 94 ?_); go_loud (refine wl_load1v rfl rfl rfl (by first | exact St.hasb hst (by repeat (first | exact Pick.head | apply Pick.tail)) | exact St.hasOld hst (by assumption) (by simp) | assumption) (show _ = nW rc from rfl) (by omega) sc77 (hk := ?_)))
      | ((with_reducible refine at_d 96 ?_); go_loud (refine wl_load1v rfl rfl rfl (by first | exact St.hasb hst (by repeat (first | exact Pick.head | apply Pick.tail)) | exact St.hasOld hst (by assumption) (by simp) | assumption) (show _ = nW rd from rfl) (by omega) sc77 (hk := ?_)))
      | ((with_reducible refine at_d 100 ?_); go_loud (refine wl_load1v rfl rfl rfl (by first | exact St.hasb hst (by repeat (first | exact Pick.head | apply Pick.tail)) | exact St.hasOld hst (by assumption) (by simp) | assumption) (show _ = nW re from rfl) (by omega) sc77 (hk := ?_)))
      | ((with_reducible refine at_d 102 ?_); go_loud (refine wl_load1v rfl rfl rfl (by first | exact St.hasb hst (by repeat (first | exact Pick.head | apply Pick.tail)) | exact St.hasOld hst (by assumption) (by simp) | assumption) (show _ = nW rf from rfl) (by omega) sc77 (hk := ?_)))
      | ((with_reducible refine at_d 104 ?_); go_loud (refine wl_load1v rfl rfl rfl (by first | exact St.hasb hst (by repeat (first | exact Pick.head | apply Pick.tail)) | exact St.hasOld hst (by assumption) (by simp) | assumption) (show _ = nW rg from rfl) (by omega) sc77 (hk := ?_)))
      | ((with_reducible refine at_d 105 ?_); go_loud (rw [eu, ena, end']; refine wl_buildA (l := [na, ra, rb, rc, nd, re, rf, rg].map nW) rfl rfl bld95 rfl rfl rfl (hk := ?_)))
      | ((with_reducible refine at_n (.store 95 (.tmp 5) (.tmp 105)) ?_); go_loud ((first | (refine wl_storeAll rfl rfl rfl rfl (hs := agg95) (hk := ?_)) | (refine wl_storeN rfl rfl rfl rfl (hs := agg95) (hk := ?_))); clear hst; intro w1 hst)))
      go_roundw
      case rel =>
        refine ⟨k + 1, by omega, by go_num, ?_⟩
        rw [HR2.out]
        rw [blk_lst _ 8 95 rfl] at hst
        exact hst
      case measure => simp [intOf]; omega
    · obtain rfl : k = 64 := by omega
      rw [show ((64 : Nat) : Int) = 64 from rfl]
      have hB := Sha.rounds_lt Hlist.out W 64
      obtain ⟨r, hr⟩ : ∃ r, r = Sha.rounds W s 64 := ⟨_, rfl⟩
      rw [← hr] at hst hB
      have HR : Hid (Sha.block s l = Sha.add8 s r) := by show _ = _; rw [hr, HW.out]; rfl
      have HB := Lib.hid hB
      clear hr hB hkl hk
      rw [addF_zero s.list r.list T] at hst
      go_wp2_with fail
      go_loopw [107] (fun i wr => ∃ k : Nat, k ≤ 8 ∧ i = .int .i64 k ∧ St w [sb] [(sb, blk 8 (addF s.list r.list k) T), (b5, blk 8 (wF r.list) 95)] wr) (fun i _ => 8 - (intOf i).toNat)
      case atStart => exact ⟨0, by omega, rfl, (hst.front (.tail (.tail .head))).sub (by simp)⟩
      case round =>
        clear hst
        obtain ⟨k, hk, rfl, hst⟩ := hrel
        by_cases hkl : k < 8
        · obtain ⟨x, hx⟩ : ∃ x, x = s.list.getD k 0 := ⟨_, rfl⟩
          obtain ⟨y, hy⟩ : ∃ y, y = r.list.getD k 0 := ⟨_, rfl⟩
          have bx : x < 4294967296 := by rw [hx]; exact getD_lt Hlist.out (by decide) _
          have bY : y < 4294967296 := by rw [hy]; exact getD_lt HB.out (by decide) _
          have Hx : Hid (addF s.list r.list k k = nW x) := by unfold addF; rw [if_neg (by omega), hx]; rfl
          have Hy : Hid (wF r.list k = nW y) := by rw [hy]; rfl
          have HS := addF_step s.list r.list k T
          rw [← hx, ← hy] at HS
          obtain ⟨z, hz⟩ : ∃ z, z = (x + y) % 4294967296 := ⟨_, rfl⟩
          rw [← hz] at HS
          have ez : ((x : Int) + (y : Int)) % 4294967296 = (z : Int) := by rw [hz]; omega
          have HS2 := Lib.hid HS
          clear HS hz hx hy
          go_wp2_with fail
          refine rg_start (St w [sb] [(sb, blk 8 (addF s.list r.list k) T), (b5, blk 8 (wF r.list) 95)]) mixed (hst.drew) ?_
          refine rg_take [0, 1, 2, 3, 4, 5, 6, 7, 8, 9, 10] 1 _ rfl (by kernel_rfl) (by kernel_rfl) rfl (cls_st _ _ _) (fun _ _ _ _ _ h => h) ?_
          refine tk_wp (hk := ?_)
          refine tk_wp (hk := ?_)
          refine tk_wp (hk := ?_)
          refine tk_wp (hk := ?_)
          refine tk_load1 rfl rfl (by rfl) rfl (fun w hst => (by first | exact St.hasb hst (by repeat (first | exact Pick.head | apply Pick.tail)) | exact St.hasOld hst (by assumption) (by simp) | assumption)) Hx.out (by omega) sc77 (hk := ?_)
          refine tk_wp (hk := ?_)
          refine tk_wp (hk := ?_)
          refine tk_load1 rfl rfl (by rfl) rfl (fun w hst => (by first | exact St.hasb hst (by repeat (first | exact Pick.head | apply Pick.tail)) | exact St.hasOld hst (by assumption) (by simp) | assumption)) Hy.out (by omega) sc77 (hk := ?_)
          refine tk_wp (hk := ?_)
          refine tk_wp (hk := ?_)
          refine tk_wp (hk := ?_)
          refine tk_nil ?_
          refine rg_lastStore1 (i := 11) (by kernel_rfl) rfl rfl rfl (by kernel_rfl) (by kernel_rfl) rfl (by (conv => lhs; whnf) <;> rfl) (by repeat (first | exact Pick.head | apply Pick.tail)) (by omega) sc77 (by rfl) (by (conv => lhs; simp only [put_lit, put_none, setL]) <;> rfl) (fun w1 hst1 => ?_)
          clear hst
          go_wp2_with fail
          go_roundw
          case rel =>
            refine ⟨k + 1, by omega, by go_num, ?_⟩
            rw [← HS2.out]
            rw [ez] at hst1
            exact hst1
          case measure => simp [intOf]; omega
        · obtain rfl : k = 8 := by omega
          go_wp2_with fail
          rw [addF_end, ← HR.out] at hst
          exact bodyPost_end (results_none rfl _ _ _) rfl ⟨_, rfl, rfl, hst.sub (by simp)⟩
end Go.Proofs.YthbobmpeaemdnaaDoor
