/- The walks of hash.appendBig, start, padded. -/
import Derived.Test.YthbobmpeaemdnaaDoorHash4
import Derived.Test.YthbobmpeaemdnaaDoorLibG
namespace Go.Proofs.YthbobmpeaemdnaaDoor
open Go.RowKit Go.Jal

theorem big8_get {x k : Nat} (h : k < 8) : (Sha.big8 x).getD k 0 = x / 2 ^ (56 - 8 * k) % 256 := by
  obtain rfl | rfl | rfl | rfl | rfl | rfl | rfl | rfl : k = 0 ∨ k = 1 ∨ k = 2 ∨ k = 3 ∨ k = 4 ∨ k = 5 ∨ k = 6 ∨ k = 7 := by omega
  all_goals simp [Sha.big8]

set_option maxRecDepth 100000 in
theorem appendBig_any (v : Value) (l : List Nat) (E : List (Nat × Obj)) (x : Nat) (w : World) (hown : Own 1 5 v l.length (bF l) E) (hE : ∀ p ∈ E, w.heap[p.1]? = some p.2) (hn : l.length + 8 ≤ 140737488355328) (_hx : x < 18446744073709551616) :
    Ret Tryd.prog 60 #[v, nQ x] w fun v' w' => ∃ E', Own 1 5 v' (l ++ Sha.big8 x).length (bF (l ++ Sha.big8 x)) E' ∧ St w (E.map Prod.fst) E' w' := by
  go_enter Tryd.func60, Tryd.ntmps60
  have hst := St.reflE hE hown.nodup
  clear hE
  go_wp2_with fail
  go_loopw [0, 5] (fun v' i wr => ∃ k : Nat, k ≤ 8 ∧ i = .int .i64 (56 - 8 * (k : Int)) ∧ ∃ E', Own 1 5 v' (l ++ (Sha.big8 x).take k).length (bF (l ++ (Sha.big8 x).take k)) E' ∧ St w (E.map Prod.fst) E' wr) (fun _ i _ => (intOf i + 8).toNat)
  case atStart => exact ⟨0, by omega, rfl, E, by simpa using hown, hst⟩
  case round =>
    clear hst
    obtain ⟨k, hk, rfl, E1, hown1, hst⟩ := hrel
    by_cases hkl : k < 8
    · have hy := big8_get (x := x) hkl
      have hlen : (l ++ (Sha.big8 x).take k).length = l.length + k := by simp [Sha.big8]; omega
      have HT : Hid ((Sha.big8 x).take (k + 1) = (Sha.big8 x).take k ++ [(Sha.big8 x).getD k 0]) := take_snoc _ _ (by simpa [Sha.big8] using hkl)
      obtain ⟨q, hq⟩ : ∃ q, q = 56 - 8 * k := ⟨_, rfl⟩
      have eq1 : (56 : Int) - 8 * (k : Int) = (q : Int) := by omega
      rw [eq1]
      obtain ⟨y, hy2⟩ : ∃ y, y = (Sha.big8 x).getD k 0 := ⟨_, rfl⟩
      rw [← hy2] at HT hy
      rw [← hq] at hy
      have ey : (x : Int) / 2 ^ q % 256 = (y : Int) := by rw [hy]; simp
      have HY := Lib.hid hy
      have HQ := Lib.hid hq
      have bq : q ≤ 56 := by omega
      clear hy hy2 hq
      go_wp2_with (first
      | ((with_reducible refine at_d 15 ?_); go_loud (refine wl_buildSlice1 rfl rfl elt35 (by decide) (by (conv => lhs; whnf) <;> rfl) (by first | exact row_one _ | rfl) hst ?_; clear hst; intro b15 w15 hb15 hst))
      | ((with_reducible refine at_d 16 ?_); go_loud (rw [ey] at hst; refine wl_append rfl rfl elt35 rfl rfl hown1 (hst.perm (List.perm_append_comm (l₁ := [_]))) (.inr ⟨_, 0, _, _, rfl, hst.hasb Pick.head, Nat.le_refl _, fun _ _ => rfl⟩) (by intro h; cases h) (by intro j _; rfl) (by omega) (by unfold maxLen; omega) ?_; intro v2 w2 E2 hown2 hst2 _; clear hst)))
      go_wp2_with fail
      go_roundw
      case rel =>
        refine ⟨k + 1, by omega, by have := HQ.out; go_num, E2, ?_, hst2.sub (List.sublist_append_left _ _)⟩
        rw [HT.out, ← List.append_assoc, List.length_append]
        exact hown2.congr fun j hj => glue_one rfl (by simpa using hj)
      case measure => simp [intOf]; omega
    · obtain rfl : k = 8 := by omega
      go_wp2_with fail
      go_ret
      exact ⟨_, rfl, E1, by simpa [Sha.big8] using hown1, hst⟩

set_option maxRecDepth 100000 in
theorem clone_any (v : Value) (l : List Nat) (w : World) (h : Bs w v l) (hn : l.length ≤ 140737488355328) :
    Ret Tryd.prog 30 #[v] w fun v' w' => ∃ E', Own 1 5 v' l.length (bF l) E' ∧ St w [] E' w' := by
  obtain ⟨ad, c, rfl, hc, _, _, hnil, _⟩ := id h
  cases ad with
  | none =>
    obtain rfl := hnil rfl
    obtain rfl : l = [] := List.length_eq_zero_iff.1 (by omega)
    go_enter Tryd.func30, Tryd.ntmps30
    have hst := St.refl w
    go_wp2_with (first
      | ((with_reducible refine at_d 4 ?_); go_loud (refine wl_eqnil rfl rfl Tryd.underlying35 rfl ?_)))
    go_ret
    exact ⟨_, rfl, [], Own.nil, hst⟩
  | some ad =>
    go_enter Tryd.func30, Tryd.ntmps30
    have hst := St.refl w
    go_wp2_with (first
      | ((with_reducible refine at_d 4 ?_); go_loud (refine wl_eqnil rfl rfl Tryd.underlying35 rfl ?_))
      | ((with_reducible refine at_d 5 ?_); go_loud (refine wl_buildSlice0 rfl rfl elt35 hst ?_; intro b5 w5 hb5 hst1; clear hst; have hst := hst1; clear hst1))
      | ((with_reducible refine at_d 7 ?_); go_loud (refine wl_append rfl rfl elt35 rfl rfl (n := 0) (g := bF []) (E := [(b5, blk (0 * 1) (fun _ => nB 0) 5)]) (.inr ⟨_, 0, _, rfl, Nat.le_refl _, by simp [maxLen], rfl, by simp⟩) hst (Src.of_bs (h.keep hst)) (by intro h; cases h) (by intro j _; rfl) (by omega) (by unfold maxLen; omega) ?_; intro v2 w2 E2 hown2 hst2 _; clear hst)))
    go_ret
    refine ⟨_, rfl, E2, ?_, by simpa using hst2⟩
    rw [Nat.zero_add] at hown2
    exact hown2.congr fun j _ => by simp [glue]

set_option maxRecDepth 100000 in
theorem padded_any (v : Value) (l : List Nat) (w : World) (h : Bs w v l) (hn : l.length ≤ 1000000000000) :
    Ret Tryd.prog 42 #[v] w fun v' w' => ∃ E', Own 1 5 v' (Sha.pad l).length (bF (Sha.pad l)) E' ∧ St w [] E' w' := by
  obtain ⟨ad, c, rfl, _⟩ := id h
  go_enter Tryd.func42, Tryd.ntmps42
  have hst := St.refl w
  go_wp2_with (first
      | ((with_reducible refine at_d 5 ?_); go_loud (refine wl_call pl30 rfl rfl rfl (clone_any _ l _ h (by omega)) ?_; intro v5 w5 hR5; obtain ⟨E5, hown5, hst5⟩ := hR5; replace hst := hst.call hst5; clear hst5))
      | ((with_reducible refine at_d 6 ?_); go_loud (refine wl_buildSlice1 rfl rfl elt35 (by decide) (by (conv => lhs; whnf) <;> rfl) (by first | exact row_one _ | rfl) hst ?_; clear hst; intro b6 w6 hb6 hst))
      | ((with_reducible refine at_d 7 ?_); go_loud (refine wl_append rfl rfl elt35 rfl rfl hown5 (L := [(b6, blk 1 (fun _ => nB 128) 5)]) (hst.perm (by rw [List.append_nil]; exact List.perm_append_comm (l₁ := [_]))) (.inr ⟨_, 0, _, _, rfl, hst.hasb Pick.head, Nat.le_refl _, fun _ _ => rfl⟩) (by intro h; cases h) (by intro j _; rfl) (by omega) (by unfold maxLen; omega) ?_; intro v2 w2 E2 hown2 hst2 _; clear hst)))
  have hown0 : Own 1 5 v2 (l ++ [128] ++ List.replicate 0 0).length (bF (l ++ [128] ++ List.replicate 0 0)) E2 := by
    rw [List.replicate_zero, List.append_nil, List.length_append]
    exact hown2.congr fun j hj => glue_one rfl (by simpa using hj)
  replace hst := hst2.sub (List.sublist_append_left _ _)
  clear hst2 hown2 hown5
  go_loopw [3] (fun v3 wr => ∃ k E', k ≤ Sha.zerosOf l.length ∧ Own 1 5 v3 (l ++ [128] ++ List.replicate k 0).length (bF (l ++ [128] ++ List.replicate k 0)) E' ∧ St w [] E' wr) (fun v3 _ => l.length + 65 - vlen v3)
  case atStart => exact ⟨0, E2, by omega, hown0, hst⟩
  case round =>
    clear hst hown0
    obtain ⟨k, E3, hk, hown, hst⟩ := hrel
    obtain ⟨n, hn2⟩ : ∃ n, n = (l ++ [128] ++ List.replicate k 0).length := ⟨_, rfl⟩
    have hn3 : n = l.length + 1 + k := by rw [hn2]; simp; omega
    have hz := hk
    unfold Sha.zerosOf at hz
    rw [← hn2] at hown
    obtain ⟨ad3, c3, rfl, hc3, hm3, hnil3⟩ := hown.slice
    by_cases hkl : k < Sha.zerosOf l.length
    · have hne : ¬ ((n : Int) % 64 = 56) := by unfold Sha.zerosOf at hkl; omega
      have HN := Lib.hid hn2
      have HN3 := Lib.hid hn3
      have hb : n ≤ 1000000000100 := by omega
      clear hn2 hn3 hz
      go_wp2_with (first
      | ((with_reducible refine at_d 13 ?_); go_loud (refine wl_buildSlice1 rfl rfl elt35 (by decide) (by (conv => lhs; whnf) <;> rfl) (by first | exact row_one _ | rfl) hst ?_; clear hst; intro b13 w13 hb13 hst))
      | ((with_reducible refine at_d 14 ?_); go_loud (refine wl_append rfl rfl elt35 rfl rfl hown (L := [(b13, blk 1 (fun _ => nB 0) 5)]) (hst.perm (List.perm_append_comm (l₁ := [_]))) (.inr ⟨_, 0, _, _, rfl, hst.hasb Pick.head, Nat.le_refl _, fun _ _ => rfl⟩) (by intro h; cases h) (by intro j _; rfl) (by omega) (by unfold maxLen; omega) ?_; intro v2 w2 E4 hown2 hst2 _; clear hst)))
      go_roundw
      case rel =>
        refine ⟨k + 1, E4, hkl, ?_, hst2.sub (List.sublist_append_left _ _)⟩
        rw [List.replicate_succ', ← List.append_assoc, List.length_append, ← HN.out]
        exact hown2.congr fun j hj => glue_one HN.out.symm (by simpa using hj)
      case measure =>
        obtain ⟨ad5, c5, rfl, _⟩ := hown2.slice
        simp only [vlen]
        have := HN3.out
        unfold Sha.zerosOf at hkl
        omega
    · have hne : (n : Int) % 64 = 56 := by unfold Sha.zerosOf at hkl; omega
      obtain rfl : k = Sha.zerosOf l.length := by omega
      have hown' : Own 1 5 (.slice ad3 n c3) (l ++ [128] ++ List.replicate (Sha.zerosOf l.length) 0).length (bF (l ++ [128] ++ List.replicate (Sha.zerosOf l.length) 0)) E3 := by rw [← hn2]; exact hown
      have HX : Hid (8 * l.length < 18446744073709551616) := by show _ < _; omega
      have HN := Lib.hid hn2
      have e8 : (8 * (l.length : Int)) % 18446744073709551616 = ((8 * l.length : Nat) : Int) := by omega
      have hb : n ≤ 1000000000100 := by omega
      clear hn2 hn3 hz
      go_wp2_with (first
      | ((with_reducible refine at_d 20 ?_); go_loud (refine wl_call pl60 rfl rfl rfl (appendBig_any _ (l ++ [128] ++ List.replicate (Sha.zerosOf l.length) 0) E3 (8 * l.length) _ hown' hst.own (by rw [← HN.out]; omega) HX.out) ?_; intro v20 w20 hR; obtain ⟨E6, hown6, hst6⟩ := hR)))
      go_ret
      exact ⟨_, rfl, E6, hown6, by simpa using (St.callE (E := E3) (L := []) (by simpa using hst) hst6)⟩
end Go.Proofs.YthbobmpeaemdnaaDoor
