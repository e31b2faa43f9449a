import Derived.Test.YthbobmpeaemdnaaDoorBase
namespace Go.Proofs.YthbobmpeaemdnaaDoor
open Go.RowKit Go.Jal


theorem rotl_any (x k : Nat) (w : World) (hx1 : x < 4294967296) (hk0 : 0 < k) (hk1 : k < 32) :
    Ret Tryd.prog 63 #[.int .u32 x, .int .i64 (-(k : Int))] w fun v w' => v = nW (Sha.rotr k x) ∧ w = w' := by
  have hk : bits BinOp.and .u64 (IntKind.u64.wrap (-(k : Int))) 31 = 32 - (k : Int) := by
    have h1 : IntKind.u64.wrap (-(k : Int)) = ((18446744073709551616 - k : Nat) : Int) := by rw [IntKind.wrap_u64]; omega
    rw [h1]
    rw [show (31 : Int) = ((31 : Nat) : Int) from rfl, bits_and_u64_nat _ _ (by omega) (by omega)]
    have : (18446744073709551616 - k) &&& 31 = 32 - k := by
      rw [show (31 : Nat) = 2 ^ 5 - 1 from rfl, Nat.and_two_pow_sub_one_eq_mod]; omega
    rw [this]; omega
  have h2 : 0 ≤ 32 - (k : Int) := by omega
  go_enter Tryd.func63, Tryd.ntmps63
  go_wp2
  go_ret
  refine ⟨_, rfl, ?_, rfl⟩
  have e2 : 32 - (32 - k) = k := by omega
  have e3 : (x : Int) * 2 ^ (32 - k) % 4294967296 = ((x * 2 ^ (32 - k) % 4294967296 : Nat) : Int) := by simp
  have e4 : (x : Int) / 2 ^ k = ((x / 2 ^ k : Nat) : Int) := by simp
  show Value.int _ (bits .or .u32 ((x : Int) * 2 ^ (32 - k) % 4294967296) ((x : Int) / 2 ^ (32 - (32 - k)))) = _
  rw [e2, e3, e4, (bitsW _ _ (Nat.mod_lt _ (by decide)) (Nat.lt_of_le_of_lt (Nat.div_le_self _ _) hx1)).2, Sha.rotr_or (by omega) hx1]

set_option maxRecDepth 100000 in
theorem big_any (l : List Nat) (v : Value) (w : World) (h : Bs w v l) (hl : l.length ≤ 7) :
    Ret Tryd.prog 80 #[v] w fun v' w' => v' = nQ (Sha.bigN l) ∧ w = w' := by
  obtain ⟨ao, cap, rfl, hcap, hm, hlt, hnil, hc⟩ := h
  unfold maxLen at hm
  go_enter Tryd.func80, Tryd.ntmps80
  go_wp2
  go_loop [3, 8] (fun n i => ∃ k : Nat, k ≤ l.length ∧ i = .int .i64 k ∧ n = nQ (Sha.bigN (l.take k))) (fun _ i => l.length - (intOf i).toNat)
  case atStart => exact ⟨0, by omega, rfl, rfl⟩
  case round =>
    obtain ⟨k, hk, rfl, rfl⟩ := hrel
    by_cases hkl : k < l.length
    · obtain ⟨b, off, n, f, rfl, hb, hn, hf⟩ := hc (by intro e; subst e; simp at hkl)
      obtain ⟨x, hx⟩ : ∃ x, x = l.getD k 0 := ⟨_, rfl⟩
      have hfk : Hid (f (off + k) = nB x) := by rw [hx]; exact hf k hkl
      have hx1 : x < 256 := by rw [hx]; exact getD_lt hlt (by omega) k
      have hbN := bigN_lt (l.take k) (fun x hx => hlt x (List.mem_of_mem_take hx))
      have hB : Sha.bigN (l.take k) < 281474976710656 := by
        refine Nat.lt_of_lt_of_le hbN ?_
        exact Nat.pow_le_pow_right (show 256 > 0 by decide) (show (l.take k).length ≤ 6 by rw [List.length_take]; omega)
      have HO : Hid (bits .or .u64 ((Sha.bigN (l.take k) : Int) * 256) x = (Sha.bigN (l.take (k + 1)) : Nat)) := by
        show _ = _
        rw [take_snoc l k hkl, bigN_snoc, ← hx, show ((Sha.bigN (l.take k) : Nat) : Int) * 256 = ((Sha.bigN (l.take k) * 256 : Nat) : Int) by simp,
          bits_or_u64 _ _ (by omega) (by omega), show 256 = 2 ^ 8 from rfl, ← Nat.shiftLeft_eq, Nat.shiftLeft_add_eq_or_of_lt (by omega)]
      have HB := Lib.hid hb
      clear hc hf hcap hb hbN hlt hx
      go_wp2_with (refine wl_load1v rfl rfl rfl HB.out hfk.out (by omega) sc5 rfl ?_)
      go_round
      case rel => exact ⟨k + 1, by omega, by go_num, by rw [HO.out]⟩
      case measure => simp [intOf]; omega
    · go_wp2
      go_ret
      refine ⟨_, rfl, ?_, rfl⟩
      have : k = l.length := by omega
      subst this
      simp
end Go.Proofs.YthbobmpeaemdnaaDoor
