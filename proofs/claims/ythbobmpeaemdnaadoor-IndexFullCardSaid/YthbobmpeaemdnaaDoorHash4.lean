/- The walks of hash.putBig, appendBig, start, padded. -/
import Derived.Test.YthbobmpeaemdnaaDoorHash3
namespace Go.Proofs.YthbobmpeaemdnaaDoor
open Go.RowKit Go.Jal

/-- the m bytes of a number, the greatest first -/
def bigB (m x : Nat) : List Nat := (List.range m).map fun i => x / 2 ^ (8 * (m - 1 - i)) % 256
theorem bigB_get {m x k : Nat} (h : k < m) : (bigB m x).getD k 0 = x / 2 ^ (8 * (m - 1 - k)) % 256 := by
  simp [bigB, List.getD_eq_getElem?_getD, h]
theorem blit_step (f : Nat → Value) (off k : Nat) (g : Nat → Value) : upd (blit f off k g) (off + k) (g k) = blit f off (k + 1) g := by
  funext j
  unfold upd blit
  by_cases c : j = off + k
  · subst c; rw [if_pos rfl, if_pos ⟨by omega, by omega⟩]; congr 1; omega
  · rw [if_neg c]
    by_cases d : off ≤ j ∧ j < off + k
    · rw [if_pos d, if_pos ⟨by omega, by omega⟩]
    · rw [if_neg d, if_neg (by omega)]
theorem blit_zero (f : Nat → Value) (off : Nat) (g : Nat → Value) : blit f off 0 g = f := by
  funext j; unfold blit; rw [if_neg (by omega)]

set_option maxRecDepth 100000 in
theorem putBig_any (b off n m cap x : Nat) (f : Nat → Value) (T : TypeId) (w : World) (hb : w.heap[b]? = some (blk n f T)) (hn : off + m ≤ n) (hm : m ≤ 8) (_hx : x < 18446744073709551616) :
    Ret Tryd.prog 45 #[.slice (some ⟨b, off, none⟩) m cap, nQ x] w fun v' w' => v' = .tuple #[] ∧ St w [b] [(b, blk n (blit f off m (bF (bigB m x))) T)] w' := by
  go_enter Tryd.func45, Tryd.ntmps45
  have hst := St.refl1 hb
  clear hb
  go_wp2_with fail
  go_loopw [7] (fun i wr => ∃ k : Nat, k ≤ m ∧ i = .int .i64 k ∧ St w [b] [(b, blk n (blit f off k (bF (bigB m x))) T)] wr) (fun i _ => m - (intOf i).toNat)
  case atStart => exact ⟨0, by omega, rfl, by rw [blit_zero]; exact hst⟩
  case round =>
    clear hst
    obtain ⟨k, hk, rfl, hst⟩ := hrel
    by_cases hkl : k < m
    · obtain ⟨q, hq⟩ : ∃ q, q = m - 1 - k := ⟨_, rfl⟩
      obtain ⟨y, hy⟩ : ∃ y, y = x / 2 ^ (8 * q) % 256 := ⟨_, rfl⟩
      have e1 : (m : Int) - 1 - (k : Int) = (q : Int) := by omega
      have HY : Hid (nB y = bF (bigB m x) k) := by
        show _ = _
        unfold bF; rw [bigB_get hkl, ← hq, ← hy]
      have HE := Lib.hid hy
      clear hy
      go_wp2_with (first
      | ((with_reducible refine at_n (.store 5 (.tmp 21) (.tmp 20)) ?_); go_loud (refine wl_store1 rfl rfl rfl (hs := sc5) (hk := ?_); clear hst; intro w1 hst)))
      go_roundw
      case rel =>
        refine ⟨k + 1, by omega, by go_num, ?_⟩
        rw [← blit_step]
        have : Value.int IntKind.u8 ((x : Int) / 2 ^ (8 * (m - 1 - k)) % 256) = bF (bigB m x) k := by
          rw [← HY.out, HE.out, ← hq]; simp
        rw [this] at hst
        exact hst
      case measure => simp [intOf]; omega
    · obtain rfl : k = m := by omega
      go_wp2_with fail
      exact bodyPost_end (results_none rfl _ _ _) rfl ⟨_, rfl, rfl, hst⟩
end Go.Proofs.YthbobmpeaemdnaaDoor
