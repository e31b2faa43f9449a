/- A formed header's bytes tell the header. -/
import Derived.Test.YthbobmpeaemdnaaDoorHdr
namespace Go.Jal

theorem num_small {x : Nat} (h : x < 128) : num x = [x] := by rw [num]; simp [h]
theorem num_big {x : Nat} (h : ¬ x < 128) : num x = (x % 128 + 128) :: num (x / 128) := by rw [num]; simp [h]
theorem num_ne (x : Nat) : num x ≠ [] := by
  by_cases h : x < 128
  · rw [num_small h]; simp
  · rw [num_big h]; simp
theorem num_lt (x : Nat) : ∀ y ∈ num x, y < 256 := by
  induction x using Nat.strongRecOn with
  | _ x ih =>
    by_cases h : x < 128
    · rw [num_small h]; intro y hy; simp at hy; omega
    · rw [num_big h]; intro y hy
      rcases List.mem_cons.1 hy with rfl | hy
      · omega
      · exact ih (x / 128) (by omega) y hy
theorem num_len_le (n : Nat) : ∀ x, x < 128 ^ (n + 1) → (num x).length ≤ n + 1 := by
  induction n with
  | zero => intro x h; rw [num_small (by simpa using h)]; simp
  | succ n ih =>
    intro x h
    by_cases c : x < 128
    · rw [num_small c]; simp
    · rw [num_big c, List.length_cons]
      have := ih (x / 128) (by rw [Nat.div_lt_iff_lt_mul (by decide)]; rw [Nat.pow_succ] at h; exact h)
      omega
theorem num_inj : ∀ (x y : Nat) (r s : List Nat), num x ++ r = num y ++ s → x = y ∧ r = s := by
  intro x
  induction x using Nat.strongRecOn with
  | _ x ih =>
    intro y r s h
    by_cases hx : x < 128 <;> by_cases hy : y < 128
    · rw [num_small hx, num_small hy] at h; simpa using h
    · rw [num_small hx, num_big hy] at h; simp at h; omega
    · rw [num_big hx, num_small hy] at h; simp at h; omega
    · rw [num_big hx, num_big hy] at h
      simp only [List.cons_append, List.cons.injEq] at h
      obtain ⟨h1, h2⟩ := ih (x / 128) (by omega) _ _ _ h.2
      exact ⟨by omega, h2⟩
theorem fix_inj {a b r s : List Nat} (hl : a.length = b.length) (h : a ++ r = b ++ s) : a = b ∧ r = s := List.append_inj h hl
theorem nums_inj : ∀ (a b r s : List Nat), a.length = b.length → (a.map num).flatten ++ r = (b.map num).flatten ++ s → a = b ∧ r = s
  | [], [], _, _, _, h => ⟨rfl, by simpa using h⟩
  | x :: a, y :: b, r, s, hl, h => by
    simp only [List.map_cons, List.flatten_cons, List.append_assoc] at h
    obtain ⟨h1, h2⟩ := num_inj _ _ _ _ h
    obtain ⟨h3, h4⟩ := nums_inj a b r s (by simpa using hl) h2
    exact ⟨by rw [h1, h3], h4⟩
theorem toks_flat_len {ts : List (List Nat)} (h : ∀ t ∈ ts, isB 16 t) : ts.flatten.length = 16 * ts.length := by
  induction ts with
  | nil => rfl
  | cons t ts ih =>
    rw [List.flatten_cons, List.length_append, ih (fun t ht => h t (List.mem_cons_of_mem _ ht)), (h t (List.mem_cons_self ..)).1, List.length_cons]; omega
theorem toks_inj : ∀ (a b : List (List Nat)) (r s : List Nat), (∀ t ∈ a, isB 16 t) → (∀ t ∈ b, isB 16 t) → a.length = b.length → a.flatten ++ r = b.flatten ++ s → a = b ∧ r = s
  | [], [], _, _, _, _, _, h => ⟨rfl, by simpa using h⟩
  | x :: a, y :: b, r, s, ha, hb, hl, h => by
    simp only [List.flatten_cons, List.append_assoc] at h
    obtain ⟨h1, h2⟩ := fix_inj (by rw [(ha x (List.mem_cons_self ..)).1, (hb y (List.mem_cons_self ..)).1]) h
    obtain ⟨h3, h4⟩ := toks_inj a b r s (fun t ht => ha t (List.mem_cons_of_mem _ ht)) (fun t ht => hb t (List.mem_cons_of_mem _ ht)) (by simpa using hl) h2
    exact ⟨by rw [h1, h3], h4⟩
theorem formed_nat {H : Hdr} (h : formed H = true) : 1 ≤ H.writer ∧ H.writer ≤ 6 ∧ 0 ≤ H.epoch ∧ H.epoch ≤ 255 ∧ 80 ≤ H.size ∧ H.size ≤ 2064 ∧ H.toks.length ≤ 8 ∧ 1 ≤ H.seq ∧ H.seq ≤ 1048576 ∧ H.time ≤ 1099511627776 ∧ (∀ k ∈ H.knows, k ≤ 1048576) := by
  simp only [formed, placed, isBucket, Bool.and_eq_true, decide_eq_true_eq, List.all_eq_true] at h
  obtain ⟨⟨⟨⟨⟨⟨⟨⟨⟨⟨⟨⟨⟨h1, h2⟩, h3⟩, h4⟩, h5⟩, h6⟩, h7⟩, _⟩, h9⟩, _⟩, h11⟩, _⟩, h13⟩, _⟩ := h
  exact ⟨h1, h2, h5, h6, by omega, by omega, h11, h3, h4, h7, h9⟩
theorem bytes_inj {H G : Hdr} (hH : H.Ok) (hG : G.Ok) (fH : formed H = true) (fG : formed G = true) (h : bytesB H = bytesB G) : H = G := by
  have nH := formed_nat fH
  have nG := formed_nat fG
  rw [bytesB, bytesB, if_pos fH, if_pos fG] at h
  simp only [coreB, List.append_assoc] at h
  obtain ⟨e1, h⟩ := num_inj _ _ _ _ h
  obtain ⟨e2, h⟩ := num_inj _ _ _ _ h
  obtain ⟨e3, h⟩ := fix_inj (by rw [hH.prev.1, hG.prev.1]) h
  obtain ⟨e4, h⟩ := num_inj _ _ _ _ h
  obtain ⟨e5, h⟩ := fix_inj (by rfl) h
  obtain ⟨e6, h⟩ := num_inj _ _ _ _ h
  obtain ⟨e7, h⟩ := fix_inj (by rw [hH.item.1, hG.item.1]) h
  obtain ⟨e8, h⟩ := num_inj _ _ _ _ h
  obtain ⟨e9, h⟩ := toks_inj _ _ _ _ hH.toks hG.toks e8 h
  obtain ⟨e10, h⟩ := nums_inj _ _ _ _ (by rw [hH.knows.1, hG.knows.1]) h
  obtain ⟨e11, h⟩ := fix_inj (by rw [hH.sum.1, hG.sum.1]) h
  obtain ⟨e12, e13⟩ := num_inj _ _ _ _ h
  have w : H.writer = G.writer := by omega
  have p : H.epoch = G.epoch := by omega
  have z : H.size = G.size := by omega
  have c : H.control = G.control := by
    cases hc : H.control <;> cases gc : G.control <;> simp [hc, gc] at e5 <;> rfl
  obtain ⟨a1, a2, a3, a4, a5, a6, a7, a8, a9, a10, a11, a12⟩ := H
  obtain ⟨b1, b2, b3, b4, b5, b6, b7, b8, b9, b10, b11, b12⟩ := G
  simp only at w e2 e3 p c e6 e7 e9 e10 e11 z e13
  subst w e2 e3 p c e6 e7 e9 e10 e11 z e13
  rfl
end Go.Jal
