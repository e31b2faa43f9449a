/- How Go's data read: slices of bytes, words; small facts for walks. -/
import Derived.Test.YthbobmpeaemdnaaDoorLibB
import Derived.Test.YthbobmpeaemdnaaDoorSha
namespace Go.Jal
open Go

/-- The number of a byte as a cell. -/
abbrev nB (n : Nat) : Value := .int .u8 (n : Int)
abbrev nW (n : Nat) : Value := .int .u32 (n : Int)
abbrev nQ (n : Nat) : Value := .int .u64 (n : Int)
abbrev nI (n : Nat) : Value := .int .i64 (n : Int)
/-- cells of bytes, of words -/
def bF (l : List Nat) : Nat → Value := fun j => .int .u8 ((l.getD j 0 : Nat) : Int)
def wF (l : List Nat) : Nat → Value := fun j => .int .u32 ((l.getD j 0 : Nat) : Int)

theorem oneC_b (l : List Nat) (j : Nat) : (bF l j).oneCell' = true := rfl
theorem oneC_w (l : List Nat) (j : Nat) : (wF l j).oneCell' = true := rfl
theorem oneC : True := trivial
/-- v is a slice that reads as the bytes l. -/
def Bs (w : World) (v : Value) (l : List Nat) : Prop :=
  ∃ ao cap, v = .slice ao l.length cap ∧ l.length ≤ cap ∧ cap ≤ maxLen ∧ (∀ x ∈ l, x < 256) ∧ (ao = none → cap = 0) ∧
    (l ≠ [] → ∃ b off n f, ao = some ⟨b, off, none⟩ ∧ Has w b n f ∧ off + l.length ≤ n ∧ ∀ j, j < l.length → f (off + j) = bF l j)

theorem getD_lt {l : List Nat} {B : Nat} (h : ∀ x ∈ l, x < B) (hB : 0 < B) (j : Nat) : l.getD j 0 < B := by
  rw [List.getD_eq_getElem?_getD]
  cases hj : l[j]? with
  | none => simpa using hB
  | some x => exact h x (List.mem_of_getElem? hj)

theorem bits_or_u64 (a b : Nat) (ha : a < 18446744073709551616) (hb : b < 18446744073709551616) : bits .or .u64 a b = ((a ||| b : Nat) : Int) := bits_or_u64_nat a b ha hb
theorem bitsW (a b : Nat) (ha : a < 4294967296) (hb : b < 4294967296) :
    bits .and .u32 a b = ((a &&& b : Nat) : Int) ∧ bits .or .u32 a b = ((a ||| b : Nat) : Int) :=
  bits_nat .u32 32 (Nat.le_refl _) (fun n h0 h1 => by rw [IntKind.wrap_u32]; omega) a b ha hb
theorem xorW (a b : Nat) (ha : a < 4294967296) (hb : b < 4294967296) : bits .xor .u32 a b = ((a ^^^ b : Nat) : Int) := by
  have hx : a ^^^ b < 2 ^ 32 := Nat.xor_lt_two_pow ha hb
  have ha' : a % 2 ^ IntKind.u32.bits = a := Nat.mod_eq_of_lt ha
  have hb' : b % 2 ^ IntKind.u32.bits = b := Nat.mod_eq_of_lt hb
  simp only [bits, BitVec.ofInt_natCast, BitVec.toNat_xor, BitVec.toNat_ofNat, ha', hb', IntKind.wrap_u32]
  omega

theorem notW (e : Nat) (he : e < 4294967296) : bits .xor .u32 IntKind.u32.max (e : Int) = ((4294967295 - e : Nat) : Int) := by
  rw [show IntKind.u32.max = (4294967295 : Int) from rfl]
  have h := xorW 4294967295 e (by decide) he
  rw [show ((4294967295 : Nat) : Int) = 4294967295 from rfl] at h
  rw [h]
  congr 1
  have h1 := congrArg BitVec.toNat (BitVec.xor_allOnes (x := BitVec.ofNat 32 e))
  simp only [BitVec.toNat_xor, BitVec.toNat_not, BitVec.toNat_ofNat, BitVec.toNat_allOnes, Nat.mod_eq_of_lt he] at h1
  rw [Nat.xor_comm]
  exact h1
theorem bigN_snoc (l : List Nat) (x : Nat) : Sha.bigN (l ++ [x]) = Sha.bigN l * 256 + x := by simp [Sha.bigN]
theorem foldl_lt : ∀ (l : List Nat) (n : Nat), (∀ x ∈ l, x < 256) → l.foldl (fun n x => n * 256 + x) n < (n + 1) * 256 ^ l.length
  | [], n, _ => by simp
  | x :: l, n, h => by
    have h1 := foldl_lt l (n * 256 + x) (fun y hy => h y (by simp [hy]))
    have h2 := h x (by simp)
    simp only [List.foldl_cons, List.length_cons, Nat.pow_succ]
    refine Nat.lt_of_lt_of_le h1 ?_
    have h3 : n * 256 + x + 1 ≤ (n + 1) * 256 := by omega
    have := Nat.mul_le_mul_right (256 ^ l.length) h3
    rw [Nat.mul_assoc, Nat.mul_comm 256] at this
    exact this
theorem bigN_lt (l : List Nat) (h : ∀ x ∈ l, x < 256) : Sha.bigN l < 256 ^ l.length := by
  have := foldl_lt l 0 h
  simpa [Sha.bigN] using this
theorem take_snoc (l : List Nat) (k : Nat) (h : k < l.length) : l.take (k + 1) = l.take k ++ [l.getD k 0] := by
  rw [List.take_succ_eq_append_getElem h, List.getD_eq_getElem?_getD, List.getElem?_eq_getElem h]; rfl
theorem words_len (b : List Nat) (n : Nat) : (Sha.words b n).length = n := by simp [Sha.words]
theorem words_snoc (b : List Nat) (n : Nat) : Sha.words b (n + 1) = Sha.words b n ++ [Sha.bigN ((b.drop (4 * n)).take 4)] := by
  simp [Sha.words, List.range_succ]
theorem words_lt {b : List Nat} (h : ∀ x ∈ b, x < 256) (n : Nat) : ∀ x ∈ Sha.words b n, x < 4294967296 := by
  intro x hx
  obtain ⟨i, _, rfl⟩ := List.mem_map.1 hx
  exact Nat.lt_of_lt_of_le (bigN_lt _ (fun x hx => h x (List.mem_of_mem_drop (List.mem_of_mem_take hx)))) (Nat.pow_le_pow_right (show 256 > 0 by decide) (show _ ≤ 4 by rw [List.length_take]; omega))
/-- a slice of a slice -/
theorem Bs.sub {w : World} {l : List Nat} {b off n : Nat} {f : Nat → Value} {i j cap : Nat} (hb : Has w b n f) (hn : off + l.length ≤ n) (hf : ∀ j, j < l.length → f (off + j) = bF l j) (hlt : ∀ x ∈ l, x < 256)
    (hij : i ≤ j) (hj : j ≤ l.length) (hcap : j - i ≤ cap) (hm : cap ≤ maxLen) : Bs w (.slice (some ⟨b, off + i, none⟩) (j - i) cap) ((l.drop i).take (j - i)) := by
  have hlen : ((l.drop i).take (j - i)).length = j - i := by simp; omega
  refine ⟨_, cap, by rw [hlen], by rw [hlen]; exact hcap, hm, fun x hx => hlt x (List.mem_of_mem_drop (List.mem_of_mem_take hx)), (by intro h; cases h), fun _ => ⟨b, off + i, n, f, rfl, hb, by rw [hlen]; omega, ?_⟩⟩
  intro k hk
  rw [hlen] at hk
  rw [Nat.add_assoc, hf (i + k) (by omega)]
  simp only [bF, List.getD_eq_getElem?_getD]
  rw [List.getElem?_take_of_lt hk, List.getElem?_drop]
theorem getD_snoc_lt {α : Type} {S : List α} {x d : α} {j : Nat} (h : j < S.length) : (S ++ [x]).getD j d = S.getD j d := by
  simp [List.getD_eq_getElem?_getD, List.getElem?_append, h]
theorem getD_snoc_eq {α : Type} {S : List α} {x d : α} : (S ++ [x]).getD S.length d = x := by simp
theorem getD_ge {α : Type} {S : List α} {d : α} {j : Nat} (h : S.length ≤ j) : S.getD j d = d := by
  simp [List.getD_eq_getElem?_getD, List.getElem?_eq_none h]
theorem snocF {c : Nat → Value} {S : List Nat} {k x : Nat} (h : S.length = k) : upd (fun j => c (S.getD j 0)) k (c x) = fun j => c ((S ++ [x]).getD j 0) := by
  subst h
  funext j
  unfold upd
  by_cases e : j = S.length
  · subst e; rw [if_pos rfl, getD_snoc_eq]
  · rw [if_neg e]
    show c (S.getD j 0) = c ((S ++ [x]).getD j 0)
    by_cases d : j < S.length
    · rw [getD_snoc_lt d]
    · rw [getD_ge (by omega), getD_ge (by rw [List.length_append, List.length_singleton]; omega)]
theorem wF_snoc {S : List Nat} {k x : Nat} (h : S.length = k) : upd (wF S) k (nW x) = wF (S ++ [x]) := snocF (c := fun x => .int .u32 ((x : Nat) : Int)) h
theorem bF_snoc {S : List Nat} {k x : Nat} (h : S.length = k) : upd (bF S) k (nB x) = bF (S ++ [x]) := snocF (c := fun x => .int .u8 ((x : Nat) : Int)) h
theorem wF_nil : (fun _ => Value.int IntKind.u32 0) = wF [] := by funext j; simp [wF]
theorem bF_nil : (fun _ => Value.int IntKind.u8 0) = bF [] := by funext j; simp [bF]
end Go.Jal
