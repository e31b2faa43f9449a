/- The headers of law20's IndexFull, in plain words. -/
import Derived.Test.YthbobmpeaemdnaaDoorI1
namespace Go.Proofs.YthbobmpeaemdnaaDoor
open Go.RowKit Go.Jal
def zsum : List Nat := Sha.sha (zeros 80)
def fH0 (i : Nat) : Hdr := { zH with writer := 1, seq := i + 1, size := 80 }
/-- header i of a chain of writer 1 -/
def fullH : Nat → Hdr
  | 0 => (((fH0 0).setK 0 0)).setM zsum
  | i + 1 => ((((fH0 (i + 1)).setP (hashB (fullH i))).setK 0 (i + 1))).setM zsum
def fullL (k : Nat) : List Hdr := (List.range k).map fullH
theorem fullL_snoc (k : Nat) : fullL (k + 1) = fullL k ++ [fullH k] := by unfold fullL; rw [List.range_succ, List.map_append]; rfl
theorem fullL_len (k : Nat) : (fullL k).length = k := by simp [fullL]
theorem fullL_get {i k : Nat} (h : i < k) : (fullL k)[i]? = some (fullH i) := by simp [fullL, h]
theorem fullL_tip (k : Nat) : tipOf (fullL (k + 1)) = hashB (fullH k) := by rw [fullL_snoc, tipOf_snoc]
theorem fullH_f (i : Nat) : (fullH i).writer = 1 ∧ (fullH i).seq = i + 1 ∧ (fullH i).epoch = 0 ∧ (fullH i).control = false ∧ (fullH i).time = 0 ∧ (fullH i).item = zeros 16 ∧ (fullH i).toks = [] ∧ (fullH i).knows = [i, 0, 0, 0, 0, 0] ∧ (fullH i).sum = zsum ∧ (fullH i).size = 80 ∧ (fullH i).code = zeros 32 := by
  cases i <;> exact ⟨rfl, rfl, rfl, rfl, rfl, rfl, rfl, rfl, rfl, rfl, rfl⟩
theorem fullH_prev (i : Nat) : (fullH i).prev = tipOf (fullL i) := by
  cases i with
  | zero => rfl
  | succ i => rw [fullL_tip]; rfl
theorem fullH_ok {i : Nat} (hi : i < 1000) : (fullH i).Ok := by
  obtain ⟨h1, h2, h3, h4, h5, h6, h7, h8, h9, h10, h11⟩ := fullH_f i
  have hz : ∀ n, ∀ x ∈ zeros n, x < 256 := fun n x hx => by rw [(List.mem_replicate.1 hx).2]; decide
  have hl : ∀ n, (zeros n).length = n := fun n => by simp [zeros]
  refine ⟨by rw [h1]; decide, by rw [h2]; omega, by rw [fullH_prev]; exact tip_is _, by rw [h3]; decide, by rw [h5]; decide, by rw [h6]; exact ⟨hl 16, hz 16⟩, by rw [h7]; exact fun _ h => absurd h (by simp), ?_, by rw [h9]; exact ⟨sha_len _, sha_lt _⟩, by rw [h10]; decide, by rw [h11]; exact ⟨hl 32, hz 32⟩⟩
  rw [h8]
  refine ⟨rfl, fun x hx => ?_⟩
  simp only [List.mem_cons, List.not_mem_nil, or_false] at hx
  omega
theorem fullH_formed {i : Nat} (hi : i < 1000) : formed (fullH i) = true := by
  obtain ⟨h1, h2, h3, h4, h5, h6, h7, h8, h9, h10, h11⟩ := fullH_f i
  unfold formed placed
  rw [h1, h2, h3, h4, h5, h7, h8, h10]
  have hp : (decide (1 < i + 1) || decide ((fullH i).prev = zeros 32)) = true := by
    cases i with
    | zero => rfl
    | succ i => simp
  rw [hp]
  have h256 : i ≤ 1048576 := by omega
  simp [isBucket, rising, h256]
  omega
theorem full_ask {i : Nat} (hi : i < 1000) : askOf 1 (fullL i) (fullH i) = 0 := by
  obtain ⟨h1, h2, _⟩ := fullH_f i
  unfold askOf
  rw [if_pos ⟨fullH_formed hi, h1⟩, h2]
  have : (fullL i)[i + 1 - 1]? = none := by rw [List.getElem?_eq_none]; rw [fullL_len]; omega
  rw [this]
  simp only
  rw [fullL_len, if_neg (by omega), if_pos (fullH_prev i)]
theorem full_old {i k : Nat} (hi : i < k) (hk : k < 1000) : askOf 1 (fullL k) (fullH i) = 13 := by
  obtain ⟨h1, h2, _⟩ := fullH_f i
  unfold askOf
  rw [if_pos ⟨fullH_formed (by omega), h1⟩, h2, Nat.add_sub_cancel, fullL_get hi]
  simp only
  rw [if_pos trivial]
/-- a first header of writer 2 -/
def qH : Hdr := ({ zH with writer := 2, seq := 1, size := 80 } : Hdr).setM zsum
theorem qH_ok : qH.Ok := by
  have hz : ∀ n, ∀ x ∈ zeros n, x < 256 := fun n x hx => by rw [(List.mem_replicate.1 hx).2]; decide
  have hl : ∀ n, (zeros n).length = n := fun n => by simp [zeros]
  refine ⟨by decide, by decide, ⟨hl 32, hz 32⟩, by decide, by decide, ⟨hl 16, hz 16⟩, fun _ h => absurd h (by simp [qH, Hdr.setM, zH]), ⟨rfl, ?_⟩, ⟨sha_len _, sha_lt _⟩, by decide, ⟨hl 32, hz 32⟩⟩
  intro x hx
  have : x ∈ zeros 6 := hx
  rw [(List.mem_replicate.1 this).2]
  decide
theorem qH_ask : askOf 2 [] qH = 0 := by
  have hf : formed qH = true := by unfold formed placed qH Hdr.setM; decide
  unfold askOf
  rw [if_pos ⟨hf, rfl⟩]
  rfl
theorem whole_full (i : Nat) : wholeB (fullH i) (zeros 80) = true := by
  obtain ⟨_, _, _, _, _, _, _, _, h9, h10, _⟩ := fullH_f i
  unfold wholeB
  rw [h9, h10]
  have : (zeros 80).length = 80 := by simp [zeros]
  simp [this, zsum]
end Go.Proofs.YthbobmpeaemdnaaDoor
