/- SHA-256, HMAC and HKDF as plain functions on numbers and lists of bytes; no Go here. -/
import Derived.Lib.Hide
namespace Go.Jal.Sha

def W : Nat := 4294967296
/-- turned right by n -/
def rotr (n x : Nat) : Nat := x / 2 ^ n + x % 2 ^ n * 2 ^ (32 - n)

theorem rotr_lt {n x : Nat} (hn : n ≤ 32) (hx : x < 4294967296) : rotr n x < 4294967296 := by
  unfold rotr
  have h1 : 2 ^ n * 2 ^ (32 - n) = 4294967296 := by rw [← Nat.pow_add, show n + (32 - n) = 32 by omega]
  have hp : 0 < 2 ^ n := Nat.two_pow_pos n
  have hq : 0 < 2 ^ (32 - n) := Nat.two_pow_pos (32 - n)
  have h2 : x / 2 ^ n < 2 ^ (32 - n) := by rw [Nat.div_lt_iff_lt_mul hp, Nat.mul_comm]; omega
  have h3 : x % 2 ^ n + 1 ≤ 2 ^ n := Nat.mod_lt _ hp
  have h4 := Nat.mul_le_mul_right (2 ^ (32 - n)) h3
  rw [Nat.add_mul, h1] at h4
  omega

theorem rotr_or {n x : Nat} (hn : n ≤ 32) (hx : x < 4294967296) : (x * 2 ^ (32 - n) % 4294967296) ||| (x / 2 ^ n) = rotr n x := by
  unfold rotr
  have h1 : 2 ^ n * 2 ^ (32 - n) = 4294967296 := by rw [← Nat.pow_add, show n + (32 - n) = 32 by omega]
  have hp : 0 < 2 ^ n := Nat.two_pow_pos n
  have h2 : x / 2 ^ n < 2 ^ (32 - n) := by rw [Nat.div_lt_iff_lt_mul hp, Nat.mul_comm]; omega
  have h3 : x * 2 ^ (32 - n) % 4294967296 = x % 2 ^ n * 2 ^ (32 - n) := by rw [← h1, Nat.mul_mod_mul_right]
  rw [h3, Nat.add_comm, ← Nat.shiftLeft_eq, Nat.shiftLeft_add_eq_or_of_lt h2]

theorem rotr_zero (x : Nat) : rotr 0 x = x := by simp [rotr, Nat.mod_one]
/-- One turn more: as 'turn' does it. -/
theorem rotr_succ {n x : Nat} (hn : n < 32) (_hx : x < 4294967296) : rotr (n + 1) x = rotr n x / 2 + rotr n x % 2 * 2147483648 := by
  unfold rotr
  have hc : n = 0 ∨ n = 1 ∨ n = 2 ∨ n = 3 ∨ n = 4 ∨ n = 5 ∨ n = 6 ∨ n = 7 ∨ n = 8 ∨ n = 9 ∨ n = 10 ∨ n = 11 ∨ n = 12 ∨ n = 13 ∨ n = 14 ∨ n = 15 ∨ n = 16 ∨ n = 17 ∨ n = 18 ∨ n = 19 ∨ n = 20 ∨ n = 21 ∨ n = 22 ∨ n = 23 ∨ n = 24 ∨ n = 25 ∨ n = 26 ∨ n = 27 ∨ n = 28 ∨ n = 29 ∨ n = 30 ∨ n = 31 := by omega
  rcases hc with rfl | rfl | rfl | rfl | rfl | rfl | rfl | rfl | rfl | rfl | rfl | rfl | rfl | rfl | rfl | rfl | rfl | rfl | rfl | rfl | rfl | rfl | rfl | rfl | rfl | rfl | rfl | rfl | rfl | rfl | rfl | rfl
  all_goals
    simp only [Nat.reduceAdd, Nat.reducePow, Nat.reduceSub]
    omega

def s0 (x : Nat) : Nat := rotr 7 x ^^^ rotr 18 x ^^^ x / 8
def s1 (x : Nat) : Nat := rotr 17 x ^^^ rotr 19 x ^^^ x / 1024
def e0 (x : Nat) : Nat := rotr 2 x ^^^ rotr 13 x ^^^ rotr 22 x
def e1 (x : Nat) : Nat := rotr 6 x ^^^ rotr 11 x ^^^ rotr 25 x
def ch (e f g : Nat) : Nat := (e &&& f) ^^^ ((4294967295 - e) &&& g)
def maj (a b c : Nat) : Nat := (a &&& b) ^^^ (a &&& c) ^^^ (b &&& c)

/-- the number of some bytes, the greatest first -/
def bigN (l : List Nat) : Nat := l.foldl (fun n x => n * 256 + x) 0
/-- the next word of a schedule -/
def schN (S : List Nat) : Nat :=
  (S.getD (S.length - 16) 0 + s0 (S.getD (S.length - 15) 0) + S.getD (S.length - 7) 0 + s1 (S.getD (S.length - 2) 0)) % 4294967296
/-- the first n words behind the block's 16 -/
def grow (S : List Nat) : Nat → List Nat
  | 0 => S
  | n + 1 => grow S n ++ [schN (grow S n)]
/-- the block's words, the first n of them -/
def words (b : List Nat) (n : Nat) : List Nat := (List.range n).map fun i => bigN ((b.drop (4 * i)).take 4)
def sched (b : List Nat) : List Nat := grow (words b 16) 48

def K : List Nat := [1116352408, 1899447441, 3049323471, 3921009573, 961987163, 1508970993, 2453635748, 2870763221,
  3624381080, 310598401, 607225278, 1426881987, 1925078388, 2162078206, 2614888103, 3248222580,
  3835390401, 4022224774, 264347078, 604807628, 770255983, 1249150122, 1555081692, 1996064986,
  2554220882, 2821834349, 2952996808, 3210313671, 3336571891, 3584528711, 113926993, 338241895,
  666307205, 773529912, 1294757372, 1396182291, 1695183700, 1986661051, 2177026350, 2456956037,
  2730485921, 2820302411, 3259730800, 3345764771, 3516065817, 3600352804, 4094571909, 275423344,
  430227734, 506948616, 659060556, 883997877, 958139571, 1322822218, 1537002063, 1747873779,
  1955562222, 2024104815, 2227730452, 2361852424, 2428436474, 2756734187, 3204031479, 3329325298]

structure S8 where
  a : Nat
  b : Nat
  c : Nat
  d : Nat
  e : Nat
  f : Nat
  g : Nat
  h : Nat

def t1 (s : S8) (k w : Nat) : Nat := (s.h + e1 s.e + ch s.e s.f s.g + k + w) % 4294967296
def t2 (s : S8) : Nat := (e0 s.a + maj s.a s.b s.c) % 4294967296
def round (s : S8) (k w : Nat) : S8 := ⟨(t1 s k w + t2 s) % 4294967296, s.a, s.b, s.c, (s.d + t1 s k w) % 4294967296, s.e, s.f, s.g⟩
def rounds (w : List Nat) (s : S8) : Nat → S8
  | 0 => s
  | n + 1 => round (rounds w s n) (K.getD n 0) (w.getD n 0)
def add8 (s r : S8) : S8 := ⟨(s.a + r.a) % 4294967296, (s.b + r.b) % 4294967296, (s.c + r.c) % 4294967296, (s.d + r.d) % 4294967296, (s.e + r.e) % 4294967296, (s.f + r.f) % 4294967296, (s.g + r.g) % 4294967296, (s.h + r.h) % 4294967296⟩
def block (s : S8) (b : List Nat) : S8 := add8 s (rounds (sched b) s 64)
def init : S8 := ⟨1779033703, 3144134277, 1013904242, 2773480762, 1359893119, 2600822924, 528734635, 1541459225⟩
/-- behind the first k blocks -/
def after (p : List Nat) : Nat → S8
  | 0 => init
  | k + 1 => block (after p k) ((p.drop (64 * k)).take 64)
def big8 (x : Nat) : List Nat := [x / 72057594037927936 % 256, x / 281474976710656 % 256, x / 1099511627776 % 256, x / 4294967296 % 256, x / 16777216 % 256, x / 65536 % 256, x / 256 % 256, x % 256]
def zerosOf (n : Nat) : Nat := (119 - n % 64) % 64
def pad (l : List Nat) : List Nat := l ++ [128] ++ List.replicate (zerosOf l.length) 0 ++ big8 (8 * l.length)
def b4 (x : Nat) : List Nat := [x / 16777216 % 256, x / 65536 % 256, x / 256 % 256, x % 256]
def S8.bytes (s : S8) : List Nat := b4 s.a ++ b4 s.b ++ b4 s.c ++ b4 s.d ++ b4 s.e ++ b4 s.f ++ b4 s.g ++ b4 s.h
def sha (l : List Nat) : List Nat := (after (pad l) ((pad l).length / 64)).bytes

def hkey (key : List Nat) : List Nat := if 64 < key.length then sha key else key
def padKey (x : Nat) (k : List Nat) : List Nat := (List.range 64).map fun i => k.getD i 0 ^^^ x
def hmac (key text : List Nat) : List Nat := sha (padKey 92 (hkey key) ++ sha (padKey 54 (hkey key) ++ text))
/-- what was expanded behind k rounds, and the last code -/
def expB (key info : List Nat) : Nat → List Nat × List Nat
  | 0 => ([], [])
  | k + 1 => let h := hmac key ((expB key info k).2 ++ info ++ [(k + 1) % 256]); ((expB key info k).1 ++ h, h)
def expand (key info : List Nat) (n : Nat) : List Nat := (expB key info ((n + 31) / 32)).1.take n

theorem xor_lt {a b : Nat} (ha : a < 4294967296) (hb : b < 4294967296) : a ^^^ b < 4294967296 := Nat.xor_lt_two_pow (n := 32) ha hb
theorem and_lt {a b : Nat} (hb : b < 4294967296) : a &&& b < 4294967296 := Nat.and_lt_two_pow (n := 32) a hb
theorem div_lt {a : Nat} (n : Nat) (ha : a < 4294967296) : a / n < 4294967296 := Nat.lt_of_le_of_lt (Nat.div_le_self _ _) ha
theorem s0_lt {x : Nat} (hx : x < 4294967296) : s0 x < 4294967296 := xor_lt (xor_lt (rotr_lt (by decide) hx) (rotr_lt (by decide) hx)) (div_lt _ hx)
theorem s1_lt {x : Nat} (hx : x < 4294967296) : s1 x < 4294967296 := xor_lt (xor_lt (rotr_lt (by decide) hx) (rotr_lt (by decide) hx)) (div_lt _ hx)
theorem e0_lt {x : Nat} (hx : x < 4294967296) : e0 x < 4294967296 := xor_lt (xor_lt (rotr_lt (by decide) hx) (rotr_lt (by decide) hx)) (rotr_lt (by decide) hx)
theorem e1_lt {x : Nat} (hx : x < 4294967296) : e1 x < 4294967296 := xor_lt (xor_lt (rotr_lt (by decide) hx) (rotr_lt (by decide) hx)) (rotr_lt (by decide) hx)
theorem ch_lt {e f g : Nat} (hf : f < 4294967296) (hg : g < 4294967296) : ch e f g < 4294967296 := xor_lt (and_lt hf) (and_lt hg)
theorem maj_lt {a b c : Nat} (hb : b < 4294967296) (hc : c < 4294967296) : maj a b c < 4294967296 := xor_lt (xor_lt (and_lt hb) (and_lt hc)) (and_lt hc)
theorem grow_length (S : List Nat) (n : Nat) : (grow S n).length = S.length + n := by
  induction n with
  | zero => rfl
  | succ n ih => simp [grow, ih]; omega
theorem grow_lt {S : List Nat} (h : ∀ x ∈ S, x < 4294967296) (n : Nat) : ∀ x ∈ grow S n, x < 4294967296 := by
  induction n with
  | zero => exact h
  | succ n ih =>
    intro x hx
    rcases List.mem_append.1 hx with hx | hx
    · exact ih x hx
    · have : x = schN (grow S n) := by simpa using hx
      rw [this]; exact Nat.mod_lt _ (by decide)
theorem K_lt : ∀ x ∈ K, x < 4294967296 := by decide
def S8.list (s : S8) : List Nat := [s.a, s.b, s.c, s.d, s.e, s.f, s.g, s.h]
theorem round_lt {s : S8} (h : ∀ x ∈ s.list, x < 4294967296) (k w : Nat) : ∀ x ∈ (round s k w).list, x < 4294967296 := by
  obtain ⟨a, b, c, d, e, f, g, i⟩ := s
  simp only [S8.list, List.mem_cons, List.not_mem_nil, or_false, forall_eq_or_imp, forall_eq] at h ⊢
  obtain ⟨h1, h2, h3, h4, h5, h6, h7, h8⟩ := h
  simp only [round]
  exact ⟨Nat.mod_lt _ (by decide), h1, h2, h3, Nat.mod_lt _ (by decide), h5, h6, h7⟩
theorem rounds_lt {s : S8} (h : ∀ x ∈ s.list, x < 4294967296) (w : List Nat) : ∀ n, ∀ x ∈ (rounds w s n).list, x < 4294967296
  | 0 => h
  | n + 1 => round_lt (rounds_lt h w n) _ _
theorem sha_abc0 : (sha [97, 98, 99]).getD 0 0 = 186 := by decide +kernel
theorem sha_abc31 : (sha [97, 98, 99]).getD 31 0 = 173 := by decide +kernel

end Go.Jal.Sha
