/- Headers of entries, in plain words: what is formed, its bytes, its hash; and how one lies in 125 cells. -/
import Derived.Test.YthbobmpeaemdnaaDoorLibK
import Derived.Test.YthbobmpeaemdnaaDoorSha
namespace Go.Jal

/-- a number's bytes, seven bits each, the least first -/
def num (x : Nat) : List Nat := if h : x < 128 then [x] else (x % 128 + 128) :: num (x / 128)
termination_by x
decreasing_by omega
structure Hdr where
  writer : Int
  seq : Nat
  prev : List Nat
  epoch : Int
  control : Bool
  time : Nat
  item : List Nat
  toks : List (List Nat)
  knows : List Nat
  sum : List Nat
  size : Int
  code : List Nat
/-- n bytes -/
def isB (n : Nat) (l : List Nat) : Prop := l.length = n ∧ ∀ x ∈ l, x < 256
/-- what the types say of a header -/
structure Hdr.Ok (H : Hdr) : Prop where
  writer : -9223372036854775808 ≤ H.writer ∧ H.writer ≤ 9223372036854775807
  seq : H.seq < 18446744073709551616
  prev : isB 32 H.prev
  epoch : -9223372036854775808 ≤ H.epoch ∧ H.epoch ≤ 9223372036854775807
  time : H.time < 18446744073709551616
  item : isB 16 H.item
  toks : ∀ t ∈ H.toks, isB 16 t
  knows : H.knows.length = 6 ∧ ∀ x ∈ H.knows, x < 18446744073709551616
  sum : isB 32 H.sum
  size : -9223372036854775808 ≤ H.size ∧ H.size ≤ 9223372036854775807
  code : isB 32 H.code
def zeros (n : Nat) : List Nat := List.replicate n 0
/-- does one list of bytes stand ahead of another of its length? -/
def lexLt : List Nat → List Nat → Bool
  | a :: l, b :: r => if a = b then lexLt l r else decide (a < b)
  | _, _ => false
def rising : List (List Nat) → Bool
  | a :: b :: r => lexLt a b && rising (b :: r)
  | _ => true
def isBucket (n : Int) : Bool := decide (n = 64 ∨ n = 128 ∨ n = 256 ∨ n = 512 ∨ n = 1024 ∨ n = 2048)
def placed (H : Hdr) : Bool :=
  decide (1 ≤ H.writer) && decide (H.writer ≤ 6) && decide (1 ≤ H.seq) && decide (H.seq ≤ 1048576) && decide (0 ≤ H.epoch) && decide (H.epoch ≤ 255) && decide (H.time ≤ 1099511627776) &&
    decide (H.knows.getD (H.writer.toNat - 1) 0 + 1 = H.seq) && H.knows.all (fun k => decide (k ≤ 1048576)) && (decide (1 < H.seq) || decide (H.prev = zeros 32))
def formed (H : Hdr) : Bool :=
  placed H && decide (H.toks.length ≤ 8) && rising H.toks && isBucket (H.size - 16) && (!H.control || (decide (H.toks = []) && decide (H.item = zeros 16)))
def coreB (H : Hdr) : List Nat :=
  num H.writer.toNat ++ num H.seq ++ H.prev ++ num H.epoch.toNat ++ [if H.control then 1 else 0] ++ num H.time ++ H.item ++ num H.toks.length ++ H.toks.flatten ++ (H.knows.map num).flatten ++ H.sum ++ num H.size.toNat
def bytesB (H : Hdr) : List Nat := if formed H then coreB H ++ H.code else []
def hashB (H : Hdr) : List Nat := Sha.sha (bytesB H)
/-- a header's cells; 'tok' stands where its tokens are -/
def hF (H : Hdr) (tok : Value) : Nat → Value := fun j =>
  cond (Nat.blt j 34) (cond (Nat.blt j 1) (.int .i64 H.writer) (cond (Nat.blt j 2) (.int .u64 (H.seq : Int)) (bF H.prev (j - 2))))
    (cond (Nat.blt j 53) (cond (Nat.blt j 35) (.int .i64 H.epoch) (cond (Nat.blt j 36) (.bool H.control) (cond (Nat.blt j 37) (.int .u64 (H.time : Int)) (bF H.item (j - 37)))))
      (cond (Nat.blt j 54) tok (cond (Nat.blt j 60) (.int .u64 (H.knows.getD (j - 54) 0 : Nat)) (cond (Nat.blt j 92) (bF H.sum (j - 60)) (cond (Nat.blt j 93) (.int .i64 H.size) (bF H.code (j - 93)))))))
theorem blt_t {a b : Nat} (h : a < b) : Nat.blt a b = true := by simp [Nat.blt]; omega
theorem blt_f {a b : Nat} (h : b ≤ a) : Nat.blt a b = false := by
  cases q : Nat.blt a b with
  | false => rfl
  | true => simp [Nat.blt] at q; omega
theorem hF_prev (H : Hdr) (t : Value) : ∀ j, j < 32 → hF H t (2 + j) = bF H.prev j := fun j hj => by
  unfold hF; rw [blt_t (show 2 + j < 34 by omega), blt_f (show 1 ≤ 2 + j by omega), blt_f (show 2 ≤ 2 + j by omega)]; simp only [cond_true, cond_false]; congr 1; omega
theorem hF_item (H : Hdr) (t : Value) : ∀ j, j < 16 → hF H t (37 + j) = bF H.item j := fun j hj => by
  unfold hF; rw [blt_f (show 34 ≤ 37 + j by omega), blt_t (show 37 + j < 53 by omega), blt_f (show 35 ≤ 37 + j by omega), blt_f (show 36 ≤ 37 + j by omega), blt_f (show 37 ≤ 37 + j by omega)]; simp only [cond_true, cond_false]; congr 1; omega
/-- numbers in cells -/
def kF (l : List Nat) : Nat → Value := fun j => .int .u64 (l.getD j 0 : Nat)
theorem hF_knows (H : Hdr) (t : Value) : ∀ j, j < 6 → hF H t (54 + j) = kF H.knows j := fun j hj => by
  unfold hF kF; rw [blt_f (show 34 ≤ 54 + j by omega), blt_f (show 53 ≤ 54 + j by omega), blt_f (show 54 ≤ 54 + j by omega), blt_t (show 54 + j < 60 by omega)]; simp only [cond_true, cond_false]; rw [show 54 + j - 54 = j by omega]
theorem hF_sum (H : Hdr) (t : Value) : ∀ j, j < 32 → hF H t (60 + j) = bF H.sum j := fun j hj => by
  unfold hF; rw [blt_f (show 34 ≤ 60 + j by omega), blt_f (show 53 ≤ 60 + j by omega), blt_f (show 54 ≤ 60 + j by omega), blt_f (show 60 ≤ 60 + j by omega), blt_t (show 60 + j < 92 by omega)]; simp only [cond_true, cond_false]; congr 1; omega
theorem hF_code (H : Hdr) (t : Value) : ∀ j, j < 32 → hF H t (93 + j) = bF H.code j := fun j hj => by
  unfold hF; rw [blt_f (show 34 ≤ 93 + j by omega), blt_f (show 53 ≤ 93 + j by omega), blt_f (show 54 ≤ 93 + j by omega), blt_f (show 60 ≤ 93 + j by omega), blt_f (show 92 ≤ 93 + j by omega), blt_f (show 93 ≤ 93 + j by omega)]; simp only [cond_false]; congr 1; omega
/-- tokens readable -/
def Toks (w : World) (v : Value) (ts : List (List Nat)) : Prop :=
  ∃ ad cap, v = .slice ad ts.length cap ∧ ts.length ≤ cap ∧ cap ≤ maxLen ∧ (∀ t ∈ ts, isB 16 t) ∧ (ad = none → cap = 0) ∧
    (ts ≠ [] → ∃ b off N f, ad = some ⟨b, off, none⟩ ∧ Has w b N f ∧ off + 16 * ts.length ≤ N ∧ ∀ j, j < 16 * ts.length → f (off + j) = bF ts.flatten j)
theorem Toks.keep {w w' : World} {L : List (Nat × Obj)} {v : Value} {ts : List (List Nat)} (h : Toks w v ts) (hst : St w [] L w') : Toks w' v ts := by
  obtain ⟨ad, cap, e, h1, h2, h3, h4, h5⟩ := h
  exact ⟨ad, cap, e, h1, h2, h3, h4, fun hl => let ⟨b, off, N, f, k1, k2, k3, k4⟩ := h5 hl; ⟨b, off, N, f, k1, k2.keep hst, k3, k4⟩⟩
/-- headers readable: the cells, and each one's tokens -/
def Hds (w : World) (v : Value) (hs : List Hdr) : Prop :=
  ∃ ad cap, v = .slice ad hs.length cap ∧ hs.length ≤ cap ∧ cap ≤ maxLen ∧ (∀ H ∈ hs, H.Ok) ∧ (ad = none → cap = 0) ∧
    (hs ≠ [] → ∃ b off N f, ad = some ⟨b, off, none⟩ ∧ Has w b N f ∧ off + 125 * hs.length ≤ N ∧
      ∀ i H, hs[i]? = some H → ∃ tok, Toks w tok H.toks ∧ ∀ c, c < 125 → f (off + 125 * i + c) = hF H tok c)
end Go.Jal
