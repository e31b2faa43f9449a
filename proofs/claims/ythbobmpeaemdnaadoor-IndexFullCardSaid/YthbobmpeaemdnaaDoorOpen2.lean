/- Laid tables of words: what the condition says of the heap. What a row's opening hands over, in this family's words. Arguments, opened in this family's words; the laid tables for rows that name one table alone. -/
import Derived.Test.YthbobmpeaemdnaaDoorHash6
import Derived.Test.YthbobmpeaemdnaaDoorRows
import Derived.Test.YthbobmpeaemdnaaDoorTie
import Derived.Test.YthbobmpeaemdnaaDoorCards
import Derived.ProofKit
import Derived.LaidMore
import Derived.OpenShut
import Derived.Stop.Joined
import Derived.Deep.Matrix
import Derived.ShutString
import Derived.ChangeOld
import Derived.Below
import Derived.SevenTiedAt
namespace Go.Proofs.YthbobmpeaemdnaaDoor
open Go.ChangeShapes Go.WideShapes Go.ChangeAt Go.WideMaps Go.WideElems Go.RowKit Go.Jal

theorem words_laid {H : Type} {enc : TypeId × Value → H} {P : Program} {W : World} {base : Nat} {spare : Nat → Bool} {held : Bool} {fuel t e n g : Nat} {name : String} {cs : Array Value} {ps : List MemPlace} {l : List Nat}
    (ht : P.underlying t = some (.array n e)) (he : P.underlying e = some (.int .u32)) (hce : P.cellsOf e = 1) (hct : P.cellsOf t = n) (hl : l.length = n)
    (hd : DataW.trod enc P W base spare held fuel t cs.toList = some (.agg (l.map fun (k : Nat) => DataW.lit (.int .u32 (k : Int))), ps)) (hg : P.globalNamed name = some g) (hv : W.var? P name = some cs) : Has W g n (wF l) := by
  obtain ⟨xs, m, _, hx, hlen, hn, hel⟩ := DataW.trod_array ht hd
  simp only [Prod.mk.injEq, DataW.agg.injEq] at hx
  have hh : ∃ T fr, W.heap[g]? = some (.cells cs T fr) := by
    simp only [World.var?, hg, Option.bind_some] at hv
    split at hv
    · rename_i c T fr hb
      cases hv
      exact ⟨T, fr, hb⟩
    · cases hv
  obtain ⟨T, fr, hh⟩ := hh
  refine ⟨T, fr, ?_⟩
  rw [hh]
  congr 2
  rw [hct] at hlen
  apply Array.ext
  · simpa using hlen
  · intro i h1 h2
    have hi : i < n := by simpa using h2
    have h3 := hel i hi
    rw [hce, Nat.mul_one] at h3
    rw [List.getElem?_eq_getElem (by omega)] at h3
    obtain ⟨k, e1, e2, _⟩ := DataW.trod_int he h3
    have e3 := congrArg (fun l => l[i]?) hx.1
    simp only [List.getElem?_map, List.getElem?_eq_getElem (show i < l.length by omega), List.getElem?_eq_getElem (show i < xs.length by omega), Option.map_some, Option.some.injEq] at e3
    have e4 := congrArg (fun l => l[0]?) e1
    simp only [List.getElem?_take_of_lt (show 0 < 1 by decide), List.getElem?_drop, Nat.add_zero, Array.getElem?_toList, Array.getElem?_eq_getElem h1] at e4
    rw [e2] at e3
    simp only [row, wF, List.getElem_toArray, List.getElem_map, List.getElem_range, List.getD_eq_getElem?_getD, List.getElem?_eq_getElem (show i < l.length by omega), Option.getD_some]
    simp at e3 e4
    rw [e4, e3]
theorem own : ownKnob Tryd.prog.godebug = none := by kernel_rfl
theorem gWords : Tryd.prog.globalNamed "jalousie/jalousieref01.words" = some 0 := by kernel_rfl
theorem gRounds : Tryd.prog.globalNamed "jalousie/hash.rounds" = some 1 := by kernel_rfl
theorem tWords : (Tryd.prog.globals[0]?).map (·.type) = some 79 := by kernel_rfl
theorem tRounds : (Tryd.prog.globals[1]?).map (·.type) = some 79 := by kernel_rfl
def laidK : List (String × DataW Unit) := [("jalousie/jalousieref01.words", Rows.laid_jalousie_jalousieref01_words), ("jalousie/hash.rounds", Rows.laid_jalousie_hash_rounds)]
theorem K_words : (Rows.laid_jalousie_jalousieref01_words : DataW Unit) = .agg (Sha.K.map fun (k : Nat) => DataW.lit (.int .u32 (k : Int))) := by kernel_rfl
theorem K_rounds : (Rows.laid_jalousie_hash_rounds : DataW Unit) = .agg (Sha.K.map fun (k : Nat) => DataW.lit (.int .u32 (k : Int))) := by kernel_rfl
theorem of_laid {W : World} (h : laidMetH Tryd.prog laidK W) : Has W 1 64 (wF Sha.K) ∧ Has W 0 64 (wF Sha.K) := by
  rw [MakeChecks.laidMetH_plain _ _ _ (by kernel_rfl)] at h
  obtain ⟨ps, ⟨g0, t0, cs0, f0, p0, q0, hg0, ht0, hv0, hd0, ⟨g1, t1, cs1, f1, p1, q1, hg1, ht1, hv1, hd1, _, _⟩, _⟩, _, _⟩ := h
  obtain rfl := Option.some.inj (gWords.symm.trans hg0)
  obtain rfl := Option.some.inj (gRounds.symm.trans hg1)
  obtain rfl := Option.some.inj (tWords.symm.trans ht0)
  obtain rfl := Option.some.inj (tRounds.symm.trans ht1)
  rw [K_words] at hd0
  rw [K_rounds] at hd1
  exact ⟨words_laid Tryd.underlying79 Tryd.underlying77 (by kernel_rfl) (by kernel_rfl) rfl hd1 hg1 hv1, words_laid Tryd.underlying79 Tryd.underlying77 (by kernel_rfl) (by kernel_rfl) rfl hd0 hg0 hv0⟩
/-- The door's own heap meets the condition. -/
theorem door_met (os : Os) (args : Array Value) : laidMetH Tryd.prog laidK ((World.doorLaid Tryd.prog 4000 os).forCall (fun _ _ => 0) ⟨#[], args, []⟩).memory :=
  laidMetH_of_parts3 (fuel := 8) (laidMet_of_run' 8 (by kernel_rfl) (by kernel_rfl)) (by kernel_rfl) (by kernel_rfl)
end Go.Proofs.YthbobmpeaemdnaaDoor
namespace Go.Proofs.YthbobmpeaemdnaaDoor
open Go.ChangeShapes Go.WideShapes Go.ChangeAt Go.WideMaps Go.WideElems Go.RowKit Go.Jal

theorem cell_spot {W : World} {a : Addr} {v : Value} (h : W.cell? a = some v) : ∃ cs T fr, a = ⟨a.block, a.off, none⟩ ∧ W.heap[a.block]? = some (.cells cs T fr) ∧ cs[a.off]? = some v := by
  obtain ⟨b, off, s⟩ := a
  cases s with
  | none =>
    obtain ⟨cs, T, fr, h1, h2⟩ := heap_of_cell h
    exact ⟨cs, T, fr, rfl, h1, h2⟩
  | some s =>
    unfold World.cell? at h
    cases q : W.heap[b]? with
    | none => simp [q] at h
    | some o => cases o <;> simp [q] at h
/-- consecutive cells as a part of a block -/
theorem has_of_cells {W : World} {a : Addr} {n : Nat} {V : Nat → Value} (hn : 0 < n) (h : ∀ c, c < n → W.cell? (a.add c) = some (V c)) :
    ∃ b off m f, a = ⟨b, off, none⟩ ∧ Has W b m f ∧ off + n ≤ m ∧ ∀ j, j < n → f (off + j) = V j := by
  have h0 := h 0 hn
  obtain ⟨cs, T, fr, e, h1, h2⟩ := cell_spot h0
  obtain ⟨b, off, s⟩ := a
  simp only [Addr.add] at e
  have hs : s = none := by
    cases s with
    | none => rfl
    | some s => simp at e
  subst hs
  have hall : ∀ c, c < n → cs[off + c]? = some (V c) := fun c hc => by
    have := h c hc
    rw [Addr.add_mid, cell_of_row W b (off + c) cs T fr (by simpa [Addr.add] using h1)] at this
    exact this
  have hsz : off + n ≤ cs.size := by
    have := (Array.getElem?_eq_some_iff.1 (hall (n - 1) (by omega))).1
    omega
  refine ⟨b, off, cs.size, fun j => cs.getD j undef, rfl, ⟨T, fr, by rw [row_self]; simpa [Addr.add] using h1⟩, hsz, fun j hj => ?_⟩
  simp only [Array.getD_eq_getD_getElem?, hall j hj, Option.getD_some]
def natsOf (zs : List Int) : List Nat := zs.map Int.toNat
theorem bs_of_cells {W : World} {p : Option Addr} {len cap : Nat} {zs : List Int} (h1 : len ≤ cap) (h2 : cap ≤ maxLen) (hz : zs.length = cap) (hw : ∀ n ∈ zs, (Lit.int .u8 n).wf = true) (hn : p = none → cap = 0)
    (hc : ∀ a', p = some a' → ∀ c, c < cap → W.cell? (a'.add c) = some (.int .u8 (zs.getD c 0))) : Bs W (.slice p len cap) (natsOf (zs.take len)) := by
  have hlen : (natsOf (zs.take len)).length = len := by simp [natsOf]; omega
  have hb : ∀ n ∈ zs, 0 ≤ n ∧ n < 256 := fun n hn => by
    have := hw n hn
    simp [Lit.wf] at this
    have e1 : IntKind.u8.min = 0 := rfl
    have e2 : IntKind.u8.max = 255 := rfl
    rw [e1, e2] at this
    omega
  refine ⟨p, cap, by rw [hlen], by rw [hlen]; exact h1, h2, ?_, hn, fun hl => ?_⟩
  · intro x hx
    obtain ⟨z, hz1, rfl⟩ := List.mem_map.1 hx
    have := hb z (List.mem_of_mem_take hz1)
    omega
  · have hl0 : 0 < len := by rw [← hlen]; exact List.length_pos_iff.2 hl
    cases p with
    | none => have := hn rfl; omega
    | some a =>
      obtain ⟨b, off, m, f, rfl, hH, hm, hf⟩ := has_of_cells (by omega) (hc a rfl)
      refine ⟨b, off, m, f, rfl, hH, by rw [hlen]; omega, fun j hj => ?_⟩
      rw [hlen] at hj
      rw [hf j (by omega)]
      unfold bF natsOf
      have hjz : j < zs.length := by omega
      simp only [List.getD_eq_getElem?_getD, List.getElem?_map, List.getElem?_take_of_lt hj, List.getElem?_eq_getElem hjz, Option.map_some, Option.getD_some]
      have := hb _ (List.getElem_mem hjz)
      congr 1
      omega
theorem bss_of_rows {W : World} {a : Addr} {len cap : Nat} {A : Nat → Option Addr} {L C : Nat → Nat} {Z : Nat → List Int} (h1 : len ≤ cap) (h2 : cap ≤ maxLen)
    (h : ∀ r, r < cap → W.cell? (a.add r) = some (.slice (A r) (L r) (C r)) ∧ L r ≤ C r ∧ C r ≤ maxLen ∧ (Z r).length = C r ∧ (∀ n ∈ Z r, (Lit.int .u8 n).wf = true) ∧ (A r = none → C r = 0) ∧
        ∀ a', A r = some a' → ∀ c, c < C r → W.cell? (a'.add c) = some (.int .u8 ((Z r).getD c 0))) :
    Bss W (.slice (some a) len cap) ((List.range len).map fun r => natsOf ((Z r).take (L r))) := by
  refine ⟨some a, cap, by simp, by simpa using h1, h2, (by intro e; cases e), fun hl => ?_⟩
  have hl0 : 0 < len := by
    rcases Nat.eq_zero_or_pos len with e | e
    · subst e; simp at hl
    · exact e
  obtain ⟨b, off, m, f, rfl, hH, hm, hf⟩ := has_of_cells (n := cap) (V := fun r => .slice (A r) (L r) (C r)) (by omega) (fun c hc => (h c hc).1)
  refine ⟨b, off, m, f, rfl, hH, by simp; omega, fun j hj => ?_⟩
  have hj' : j < len := by simpa using hj
  rw [hf j (by omega)]
  obtain ⟨_, k1, k2, k3, k4, k5, k6⟩ := h j (by omega)
  have := bs_of_cells k1 k2 k3 k4 k5 k6
  simpa [List.getD_eq_getElem?_getD, hj'] using this
end Go.Proofs.YthbobmpeaemdnaaDoor
namespace Go.Proofs.YthbobmpeaemdnaaDoor
open Go.ChangeShapes Go.WideShapes Go.ChangeAt Go.WideMaps Go.WideElems Go.RowKit Go.Jal

theorem laidOut : laidOutB Tryd.prog = true := by kernel_rfl
section
variable {H : Type} {enc : TypeId × Value → H} {P : Program} {W : World} {base : Nat} {t e : TypeId} {v : Value} {d : DataW H} {p : List MemPlace}
theorem open_bytes (ht : P.underlying t = some (.slice e)) (he : P.underlying e = some (.int .u8)) (hc : P.cellsOf e = 1) (hval : Value.okWide P W .any base t v) (hd : DataW.Trod enc P W 0 (fun _ => true) true t v d p) : ∃ l, Bs W v l := by
  obtain ⟨a0, len0, cap0, rfl⟩ := okWide_slice ht hval
  obtain ⟨fuel, hf⟩ := hd
  rcases open_ints ht he hc hf with ⟨hcs, _⟩ | ⟨a, len, cap, zs, hcs, _, hl, hm, hz, _, hcell, hw⟩
  · simp [Value.cells] at hcs
    obtain ⟨rfl, rfl, rfl⟩ := hcs
    exact ⟨[], Bs.nil (by simp [maxLen]) (fun _ => rfl)⟩
  · simp [Value.cells] at hcs
    obtain ⟨rfl, rfl, rfl⟩ := hcs
    have hz' : zs.length = cap0 := by simpa using hz
    exact ⟨_, bs_of_cells hl hm hz' hw (by intro h; cases h) (fun a' e c hc' => by cases e; exact hcell c (by omega))⟩
theorem open_rows {r : TypeId} (ht : P.underlying t = some (.slice r)) (hr : P.underlying r = some (.slice e)) (he : P.underlying e = some (.int .u8)) (hcr : P.cellsOf r = 1) (hc : P.cellsOf e = 1) (hval : Value.okWide P W .any base t v) (hd : DataW.Trod enc P W 0 (fun _ => true) true t v d p) : ∃ ls, Bss W v ls := by
  obtain ⟨a0, len0, cap0, rfl⟩ := okWide_slice ht hval
  obtain ⟨fuel, hf⟩ := hd
  rcases Go.Deep.open_int_rows ht hr he hcr hc hf with ⟨hcs, _⟩ | ⟨a, len, cap, A, L, C, Z, hcs, _, hl, hm, _, hr⟩
  · simp [Value.cells] at hcs
    obtain ⟨rfl, rfl, rfl⟩ := hcs
    exact ⟨[], none, 0, rfl, Nat.le_refl _, by simp [maxLen], fun _ => rfl, fun h => absurd rfl h⟩
  · simp [Value.cells] at hcs
    obtain ⟨rfl, rfl, rfl⟩ := hcs
    exact ⟨_, bss_of_rows hl hm fun r hrc => by
      obtain ⟨h1, h2, h3, h4, h5, h6, h7⟩ := hr r hrc
      exact ⟨h1, h2, h3, h4, h5, h6, fun a' e => (h7 a' e).2⟩⟩
theorem open_arr {n : Nat} {k : IntKind} (ht : P.underlying t = some (.array n e)) (he : P.underlying e = some (.int k)) (hce : P.cellsOf e = 1) (hct : P.cellsOf t = n) (hval : Value.okWide P W .any base t v) (hd : DataW.Trod enc P W 0 (fun _ => true) true t v d p) :
    ∃ f : Nat → Int, v = .agg (row n fun j => .int k (f j)) ∧ ∀ j, j < n → (Lit.int k (f j)).wf = true := by
  simp only [Value.okWide, ht] at hval
  obtain ⟨cs, rfl, hsz, _⟩ := hval
  obtain ⟨fuel, hf⟩ := hd
  obtain ⟨xs, m, _, hx, hlen, hn, hel⟩ := DataW.trod_array ht hf
  have hsz' : cs.size = n := by rw [hsz, hct]
  have hh : ∀ i, i < n → ∃ q : Int, cs[i]? = some (.int k q) ∧ (Lit.int k q).wf = true := fun i hi => by
    have h3 := hel i hi
    rw [hce, Nat.mul_one] at h3
    rw [List.getElem?_eq_getElem (by omega)] at h3
    obtain ⟨q, e1, _, e3⟩ := DataW.trod_int he h3
    refine ⟨q, ?_, e3⟩
    have e4 := congrArg (fun l => l[0]?) e1
    simpa [List.getElem?_take_of_lt, Value.cells] using e4
  refine ⟨fun j => match cs[j]? with | some (.int _ q) => q | _ => 0, ?_, fun j hj => ?_⟩
  · congr 1
    apply Array.ext
    · simp [row, hsz']
    · intro i h1 h2
      obtain ⟨q, e1, _⟩ := hh i (by omega)
      rw [Array.getElem?_eq_getElem h1] at e1
      simp [row, Array.getElem?_eq_getElem h1, Option.some.inj e1]
  · obtain ⟨q, e1, e2⟩ := hh j hj
    simp only [e1]
    exact e2
theorem open_hash {n : Nat} (ht : P.underlying t = some (.array n e)) (he : P.underlying e = some (.int .u8)) (hce : P.cellsOf e = 1) (hct : P.cellsOf t = n) (hval : Value.okWide P W .any base t v) (hd : DataW.Trod enc P W 0 (fun _ => true) true t v d p) :
    ∃ l : List Nat, v = .agg (row n (bF l)) ∧ l.length = n ∧ ∀ x ∈ l, x < 256 := by
  obtain ⟨f, rfl, hf⟩ := open_arr ht he hce hct hval hd
  have hb : ∀ j, j < n → 0 ≤ f j ∧ f j < 256 := fun j hj => by
    have := hf j hj
    simp [Lit.wf] at this
    have e1 : IntKind.u8.min = 0 := rfl
    have e2 : IntKind.u8.max = 255 := rfl
    rw [e1, e2] at this
    omega
  refine ⟨(List.range n).map fun j => (f j).toNat, ?_, by simp, fun x hx => ?_⟩
  · congr 1
    refine row_congr fun j hj => ?_
    unfold bF
    have := hb j hj
    simp only [List.getD_eq_getElem?_getD, List.getElem?_map, List.getElem?_range hj, Option.map_some, Option.getD_some]
    congr 1
    omega
  · obtain ⟨j, hj, rfl⟩ := List.mem_map.1 hx
    have := hb j (List.mem_range.1 hj)
    omega
end
def laidR : List (String × DataW Unit) := [("jalousie/hash.rounds", Rows.laid_jalousie_hash_rounds)]
theorem of_laidR {W : World} (h : laidMetH Tryd.prog laidR W) : Has W 1 64 (wF Sha.K) := by
  rw [MakeChecks.laidMetH_plain _ _ _ (by kernel_rfl)] at h
  obtain ⟨ps, ⟨g1, t1, cs1, f1, p1, q1, hg1, ht1, hv1, hd1, _, _⟩, _, _⟩ := h
  obtain rfl := Option.some.inj (gRounds.symm.trans hg1)
  obtain rfl := Option.some.inj (tRounds.symm.trans ht1)
  rw [K_rounds] at hd1
  exact words_laid Tryd.underlying79 Tryd.underlying77 (by kernel_rfl) (by kernel_rfl) rfl hd1 hg1 hv1
theorem door_metR (os : Os) (args : Array Value) : laidMetH Tryd.prog laidR ((World.doorLaid Tryd.prog 4000 os).forCall (fun _ _ => 0) ⟨#[], args, []⟩).memory :=
  laidMetH_of_parts3 (fuel := 8) (laidMet_of_run' 8 (by kernel_rfl) (by kernel_rfl)) (by kernel_rfl) (by kernel_rfl)
theorem wf_i64 {q : Int} (h : (Lit.int .i64 q).wf = true) : -9223372036854775808 ≤ q ∧ q ≤ 9223372036854775807 := by
  simp [Lit.wf] at h
  have e1 : IntKind.i64.min = -9223372036854775808 := rfl
  have e2 : IntKind.i64.max = 9223372036854775807 := rfl
  first | exact h | (rw [e1] at h; exact h) | (rw [e1, e2] at h; exact h)
theorem wf_u64 {q : Int} (h : (Lit.int .u64 q).wf = true) : ∃ n : Nat, q = n ∧ n < 18446744073709551616 := by
  simp [Lit.wf] at h
  have e1 : IntKind.u64.min = 0 := rfl
  have e2 : IntKind.u64.max = 18446744073709551615 := rfl
  rw [e1, e2] at h
  exact ⟨q.toNat, by omega, by omega⟩
theorem wf_u8 {q : Int} (h : (Lit.int .u8 q).wf = true) : ∃ n : Nat, q = n ∧ n < 256 := by
  simp [Lit.wf] at h
  have e1 : IntKind.u8.min = 0 := rfl
  have e2 : IntKind.u8.max = 255 := rfl
  rw [e1, e2] at h
  exact ⟨q.toNat, by omega, by omega⟩
end Go.Proofs.YthbobmpeaemdnaaDoor
