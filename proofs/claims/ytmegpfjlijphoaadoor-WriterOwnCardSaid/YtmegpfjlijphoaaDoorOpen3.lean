/- Slices of headers as arguments, opened. -/
import Derived.Test.YtmegpfjlijphoaaDoorOpen2
import Derived.Test.YtmegpfjlijphoaaDoorW2
namespace Go.Proofs.YtmegpfjlijphoaaDoor
open Go.ChangeShapes Go.WideShapes Go.ChangeAt Go.WideMaps Go.WideElems Go.RowKit Go.Jal

theorem wf_i64 {q : Int} (h : (Lit.int .i64 q).wf = true) : -9223372036854775808 ≤ q ∧ q ≤ 9223372036854775807 := by
  simp [Lit.wf] at h
  have e1 : IntKind.i64.min = -9223372036854775808 := rfl
  have e2 : IntKind.i64.max = 9223372036854775807 := rfl
  first | exact h | (rw [e1] at h; exact h) | (rw [e1, e2] at h; exact h)
theorem wf_u64 {q : Int} (h : (Lit.int .u64 q).wf = true) : ∃ n : Nat, q = n ∧ n < 18446744073709551616 := by
  simp [Lit.wf] at h
  have e1 : IntKind.u64.min = 0 := rfl
  have e2 : IntKind.u64.max = 18446744073709551615 := rfl
  rw [e1, e2] at h
  exact ⟨q.toNat, by omega, by omega⟩
theorem wf_u8 {q : Int} (h : (Lit.int .u8 q).wf = true) : ∃ n : Nat, q = n ∧ n < 256 := by
  simp [Lit.wf] at h
  have e1 : IntKind.u8.min = 0 := rfl
  have e2 : IntKind.u8.max = 255 := rfl
  rw [e1, e2] at h
  exact ⟨q.toNat, by omega, by omega⟩
theorem part_get {cs : List Value} {o m j : Nat} (hj : j < m) : cs[o + j]? = ((cs.drop o).take m)[j]? := by
  rw [List.getElem?_take_of_lt hj, List.getElem?_drop]
section
variable {H : Type} {enc : TypeId × Value → H} {P : Program} {W : World} {base : Nat} {spare : Nat → Bool} {held : Bool} {fuel : Nat} {t e n : Nat} {cs : List Value} {x : DataW H × List MemPlace}
theorem trod_nats (k : IntKind) (m : Nat) (hwf : ∀ q : Int, (Lit.int k q).wf = true → ∃ n : Nat, q = n ∧ n < m) (ht : P.underlying t = some (.array n e)) (he : P.underlying e = some (.int k)) (hce : P.cellsOf e = 1) (h : DataW.trod enc P W base spare held fuel t cs = some x) :
    ∃ l : List Nat, l.length = n ∧ (∀ x ∈ l, x < m) ∧ ∀ j, j < n → cs[j]? = some (.int k (l.getD j 0 : Nat)) := by
  obtain ⟨xs, mm, _, hx, hlen, hn, hel⟩ := DataW.trod_array ht h
  have key : ∀ j, j < n → ∃ a : Nat, a < m ∧ cs[j]? = some (.int k (a : Int)) := fun j hj => by
    have h3 := hel j hj
    rw [hce, Nat.mul_one, List.getElem?_eq_getElem (by omega)] at h3
    obtain ⟨q, e1, _, e3⟩ := DataW.trod_int he h3
    obtain ⟨a, rfl, ha⟩ := hwf q e3
    refine ⟨a, ha, ?_⟩
    have := part_get (cs := cs) (o := j) (m := 1) (j := 0) (by omega)
    rw [e1] at this
    simpa using this
  obtain ⟨f, hf⟩ := Go.Deep.choose_lt key
  refine ⟨(List.range n).map f, by simp, fun x hx => ?_, fun j hj => ?_⟩
  · obtain ⟨j, hj, rfl⟩ := List.mem_map.1 hx
    exact (hf j (List.mem_range.1 hj)).1
  · rw [(hf j hj).2]
    simp [List.getD_eq_getElem?_getD, List.getElem?_map, List.getElem?_range hj]
theorem trod_bytes (ht : P.underlying t = some (.array n e)) (he : P.underlying e = some (.int .u8)) (hce : P.cellsOf e = 1) (h : DataW.trod enc P W base spare held fuel t cs = some x) :
    ∃ l : List Nat, isB n l ∧ ∀ j, j < n → cs[j]? = some (bF l j) := by
  obtain ⟨l, h1, h2, h3⟩ := trod_nats .u8 256 (fun q hq => wf_u8 hq) ht he hce h
  exact ⟨l, ⟨h1, h2⟩, h3⟩
end
section
variable {H : Type} {enc : TypeId × Value → H} {W : World} {base fuel : Nat} {cs : List Value} {x : DataW H × List MemPlace}
theorem flat16 {ts : List (List Nat)} (h : ∀ t ∈ ts, isB 16 t) : ts.flatten.length = 16 * ts.length := by
  induction ts with
  | nil => rfl
  | cons t ts ih =>
    rw [List.flatten_cons, List.length_append, ih (fun t ht => h t (List.mem_cons_of_mem _ ht)), (h t (List.mem_cons_self ..)).1, List.length_cons]
    omega
theorem open_toks (h : DataW.trod enc Tryd.prog W base (fun _ => true) true fuel 32 cs = some x) : ∃ v ts, cs = [v] ∧ Toks W v ts := by
  rcases Go.Deep.open_slice Tryd.underlying32 h with ⟨rfl, _⟩ | ⟨a, len, cap, m, n, D, Pl, rfl, _, hl, hm, hmm, _, hx⟩
  · exact ⟨_, [], rfl, none, 0, rfl, Nat.le_refl _, by simp [maxLen], (by intro t h; cases h), fun _ => rfl, fun h => absurd rfl h⟩
  · simp only [if_true] at hmm
    have hmm' := hmm.symm
    subst hmm'
    have c16 : Tryd.prog.cellsOf 31 = 16 := by kernel_rfl
    have c1 : Tryd.prog.cellsOf 5 = 1 := by kernel_rfl
    rw [c16] at hx
    have key : ∀ i, i < len → ∃ l : List Nat, isB 16 l ∧ ∀ j, j < 16 → W.cell? ((a.add (i * 16)).add j) = some (bF l j) := fun i hi => by
      obtain ⟨cs', h1, h2⟩ := hx i (by omega)
      obtain ⟨l, hl1, hl2⟩ := trod_bytes Tryd.underlying31 Tryd.underlying5 c1 h2
      exact ⟨l, hl1, fun j hj => by rw [(World.cells?_some h1).2.2 j hj, hl2 j hj]⟩
    obtain ⟨f, hf⟩ := Go.Deep.choose_lt key
    have h16 : ∀ t ∈ (List.range len).map f, isB 16 t := fun t ht => by
      obtain ⟨i, hi, rfl⟩ := List.mem_map.1 ht
      exact (hf i (List.mem_range.1 hi)).1
    refine ⟨_, (List.range len).map f, rfl, some a, cap, by simp, by simpa using hl, hm, h16, (by intro e; cases e), fun hne => ?_⟩
    have hl0 : 0 < len := by
      rcases Nat.eq_zero_or_pos len with e | e
      · subst e; simp at hne
      · exact e
    obtain ⟨b, off, N, g, rfl, hH, hN, hg⟩ := has_of_cells (W := W) (a := a) (n := 16 * len) (V := bF ((List.range len).map f).flatten) (by omega) (fun c hc => by
      have hi : c / 16 < len := by omega
      have := (hf (c / 16) hi).2 (c % 16) (by omega)
      rw [Addr.add_add, show c / 16 * 16 + c % 16 = c by omega] at this
      rw [this]
      have hc16 := tok_cells (f := bF ((List.range len).map f).flatten) (off := 0) h16 (k := c / 16) (by simpa using hi) (fun j _ => by rw [Nat.zero_add]) (c % 16) (by omega)
      rw [show 0 + 16 * (c / 16) + c % 16 = c by omega] at hc16
      rw [hc16]
      simp [List.getD_eq_getElem?_getD, List.getElem?_map, List.getElem?_range hi])
    exact ⟨b, off, N, g, rfl, hH, by simp; omega, fun j hj => hg j (by simpa using hj)⟩
theorem open_hdr (h : DataW.trod enc Tryd.prog W base (fun _ => true) true fuel 35 cs = some x) : ∃ G : Hdr, ∃ tok, G.Ok ∧ Toks W tok G.toks ∧ ∀ j, j < 125 → cs[j]? = some (hF G tok j) := by
  obtain ⟨xs, n, _, _, hlen, hxs, hf⟩ := DataW.trod_struct Tryd.underlying35 h
  have hxs' : xs.length = 12 := hxs
  have ci : Tryd.prog.cellsOf 3 = 1 := by kernel_rfl
  have cu : Tryd.prog.cellsOf 27 = 1 := by kernel_rfl
  have cb : Tryd.prog.cellsOf 4 = 1 := by kernel_rfl
  have c8 : Tryd.prog.cellsOf 5 = 1 := by kernel_rfl
  have ch : Tryd.prog.cellsOf 29 = 32 := by kernel_rfl
  have ct : Tryd.prog.cellsOf 31 = 16 := by kernel_rfl
  have cs1 : Tryd.prog.cellsOf 32 = 1 := by kernel_rfl
  have ck : Tryd.prog.cellsOf 33 = 6 := by kernel_rfl
  have f0 : DataW.trod enc Tryd.prog W base (fun _ => true) true n 3 ((cs.drop 0).take (Tryd.prog.cellsOf 3)) = xs[0]? := hf 0 _ rfl
  have f1 : DataW.trod enc Tryd.prog W base (fun _ => true) true n 27 ((cs.drop 1).take (Tryd.prog.cellsOf 27)) = xs[1]? := hf 1 _ rfl
  have f2 : DataW.trod enc Tryd.prog W base (fun _ => true) true n 29 ((cs.drop 2).take (Tryd.prog.cellsOf 29)) = xs[2]? := hf 2 _ rfl
  have f3 : DataW.trod enc Tryd.prog W base (fun _ => true) true n 3 ((cs.drop 34).take (Tryd.prog.cellsOf 3)) = xs[3]? := hf 3 _ rfl
  have f4 : DataW.trod enc Tryd.prog W base (fun _ => true) true n 4 ((cs.drop 35).take (Tryd.prog.cellsOf 4)) = xs[4]? := hf 4 _ rfl
  have f5 : DataW.trod enc Tryd.prog W base (fun _ => true) true n 27 ((cs.drop 36).take (Tryd.prog.cellsOf 27)) = xs[5]? := hf 5 _ rfl
  have f6 : DataW.trod enc Tryd.prog W base (fun _ => true) true n 31 ((cs.drop 37).take (Tryd.prog.cellsOf 31)) = xs[6]? := hf 6 _ rfl
  have f7 : DataW.trod enc Tryd.prog W base (fun _ => true) true n 32 ((cs.drop 53).take (Tryd.prog.cellsOf 32)) = xs[7]? := hf 7 _ rfl
  have f8 : DataW.trod enc Tryd.prog W base (fun _ => true) true n 33 ((cs.drop 54).take (Tryd.prog.cellsOf 33)) = xs[8]? := hf 8 _ rfl
  have f9 : DataW.trod enc Tryd.prog W base (fun _ => true) true n 29 ((cs.drop 60).take (Tryd.prog.cellsOf 29)) = xs[9]? := hf 9 _ rfl
  have f10 : DataW.trod enc Tryd.prog W base (fun _ => true) true n 3 ((cs.drop 92).take (Tryd.prog.cellsOf 3)) = xs[10]? := hf 10 _ rfl
  have f11 : DataW.trod enc Tryd.prog W base (fun _ => true) true n 29 ((cs.drop 93).take (Tryd.prog.cellsOf 29)) = xs[11]? := hf 11 _ rfl
  rw [List.getElem?_eq_getElem (by omega)] at f0 f1 f2 f3 f4 f5 f6 f7 f8 f9 f10 f11
  rw [ci] at f0 f3 f10
  rw [cu] at f1 f5
  rw [ch] at f2 f9 f11
  rw [cb] at f4
  rw [ct] at f6
  rw [cs1] at f7
  rw [ck] at f8
  obtain ⟨wr, a0, _, w0⟩ := DataW.trod_int Tryd.underlying3 f0
  obtain ⟨sq, a1, _, w1⟩ := DataW.trod_int Tryd.underlying27 f1
  obtain ⟨pv, a2, b2⟩ := trod_bytes Tryd.underlying29 Tryd.underlying5 c8 f2
  obtain ⟨ep, a3, _, w3⟩ := DataW.trod_int Tryd.underlying3 f3
  obtain ⟨ctl, a4, _⟩ := DataW.trod_bool Tryd.underlying4 f4
  obtain ⟨tm, a5, _, w5⟩ := DataW.trod_int Tryd.underlying27 f5
  obtain ⟨it, a6, b6⟩ := trod_bytes Tryd.underlying31 Tryd.underlying5 c8 f6
  obtain ⟨tok, ts, a7, b7⟩ := open_toks f7
  obtain ⟨kn, a8, b8, c8'⟩ := trod_nats .u64 18446744073709551616 (fun q hq => wf_u64 hq) Tryd.underlying33 Tryd.underlying27 cu f8
  obtain ⟨sm, a9, b9⟩ := trod_bytes Tryd.underlying29 Tryd.underlying5 c8 f9
  obtain ⟨sz, a10, _, w10⟩ := DataW.trod_int Tryd.underlying3 f10
  obtain ⟨cd, a11, b11⟩ := trod_bytes Tryd.underlying29 Tryd.underlying5 c8 f11
  obtain ⟨sq, rfl, s1⟩ := wf_u64 w1
  obtain ⟨tm, rfl, s5⟩ := wf_u64 w5
  have one : ∀ (o : Nat) (v : Value), (cs.drop o).take 1 = [v] → cs[o]? = some v := fun o v e => by
    have := part_get (cs := cs) (o := o) (m := 1) (j := 0) (by omega)
    rw [e] at this
    simpa using this
  refine ⟨⟨wr, sq, pv, ep, ctl, tm, it, ts, kn, sm, sz, cd⟩, tok, ⟨wf_i64 w0, s1, a2, wf_i64 w3, s5, a6, ?_, ⟨a8, b8⟩, a9, wf_i64 w10, a11⟩, b7, fun j hj => ?_⟩
  · obtain ⟨_, _, _, _, _, k, _⟩ := b7
    exact k
  · by_cases q1 : j < 1
    · obtain rfl : j = 0 := by omega
      exact one _ _ a0
    by_cases q2 : j < 2
    · obtain rfl : j = 1 := by omega
      exact one _ _ a1
    by_cases q3 : j < 34
    · obtain ⟨i, rfl⟩ : ∃ i, j = 2 + i := ⟨j - 2, by omega⟩
      rw [hF_prev _ _ _ (by omega), part_get (m := 32) (by omega)]
      exact b2 i (by omega)
    by_cases q4 : j < 35
    · obtain rfl : j = 34 := by omega
      exact one _ _ a3
    by_cases q5 : j < 36
    · obtain rfl : j = 35 := by omega
      exact one _ _ a4
    by_cases q6 : j < 37
    · obtain rfl : j = 36 := by omega
      exact one _ _ a5
    by_cases q7 : j < 53
    · obtain ⟨i, rfl⟩ : ∃ i, j = 37 + i := ⟨j - 37, by omega⟩
      rw [hF_item _ _ _ (by omega), part_get (m := 16) (by omega)]
      exact b6 i (by omega)
    by_cases q8 : j < 54
    · obtain rfl : j = 53 := by omega
      exact one _ _ a7
    by_cases q9 : j < 60
    · obtain ⟨i, rfl⟩ : ∃ i, j = 54 + i := ⟨j - 54, by omega⟩
      rw [hF_knows _ _ _ (by omega), part_get (m := 6) (by omega)]
      exact c8' i (by omega)
    by_cases q10 : j < 92
    · obtain ⟨i, rfl⟩ : ∃ i, j = 60 + i := ⟨j - 60, by omega⟩
      rw [hF_sum _ _ _ (by omega), part_get (m := 32) (by omega)]
      exact b9 i (by omega)
    by_cases q11 : j < 93
    · obtain rfl : j = 92 := by omega
      exact one _ _ a10
    · obtain ⟨i, rfl⟩ : ∃ i, j = 93 + i := ⟨j - 93, by omega⟩
      rw [hF_code _ _ _ (by omega), part_get (m := 32) (by omega)]
      exact b11 i (by omega)
instance : Inhabited Hdr := ⟨zH⟩
theorem open_hdrs {v : Value} {d : DataW H} {p : List MemPlace} (hval : Value.okWide Tryd.prog W .any base 22 v) (hd : DataW.Trod enc Tryd.prog W 0 (fun _ => true) true 22 v d p) : ∃ hs, Hds W v hs := by
  obtain ⟨a0, len0, cap0, rfl⟩ := okWide_slice Tryd.underlying22 hval
  obtain ⟨fuel, hf⟩ := hd
  rcases Go.Deep.open_slice Tryd.underlying22 hf with ⟨hcs, _⟩ | ⟨a, len, cap, m, n, D, Pl, hcs, _, hl, hm, hmm, _, hx⟩
  · simp [Value.cells] at hcs
    obtain ⟨rfl, rfl, rfl⟩ := hcs
    exact ⟨[], none, 0, rfl, Nat.le_refl _, by simp [maxLen], (by intro t h; cases h), fun _ => rfl, fun h => absurd rfl h⟩
  · simp [Value.cells] at hcs
    obtain ⟨rfl, rfl, rfl⟩ := hcs
    simp only [if_true] at hmm
    have hmm' := hmm.symm
    subst hmm'
    have c125 : Tryd.prog.cellsOf 35 = 125 := by kernel_rfl
    rw [c125] at hx
    have key : ∀ i, i < len0 → ∃ y : Hdr × Value, y.1.Ok ∧ Toks W y.2 y.1.toks ∧ ∀ j, j < 125 → W.cell? ((a.add (i * 125)).add j) = some (hF y.1 y.2 j) := fun i hi => by
      obtain ⟨cs', h1, h2⟩ := hx i (by omega)
      obtain ⟨G, tok, k1, k2, k3⟩ := open_hdr h2
      exact ⟨(G, tok), k1, k2, fun j hj => by rw [(World.cells?_some h1).2.2 j hj, k3 j hj]⟩
    obtain ⟨f, hf⟩ := Go.Deep.choose_lt key
    refine ⟨(List.range len0).map fun i => (f i).1, some a, cap0, by simp, by simpa using hl, hm, fun G hG => ?_, (by intro e; cases e), fun hne => ?_⟩
    · obtain ⟨i, hi, rfl⟩ := List.mem_map.1 hG
      exact (hf i (List.mem_range.1 hi)).1
    have hl0 : 0 < len0 := by
      rcases Nat.eq_zero_or_pos len0 with e | e
      · subst e; simp at hne
      · exact e
    obtain ⟨b, off, N, g, rfl, hH, hN, hg⟩ := has_of_cells (W := W) (a := a) (n := 125 * len0) (V := fun c => hF (f (c / 125)).1 (f (c / 125)).2 (c % 125)) (by omega) (fun c hc => by
      have hi : c / 125 < len0 := by omega
      have := (hf (c / 125) hi).2.2 (c % 125) (by omega)
      rw [Addr.add_add, show c / 125 * 125 + c % 125 = c by omega] at this
      exact this)
    refine ⟨b, off, N, g, rfl, hH, by simp; omega, fun i G hi => ?_⟩
    have hlt : i < len0 := by
      have := (List.getElem?_eq_some_iff.1 hi).1
      simpa using this
    have hG : (f i).1 = G := by
      rw [List.getElem?_map, List.getElem?_range hlt] at hi
      simpa using hi
    subst hG
    refine ⟨(f i).2, (hf i hlt).2.1, fun c hc => ?_⟩
    rw [Nat.add_assoc, hg _ (by omega)]
    show hF (f ((125 * i + c) / 125)).1 (f ((125 * i + c) / 125)).2 ((125 * i + c) % 125) = _
    rw [show (125 * i + c) / 125 = i by omega, show (125 * i + c) % 125 = c by omega]
end
end Go.Proofs.YtmegpfjlijphoaaDoor
