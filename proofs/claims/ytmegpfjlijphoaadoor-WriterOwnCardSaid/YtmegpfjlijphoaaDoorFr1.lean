/- The walk of writer.Chain.From. -/
import Derived.Test.YtmegpfjlijphoaaDoorPl1
namespace Go.Jal
open Go.RowKit
section
variable {P : Program} {ops : Array Oper} {Q : Exit → Act → World → Prop} {rest : List Oper} {o : Oper} {a a' : Act} {w : World}
theorem wl_max {ts : Array TypeId} {x y : Operand} {k k' : IntKind} {p q r : Int} (hr : (if q > p then q else p) = r) (ho : o.op = .call { callee := .builtin .max, args := #[x, y], argTypes := ts }) (hw : Region.wanted o (yielded ops a.tmps) = true)
    (hx : a.eval x = .int k p) (hy : a.eval y = .int k' q) (ha : a.put o.dst (.int k r) = a' := by (conv => lhs; simp only [Go.Jal.put_lit, Go.Jal.put_none, Go.Jal.setL]) <;> rfl) (hk : wpList P ops Q rest a' w) : wpList P ops Q (o :: rest) a w := by
  subst hr
  refine BigFrame.wpList_want hw fun K hK => ?_
  have hq := run_max_int2 (P := P) (w := w) ts o.type k k' p q
  unfold Oper.wp execOp
  simp only [ho, resolve, invoke, builtin, Sem.run_bind, Sem.run_pure, Result.andThen_ok, List.map_toArray, List.map_cons, List.map_nil, hx, hy, hq]
  exact hK _ _ (ha ▸ hk)
theorem wl_min {ts : Array TypeId} {x y : Operand} {k k' : IntKind} {p q r : Int} (hr : (if q < p then q else p) = r) (ho : o.op = .call { callee := .builtin .min, args := #[x, y], argTypes := ts }) (hw : Region.wanted o (yielded ops a.tmps) = true)
    (hx : a.eval x = .int k p) (hy : a.eval y = .int k' q) (ha : a.put o.dst (.int k r) = a' := by (conv => lhs; simp only [Go.Jal.put_lit, Go.Jal.put_none, Go.Jal.setL]) <;> rfl) (hk : wpList P ops Q rest a' w) : wpList P ops Q (o :: rest) a w := by
  subst hr
  refine BigFrame.wpList_want hw fun K hK => ?_
  have hq := run_min_int2 (P := P) (w := w) ts o.type k k' p q
  unfold Oper.wp execOp
  simp only [ho, resolve, invoke, builtin, Sem.run_bind, Sem.run_pure, Result.andThen_ok, List.map_toArray, List.map_cons, List.map_nil, hx, hy, hq]
  exact hK _ _ (ha ▸ hk)
end
theorem pmC {α : Type} (x : α) (A B C : List α) : (x :: (A ++ (B ++ C))).Perm (B ++ (x :: (A ++ C))) := by
  have e1 : x :: (A ++ (B ++ C)) = (x :: A) ++ (B ++ C) := by simp
  have e2 : B ++ (x :: (A ++ C)) = B ++ ((x :: A) ++ C) := by simp
  rw [e1, e2, ← List.append_assoc, ← List.append_assoc]
  exact List.perm_append_comm.append_right _
theorem pmD {α : Type} (x : α) (A B C : List α) : (B ++ (x :: (A ++ C))).Perm (x :: (B ++ (A ++ C))) := List.perm_middle
/-- the headers from number s on, at most k of them -/
def fromL (hs : List Hdr) (s k : Nat) : List Hdr := (hs.drop (s - 1)).take k
theorem fromL_len (hs : List Hdr) {s k : Nat} (h : k + (s - 1) ≤ hs.length) : (fromL hs s k).length = k := by
  unfold fromL; rw [List.length_take, List.length_drop]; omega
theorem fromL_get (hs : List Hdr) {s k i : Nat} (h : i < k) : (fromL hs s k)[i]? = hs[s - 1 + i]? := by
  unfold fromL; rw [List.getElem?_take_of_lt h, List.getElem?_drop]
theorem fromL_snoc {hs : List Hdr} {s k : Nat} {H : Hdr} (h : hs[s - 1 + k]? = some H) : fromL hs s (k + 1) = fromL hs s k ++ [H] := by
  unfold fromL; rw [List.take_add_one, List.getElem?_drop, h]; rfl
/-- how many there are -/
def fromN (hs : List Hdr) (s : Nat) (most : Int) : Nat := min (hs.length + 1 - s) most.toNat
end Go.Jal
namespace Go.Proofs.YtmegpfjlijphoaaDoor
open Go.RowKit Go.Jal
/-- headers of the caller's own: an array of one's own, the tokens one's own -/
def GotO (v : Value) (gs : List Hdr) (E : List (Nat × Obj)) : Prop :=
  ∃ g EH ET, E = EH ++ ET ∧ Own 125 35 v gs.length g EH ∧ ∀ i H, gs[i]? = some H → H.Ok ∧ HdIn ET g i H
theorem GotO.nil : GotO (.slice none 0 0) [] [] := ⟨fun _ => nB 0, [], [], rfl, Own.nil, by intro i H h; simp at h⟩
theorem GotO.slice {v : Value} {gs : List Hdr} {E : List (Nat × Obj)} (h : GotO v gs E) : ∃ ad c, v = .slice ad gs.length c ∧ gs.length ≤ c ∧ c ≤ maxLen := by
  obtain ⟨g, EH, ET, _, hown, _⟩ := h
  obtain ⟨ad, c, e, h1, h2, _⟩ := hown.slice
  exact ⟨ad, c, e, h1, h2⟩
theorem GotO.hds {v : Value} {gs : List Hdr} {E : List (Nat × Obj)} {w : World} (h : GotO v gs E) (hE : ∀ p ∈ E, w.heap[p.1]? = some p.2) : Hds w v gs := by
  obtain ⟨g, EH, ET, rfl, hown, hel⟩ := h
  rcases hown with ⟨rfl, hz, rfl⟩ | ⟨b, cap, f, rfl, hc, hm, rfl, hf⟩
  · have : gs = [] := List.length_eq_zero_iff.1 hz
    subst this
    exact ⟨none, 0, rfl, Nat.le_refl _, by simp [maxLen], (by intro H h; cases h), fun _ => rfl, fun h => absurd rfl h⟩
  · refine ⟨_, cap, rfl, hc, hm, fun H hH => ?_, (by intro e; cases e), fun _ => ⟨b, 0, cap * 125, f, rfl, ⟨_, _, hE (b, blk (cap * 125) f 35) (by simp)⟩, by omega, fun i H hi => ?_⟩⟩
    · obtain ⟨i, hi⟩ := List.getElem?_of_mem hH
      exact (hel i H hi).1
    · obtain ⟨hok, tok, Et, hc1, hto, hsub⟩ := hel i H hi
      have hlt : i < gs.length := (List.getElem?_eq_some_iff.1 hi).1
      refine ⟨tok, toks_ownp hto hok.toks (fun p hp => hE p (by simp [hsub p hp])), fun c hc' => ?_⟩
      rw [show 0 + 125 * i + c = 125 * i + c by omega, hf _ (by omega), hc1 c hc']
theorem GotO.snoc {gs : List Hdr} {H : Hdr} {v t : Value} {g : Nat → Value} {EH ET Et : List (Nat × Obj)} (hown : Own 125 35 v (gs.length + 1) (glue (gs.length * 125) g (hF H t)) EH)
    (hel : ∀ i H, gs[i]? = some H → H.Ok ∧ HdIn ET g i H) (hok : H.Ok) (ht : Own 16 31 t H.toks.length (bF H.toks.flatten) Et) : GotO v (gs ++ [H]) (EH ++ (Et ++ ET)) := by
  refine ⟨_, EH, Et ++ ET, rfl, by rw [List.length_append]; exact hown, fun i G hi => ?_⟩
  by_cases c : i < gs.length
  · rw [List.getElem?_append_left c] at hi
    obtain ⟨k1, tok, E1, k3, k4, k5⟩ := hel i G hi
    exact ⟨k1, tok, E1, fun j hj => by rw [← k3 j hj]; unfold glue; rw [if_pos (by omega)], k4, fun p hp => List.mem_append_right _ (k5 p hp)⟩
  · have hi2 : i < (gs ++ [H]).length := (List.getElem?_eq_some_iff.1 hi).1
    obtain rfl : i = gs.length := by simp at hi2; omega
    obtain rfl : H = G := by simpa using hi
    exact ⟨hok, t, Et, fun j hj => by unfold glue; rw [if_neg (by omega)]; congr 1; omega, ht, fun p hp => List.mem_append_left _ hp⟩
theorem GotO.get {ad : Option Addr} {n c : Nat} {gs : List Hdr} {E : List (Nat × Obj)} (h : GotO (.slice ad n c) gs E) {m : Nat} {G : Hdr} (hm : gs[m]? = some G) :
    ∃ b N f tok, ad = some ⟨b, 0, none⟩ ∧ (b, blk N f 35) ∈ E ∧ 125 * gs.length ≤ N ∧ m < gs.length ∧ G.Ok ∧ (∀ w : World, (∀ p ∈ E, w.heap[p.1]? = some p.2) → Toks w tok G.toks) ∧ ∀ j, j < 125 → f (0 + 125 * m + j) = hF G tok j := by
  obtain ⟨g, EH, ET, rfl, hown, hel⟩ := h
  have hlt : m < gs.length := (List.getElem?_eq_some_iff.1 hm).1
  rcases hown with ⟨_, hz, _⟩ | ⟨b, cap, f, e, hc, _, rfl, hf⟩
  · omega
  · simp only [Value.slice.injEq] at e
    obtain ⟨rfl, rfl, rfl⟩ := e
    obtain ⟨gok, tok, Et, hc1, hto, hsub⟩ := hel m G hm
    exact ⟨b, c * 125, f, tok, rfl, by simp, by omega, hlt, gok, fun w hE => toks_ownp hto gok.toks (fun p hp => hE p (by simp [hsub p hp])), fun j hj => by rw [show 0 + 125 * m + j = 125 * m + j by omega, hf _ (by omega), hc1 j hj]⟩
set_option maxRecDepth 100000 in
set_option maxHeartbeats 4000000 in
theorem from_any (bc : Nat) (wtr : Int) (hs : List Hdr) (s0 s : Nat) (most : Int) (w : World) (h : ChainR w bc wtr hs) (hs0 : s = max s0 1) (hs64 : s0 < 18446744073709551616) :
    Ret Tryd.prog 22 #[.pointer (some ⟨bc, 0, none⟩), .int .u64 (s0 : Int), .int .i64 most] w fun v' w' => ∃ E', GotO v' (fromL hs s (fromN hs s most)) E' ∧ St w [] E' w' := by
  have HC : Hid (∀ w', St w [] [] w' → ChainR w' bc wtr hs) := by show ∀ _, _; exact fun w' h' => h.keep h'
  obtain ⟨hv, hB, hH, hl, hfm, _⟩ := h
  obtain ⟨ad, cap, rfl, hcap, hcm, _⟩ := id hH
  have hs1 : 1 ≤ s := by omega
  have hs2 : s < 18446744073709551616 := by omega
  have HMX : Hid ((if (1 : Int) > (s0 : Int) then (1 : Int) else (s0 : Int)) = (s : Int)) := by
    show _ = _
    rw [hs0]
    split <;> omega
  have HFM := Lib.hid hfm
  clear hs0 hfm
  go_enter Tryd.func22, Tryd.ntmps22
  have hst := St.refl w
  go_wp2_with (first
      | ((with_reducible refine at_d 10 ?_); go_loud (refine wl_max HMX.out rfl rfl rfl rfl (hk := ?_))))
  go_loopw [7, 8] (fun v7 n wq => ∃ (k : Nat) (E : List (Nat × Obj)), (k + (s - 1) ≤ hs.length ∨ k = 0) ∧ ((k : Int) ≤ most ∨ k = 0) ∧ n = .int .u64 ((s : Int) + (k : Int)) ∧ GotO v7 (fromL hs s k) E ∧ St w [] E wq) (fun _ n _ => (hs.length + 1 - (intOf n).toNat))
  case atStart => exact ⟨0, [], .inr rfl, .inr rfl, by simp, GotO.nil, hst⟩
  case round =>
    clear hst
    obtain ⟨k, E, hk, hkm, rfl, hgot, hst⟩ := hrel
    by_cases hin : s + k ≤ hs.length ∧ (k : Int) < most
    · obtain ⟨hin1, hin2⟩ := hin
      have hlen : (fromL hs s k).length = k := fromL_len hs (by omega)
      obtain ⟨g, EH, ET, rfl, hown, hel⟩ := hgot
      rw [hlen] at hown
      have hown0 := hown
      obtain ⟨ad7, c7, rfl, hc7, hm7, _⟩ := hown0.slice
      obtain ⟨y, hy⟩ : ∃ y, y = s - 1 + k := ⟨_, rfl⟩
      have hy1 : y + 1 ≤ s + k := by omega
      have hy2 : s + k ≤ y + 1 := by omega
      obtain ⟨H, hHm⟩ : ∃ H, hs[s - 1 + k]? = some H := ⟨_, List.getElem?_eq_getElem (by omega)⟩
      have HSN : Hid (fromL hs s (k + 1) = fromL hs s k ++ [H]) := fromL_snoc hHm
      rw [← hy] at hHm
      obtain ⟨b, off, N, f, tok, rfl, hN, hbd, hlt, _, hok, ht, hcell⟩ := Hds.get hH hHm
      have HA := Lib.hid hcell
      have HT : Hid (∀ w', St w [] [] w' → Toks w' tok H.toks) := by show ∀ _, _; exact fun w' h' => ht.keep h'
      have h8 : H.toks.length ≤ 1000000 := by
        have := (formed_nat (HFM.out H (List.mem_of_getElem? hHm))).2.2.2.2.2.2.1
        omega
      have HEL := Lib.hid hel
      have HLN := Lib.hid hlen
      clear hcell ht hHm hy hel hlen hown0
      go_wp2_with (first
      | go_skip
      | ((with_reducible refine at_d 13 ?_); go_loud (refine wl_call pl13 rfl rfl rfl (head_any bc wtr hs _ (HC.out _ hst.none)) ?_; rintro v13 w13 ⟨rfl, rfl⟩))
      | ((with_reducible refine at_d 14 ?_); go_loud (refine wl_cmp (p := ((s : Int) + (k : Int))) (q := (hs.length : Int)) (by first | exact decide_eq_true (by omega) | exact decide_eq_false (by omega)) rfl rfl rfl rfl rfl (hk := ?_)))
      | ((with_reducible refine at_d 19 ?_); (refine wl_cmp (p := (k : Int)) (q := most) (by first | exact decide_eq_true (by omega) | exact decide_eq_false (by omega)) rfl rfl rfl rfl rfl (hk := ?_)))
      | ((with_reducible refine at_d 26 ?_); go_loud (refine wl_fld (r := 1) fld56_1 rfl rfl rfl rfl (hk := ?_)))
      | ((with_reducible refine at_d 27 ?_); go_loud (refine wl_load1v rfl rfl rfl (hs := sc22) (hk := ?_)))
      | ((with_reducible refine at_d 29 ?_); go_loud (refine wl_ari (p := ((s : Int) + (k : Int))) (q := 1) (r := (y : Int)) (k := .u64) (by simp only [ariI] <;> omega) (by show _ ∧ _; omega) rfl rfl rfl rfl rfl (hk := ?_)))
      | ((with_reducible refine at_d 30 ?_); go_loud (refine wl_idx (i := y) Tryd.underlying22 siz35 (by omega) rfl rfl rfl rfl (hk := ?_)))
      | ((with_reducible refine at_d 31 ?_); go_loud (refine wl_loadP rfl rfl rfl (by first | exact St.hasb hst (by repeat (first | exact Pick.head | apply Pick.tail)) | exact St.hasOld hst (by assumption) (by simp) | assumption) agg35 (by omega) HA.out (hk := ?_)))
      | ((with_reducible refine at_d 32 ?_); go_loud (refine wl_call pl27 rfl rfl rfl (copied_any H _ _ (HT.out _ hst.none) h8) ?_; rintro v32 w32 ⟨t32, E32, rfl, hown32, hst32⟩; have hst0 := hst.call hst32; clear hst hst32; have hst := hst0; clear hst0))
      | ((with_reducible refine at_d 33 ?_); go_loud (refine wl_buildSlice1 (v := .agg (row 125 (hF H t32))) rfl rfl elt22 (by decide) rfl rfl hst ?_; clear hst; intro b33 w33 hb33 hst))
      | ((with_reducible refine at_d 34 ?_); go_loud (refine wl_append rfl rfl elt22 rfl rfl hown (L := (b33, blk 125 (hF H t32) 35) :: (E32 ++ ET)) (h := hF H t32) (hst.perm (pmC _ _ _ _)) (.inr ⟨b33, 0, 125, _, rfl, hst.hasb Pick.head, by omega, fun j _ => by rw [Nat.zero_add]⟩) (by intro h; cases h) (fun j _ => hF_one H _ (own_one hown32) j) (by omega) (by unfold maxLen; omega) ?_; intro v34 w34 E34 hown34 hst34 _; clear hst; have hst := hst34.perm (pmD _ _ _ _); clear hst34))
      | ((with_reducible refine at_d 22 ?_); go_loud (refine wl_ari (p := ((s : Int) + (k : Int))) (q := 1) (r := ((s : Int) + ((k + 1 : Nat) : Int))) (k := .u64) (by simp only [ariI] <;> omega) (by show _ ∧ _; omega) rfl rfl rfl rfl rfl (hk := ?_))))
      go_roundw
      case rel =>
        refine ⟨k + 1, _, .inl (by omega), .inl (by omega), rfl, ?_, hst.drop⟩
        rw [HSN.out]
        exact GotO.snoc (by rw [HLN.out]; exact hown34) HEL.out hok hown32
      case measure => simp [intOf]; omega
    · have hN : fromN hs s most = k := by unfold fromN; omega
      have HN := Lib.hid hN
      obtain ⟨ad7, c7, rfl, hc7, hm7⟩ := hgot.slice
      have HG := Lib.hid hgot
      have hlk : (fromL hs s k).length = k := by
        rcases hk with hk | hk
        · exact fromL_len hs hk
        · subst hk; unfold fromL; simp
      rw [hlk] at HG ⊢
      clear hgot hlk hN
      by_cases hin2 : s + k ≤ hs.length
      · go_wp2_with (first
      | go_skip
      | ((with_reducible refine at_d 13 ?_); go_loud (refine wl_call pl13 rfl rfl rfl (head_any bc wtr hs _ (HC.out _ hst.none)) ?_; rintro v13 w13 ⟨rfl, rfl⟩))
      | ((with_reducible refine at_d 14 ?_); go_loud (refine wl_cmp (p := ((s : Int) + (k : Int))) (q := (hs.length : Int)) (by first | exact decide_eq_true (by omega) | exact decide_eq_false (by omega)) rfl rfl rfl rfl rfl (hk := ?_)))
      | ((with_reducible refine at_d 19 ?_); (refine wl_cmp (p := (k : Int)) (q := most) (by first | exact decide_eq_true (by omega) | exact decide_eq_false (by omega)) rfl rfl rfl rfl rfl (hk := ?_))))
        go_ret
        exact ⟨_, rfl, E, by rw [HN.out]; exact HG.out, hst⟩
      · go_wp2_with (first
      | go_skip
      | ((with_reducible refine at_d 13 ?_); go_loud (refine wl_call pl13 rfl rfl rfl (head_any bc wtr hs _ (HC.out _ hst.none)) ?_; rintro v13 w13 ⟨rfl, rfl⟩))
      | ((with_reducible refine at_d 14 ?_); go_loud (refine wl_cmp (p := ((s : Int) + (k : Int))) (q := (hs.length : Int)) (by first | exact decide_eq_true (by omega) | exact decide_eq_false (by omega)) rfl rfl rfl rfl rfl (hk := ?_))))
        go_ret
        exact ⟨_, rfl, E, by rw [HN.out]; exact HG.out, hst⟩
end Go.Proofs.YtmegpfjlijphoaaDoor
