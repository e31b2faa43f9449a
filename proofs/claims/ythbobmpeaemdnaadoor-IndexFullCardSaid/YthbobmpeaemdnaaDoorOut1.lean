/- The walks of pack.Out. -/
import Derived.Test.YthbobmpeaemdnaaDoorHBase
import Derived.Test.YthbobmpeaemdnaaDoorHash5
namespace Go.Proofs.YthbobmpeaemdnaaDoor
open Go.RowKit Go.Jal

/-- what a pack.Out holds: its bytes, and whether something was too long -/
def oF (v : Value) (b : Bool) : Nat → Value := fun j => cond (Nat.blt j 1) v (.bool b)
theorem oF_upd (v v' : Value) (b : Bool) (T : TypeId) : blk 2 (upd (oF v b) 0 v') T = blk 2 (oF v' b) T := blk_congr fun j hj => by
  obtain rfl | rfl : j = 0 ∨ j = 1 := by omega
  · rfl
  · rfl
theorem agg116 : Agg Tryd.prog 116 2 := ⟨_, Tryd.underlying116, rfl, by kernel_rfl⟩
theorem zer116 : Zer Tryd.prog 116 2 (oF (.slice none 0 0) false) := by unfold Zer; kernel_rfl
theorem fld116_0 : Fld Tryd.prog 116 0 0 := ⟨_, _, Tryd.underlying116, rfl, rfl, 0, by kernel_rfl⟩
theorem fld116_1 : Fld Tryd.prog 116 1 1 := ⟨_, _, Tryd.underlying116, rfl, rfl, 0, by kernel_rfl⟩
theorem fld114_0 : Fld Tryd.prog 114 0 0 := ⟨_, _, Tryd.underlying114, rfl, rfl, 0, by kernel_rfl⟩
/-- an Out in memory that has the bytes l -/
structure Outs (w : World) (bo : Nat) (v : Value) (l : List Nat) (E : List (Nat × Obj)) : Prop where
  own : Own 1 5 v l.length (bF l) E
  mem : ∀ p ∈ (bo, blk 2 (oF v false) 116) :: E, w.heap[p.1]? = some p.2
  nd : bo ∉ E.map Prod.fst
theorem Outs.of {w0 w : World} {M : List Nat} {bo : Nat} {v : Value} {l : List Nat} {E L : List (Nat × Obj)} (h : Own 1 5 v l.length (bF l) E) (hst : St w0 M (((bo, blk 2 (oF v false) 116) :: E) ++ L) w) : Outs w bo v l E :=
  ⟨h, fun p hp => hst.own p (List.mem_append_left _ hp), by
    have := hst.nodup
    simp only [List.cons_append, List.map_cons, List.nodup_cons, List.map_append, List.mem_append, not_or] at this
    exact this.1.1⟩
/-- what a call that puts bytes in leaves -/
def Put (w : World) (bo : Nat) (l : List Nat) (E : List (Nat × Obj)) (u : Value) (w' : World) : Prop :=
  u = .tuple #[] ∧ ∃ v' E', Own 1 5 v' l.length (bF l) E' ∧ St w (bo :: E.map Prod.fst) ((bo, blk 2 (oF v' false) 116) :: E') w'
set_option maxRecDepth 100000 in
theorem put_any (bo : Nat) (v s : Value) (l add : List Nat) (E : List (Nat × Obj)) (w : World) (H : Outs w bo v l E) (hs : Bs w s add) (hn : l.length + add.length ≤ 1000000) :
    Ret Tryd.prog 83 #[.pointer (some ⟨bo, 0, none⟩), s] w fun u w' => Put w bo (l ++ add) E u w' := by
  obtain ⟨hown, hmem, hnd⟩ := H
  obtain ⟨ad, c, rfl, hc, hcm, _, hnil, _⟩ := id hs
  unfold maxLen at hcm
  have hst := St.reflE hmem (List.nodup_cons.2 ⟨hnd, hown.nodup⟩)
  have HN : Hid (ad = none → add.length = 0) := by show _ → _; intro e; have := hnil e; omega
  clear hmem hnd hnil
  go_enter Tryd.func83, Tryd.ntmps83
  go_wp2_with (first
      | ((with_reducible refine at_d 7 ?_); go_loud (refine wl_fld (r := 0) fld114_0 rfl rfl rfl rfl (hk := ?_)))
      | ((with_reducible refine at_d 8 ?_); go_loud (refine wl_load1v rfl rfl rfl (hs := sc35) (hk := ?_)))
      | ((with_reducible refine at_d 10 ?_); go_loud (refine wl_append rfl rfl elt35 rfl rfl hown (L := [(bo, blk 2 (oF v false) 116)]) (hst.perm (List.perm_append_comm (l₁ := [_]))) (Src.of_bs hs) (HN.out) (fun j _ => rfl) (by omega) (by unfold maxLen; omega) ?_; intro v2 w2 E2 hown2 hst2 _; clear hst; have hst := hst2.perm (List.perm_append_comm (l₂ := [(bo, blk 2 (oF v false) 116)])); clear hst2; have hown3 := hown2; obtain ⟨ad2, c2, rfl, _⟩ := hown2.slice))
      | ((with_reducible refine at_d 12 ?_); go_loud (refine wl_fld (r := 0) fld114_0 rfl rfl rfl rfl (hk := ?_)))
      | ((with_reducible refine at_n (.store 35 (.tmp 12) (.tmp 10)) ?_); go_loud (refine wl_store1 rfl rfl rfl (hs := sc35) (hk := ?_); clear hst; intro w1 hst)))
  rw [oF_upd] at hst
  refine bodyPost_end (results_none rfl _ _ _) rfl ⟨_, rfl, rfl, _, E2, ?_, hst⟩
  rw [List.length_append, ← glue_bF l add _ rfl]
  exact hown3
set_option maxRecDepth 100000 in
theorem raw_any (bo : Nat) (v s : Value) (l add : List Nat) (E : List (Nat × Obj)) (w : World) (H : Outs w bo v l E) (hs : Bs w s add) (hn : l.length + add.length ≤ 1000000) :
    Ret Tryd.prog 68 #[.pointer (some ⟨bo, 0, none⟩), s] w fun u w' => Put w bo (l ++ add) E u w' := by
  go_enter Tryd.func68, Tryd.ntmps68
  go_wp2_with (first
      | ((with_reducible refine at_d 6 ?_); go_loud (refine wl_fld (r := 0) fld116_0 rfl rfl rfl rfl (hk := ?_)))
      | ((with_reducible refine at_d 8 ?_); go_loud (refine wl_call pl83 rfl rfl rfl (put_any bo v _ l add E _ H hs hn) ?_; rintro v8 w8 h8)))
  obtain ⟨rfl, h8⟩ := h8
  exact bodyPost_end (results_none rfl _ _ _) rfl ⟨_, rfl, rfl, h8⟩
theorem Bs.byte {w w0 : World} {M : List Nat} {b x : Nat} {T : TypeId} {L : List (Nat × Obj)} (hst : St w0 M ((b, blk 1 (fun _ => nB x) T) :: L) w) (hx : x < 256) : Bs w (.slice (some ⟨b, 0, none⟩) 1 1) [x] :=
  Bs.of_blk (l := [x]) ⟨_, _, hst.own _ (List.mem_cons_self ..)⟩ (by simp) (fun j hj => by obtain rfl : j = 0 := (by simpa using hj); rfl) (by simpa using hx) (by simp) (by simp [maxLen])
/-- a call that puts bytes in, behind what the caller owns: the block of the byte goes -/
theorem Put.go {w0 w w' : World} {M : List Nat} {bo : Nat} {l : List Nat} {E L : List (Nat × Obj)} {v u : Value} (hst : St w0 M (((bo, blk 2 (oF v false) 116) :: E) ++ L) w) (h : Put w bo l E u w') :
    u = .tuple #[] ∧ ∃ v' E', Own 1 5 v' l.length (bF l) E' ∧ St w0 M (((bo, blk 2 (oF v' false) 116) :: E') ++ L) w' := by
  obtain ⟨h1, v', E', h2, h3⟩ := h
  exact ⟨h1, v', E', h2, hst.callE (E := (bo, blk 2 (oF v false) 116) :: E) h3⟩
set_option maxRecDepth 100000 in
theorem flag_any (bo : Nat) (v : Value) (l : List Nat) (c : Bool) (E : List (Nat × Obj)) (w : World) (H : Outs w bo v l E) (hn : l.length ≤ 100000) :
    Ret Tryd.prog 69 #[.pointer (some ⟨bo, 0, none⟩), .bool c] w fun u w' => Put w bo (l ++ [if c then 1 else 0]) E u w' := by
  have hst := St.reflE H.mem (List.nodup_cons.2 ⟨H.nd, H.own.nodup⟩)
  have hown := Lib.hid H.own
  clear H
  have one : ∀ (x b : Nat) (w1 : World), x < 256 → St w (bo :: E.map Prod.fst) ((b, blk 1 (fun _ => nB x) 5) :: ((bo, blk 2 (oF v false) 116) :: E)) w1 →
      Ret Tryd.prog 83 #[.pointer (some ⟨bo, 0, none⟩), .slice (some ⟨b, 0, none⟩) 1 1] w1 fun u w' => u = .tuple #[] ∧ ∃ v' E', Own 1 5 v' (l ++ [x]).length (bF (l ++ [x])) E' ∧ St w (bo :: E.map Prod.fst) ((bo, blk 2 (oF v' false) 116) :: E') w' := by
    intro x b w1 hx h1
    have h2 : St w (bo :: E.map Prod.fst) (((bo, blk 2 (oF v false) 116) :: E) ++ [(b, blk 1 (fun _ => nB x) 5)]) w1 := h1.perm (List.perm_append_comm (l₁ := [_]))
    refine Calls.mono (put_any bo v _ l [x] E w1 (Outs.of hown.out h2) (Bs.byte h1 hx) (by simp; omega)) ?_
    rintro e w' ⟨u, rfl, hp⟩
    obtain ⟨rfl, v', E', h3, h4⟩ := Put.go h2 hp
    exact ⟨_, rfl, rfl, v', E', h3, h4.sub (List.sublist_append_left _ _)⟩
  have ONE := Lib.hid one
  clear one
  go_enter Tryd.func69, Tryd.ntmps69
  cases c with
  | true =>
    go_wp2_with (first
      | ((with_reducible refine at_d 7 ?_); go_loud (refine wl_fld (r := 0) fld116_0 rfl rfl rfl rfl (hk := ?_)))
      | ((with_reducible refine at_d 8 ?_); go_loud (refine wl_buildSlice1 rfl rfl elt35 (by decide) (by (conv => lhs; whnf) <;> rfl) (by first | exact row_one _ | rfl) hst ?_; clear hst; intro b8 w8 hb8 hst))
      | ((with_reducible refine at_d 9 ?_); go_loud (refine wl_call pl83 rfl rfl rfl (ONE.out 1 b8 _ (by decide) hst) ?_; rintro v9 w9 ⟨rfl, h9⟩))
      | ((with_reducible refine at_d 12 ?_); go_loud (refine wl_fld (r := 0) fld116_0 rfl rfl rfl rfl (hk := ?_)))
      | ((with_reducible refine at_d 13 ?_); go_loud (refine wl_buildSlice1 rfl rfl elt35 (by decide) (by (conv => lhs; whnf) <;> rfl) (by first | exact row_one _ | rfl) hst ?_; clear hst; intro b13 w13 hb13 hst))
      | ((with_reducible refine at_d 14 ?_); go_loud (go_outline; fail "call 83")))
    exact bodyPost_end (results_none rfl _ _ _) rfl ⟨_, rfl, rfl, h9⟩
  | false =>
    go_wp2_with (first
      | ((with_reducible refine at_d 7 ?_); go_loud (refine wl_fld (r := 0) fld116_0 rfl rfl rfl rfl (hk := ?_)))
      | ((with_reducible refine at_d 8 ?_); go_loud (refine wl_buildSlice1 rfl rfl elt35 (by decide) (by (conv => lhs; whnf) <;> rfl) (by first | exact row_one _ | rfl) hst ?_; clear hst; intro b8 w8 hb8 hst))
      | ((with_reducible refine at_d 9 ?_); go_loud (go_outline; fail "call 83"))
      | ((with_reducible refine at_d 12 ?_); go_loud (refine wl_fld (r := 0) fld116_0 rfl rfl rfl rfl (hk := ?_)))
      | ((with_reducible refine at_d 13 ?_); go_loud (refine wl_buildSlice1 rfl rfl elt35 (by decide) (by (conv => lhs; whnf) <;> rfl) (by first | exact row_one _ | rfl) hst ?_; clear hst; intro b13 w13 hb13 hst))
      | ((with_reducible refine at_d 14 ?_); go_loud (refine wl_call pl83 rfl rfl rfl (ONE.out 0 b13 _ (by decide) hst) ?_; rintro v14 w14 ⟨rfl, h14⟩)))
    exact bodyPost_end (results_none rfl _ _ _) rfl ⟨_, rfl, rfl, h14⟩
theorem put1_any {w0 w1 : World} {M : List Nat} {bo x b : Nat} {v : Value} {l : List Nat} {E : List (Nat × Obj)} (hown : Own 1 5 v l.length (bF l) E) (h1 : St w0 M ((b, blk 1 (fun _ => nB x) 5) :: ((bo, blk 2 (oF v false) 116) :: E)) w1) (hx : x < 256) (hn : l.length ≤ 900000) :
    Ret Tryd.prog 83 #[.pointer (some ⟨bo, 0, none⟩), .slice (some ⟨b, 0, none⟩) 1 1] w1 fun u w' => u = .tuple #[] ∧ ∃ v' E', Own 1 5 v' (l ++ [x]).length (bF (l ++ [x])) E' ∧ St w0 M ((bo, blk 2 (oF v' false) 116) :: E') w' := by
  have h2 : St w0 M (((bo, blk 2 (oF v false) 116) :: E) ++ [(b, blk 1 (fun _ => nB x) 5)]) w1 := h1.perm (List.perm_append_comm (l₁ := [_]))
  refine Calls.mono (put_any bo v _ l [x] E w1 (Outs.of hown h2) (Bs.byte h1 hx) (by simp; omega)) ?_
  rintro e w' ⟨u, rfl, hp⟩
  obtain ⟨rfl, v', E', h3, h4⟩ := Put.go h2 hp
  exact ⟨_, rfl, rfl, v', E', h3, h4.sub (List.sublist_append_left _ _)⟩
set_option maxRecDepth 100000 in
theorem or128 (y : Nat) : bits .or .u8 ((y % 256 : Nat) : Int) 128 = ((y % 128 + 128 : Nat) : Int) := by
  have h : ∀ a, a < 256 → a ||| 128 = a % 128 + 128 := by decide
  have h1 := h (y % 256) (by omega)
  have ha' : y % 256 % 2 ^ IntKind.u8.bits = y % 256 := Nat.mod_eq_of_lt (by show _ < 256; omega)
  have e128 : (128 : Int) = ((128 : Nat) : Int) := rfl
  rw [e128]
  simp only [bits, BitVec.ofInt_natCast, BitVec.toNat_or, BitVec.toNat_ofNat, ha', IntKind.wrap_u8]
  rw [show (128 : Nat) % 2 ^ IntKind.u8.bits = 128 from rfl, h1]
  omega
set_option maxRecDepth 100000 in
theorem num_any (bo : Nat) (v : Value) (l : List Nat) (x : Nat) (E : List (Nat × Obj)) (w : World) (H : Outs w bo v l E) (hx : x < 18446744073709551616) (hn : l.length ≤ 100000) :
    Ret Tryd.prog 67 #[.pointer (some ⟨bo, 0, none⟩), .int .u64 (x : Int)] w fun u w' => Put w bo (l ++ num x) E u w' := by
  have hst := St.reflE H.mem (List.nodup_cons.2 ⟨H.nd, H.own.nodup⟩)
  have hown := H.own
  have hnl := num_len_le 9 x (by have : (18446744073709551616 : Nat) ≤ 128 ^ (9 + 1) := by decide
                                 omega)
  clear H
  go_enter Tryd.func67, Tryd.ntmps67
  go_wp2_with fail
  go_loopw [1] (fun i wr => ∃ (y : Nat) (l' : List Nat) (v' : Value) (E' : List (Nat × Obj)), i = .int .u64 (y : Int) ∧ y ≤ x ∧ l' ++ num y = l ++ num x ∧ Own 1 5 v' l'.length (bF l') E' ∧ St w (bo :: E.map Prod.fst) ((bo, blk 2 (oF v' false) 116) :: E') wr) (fun i _ => (intOf i).toNat)
  case atStart => exact ⟨x, l, v, E, rfl, Nat.le_refl _, rfl, hown, hst⟩
  case round =>
    clear hst hown
    obtain ⟨y, l', v', E', rfl, hyx, hl, hown, hst⟩ := hrel
    have hlen := congrArg List.length hl
    simp only [List.length_append] at hlen
    have hl6 : l'.length ≤ 900000 := by omega
    have HL := Lib.hid hl
    clear hl hlen
    by_cases hy : y < 128
    · have HB : Hid (num y = [y]) := num_small hy
      have ey : (y : Int) % 256 = (y : Int) := by omega
      go_wp2_with (first
      | ((with_reducible refine at_d 5 ?_); go_loud (refine wl_cmp (p := (y : Int)) (q := 128) (r := false) (by simp [cmpI] <;> omega) rfl rfl rfl rfl rfl (hk := ?_)))
      | ((with_reducible refine at_d 10 ?_); go_loud (refine wl_fld (r := 0) fld116_0 rfl rfl rfl rfl (hk := ?_)))
      | ((with_reducible refine at_d 14 ?_); go_loud (refine wl_buildSlice1 rfl rfl elt35 (by decide) (by (conv => lhs; whnf) <;> rfl) (by first | exact row_one _ | rfl) hst ?_; clear hst; intro b14 w14 hb14 hst))
      | ((with_reducible refine at_d 15 ?_); go_loud (go_outline; fail "call 83"))
      | ((with_reducible refine at_d 18 ?_); go_loud (refine wl_fld (r := 0) fld116_0 rfl rfl rfl rfl (hk := ?_)))
      | ((with_reducible refine at_d 21 ?_); go_loud (refine wl_buildSlice1 rfl rfl elt35 (by decide) (by (conv => lhs; whnf) <;> rfl) (by first | exact row_one _ | rfl) hst ?_; clear hst; intro b21 w21 hb21 hst))
      | ((with_reducible refine at_d 22 ?_); go_loud (refine wl_call pl83 rfl rfl rfl (put1_any hown hst (by omega) hl6) ?_; rintro v22 w22 ⟨rfl, h22⟩)))
      refine bodyPost_end (results_none rfl _ _ _) rfl ⟨_, rfl, rfl, ?_⟩
      rw [← HL.out, HB.out]
      exact h22
    · obtain ⟨z, hz⟩ : ∃ z, z = y % 128 + 128 := ⟨_, rfl⟩
      obtain ⟨q, hq⟩ : ∃ q, q = y / 128 := ⟨_, rfl⟩
      obtain ⟨u, hu⟩ : ∃ u, u = y % 256 := ⟨_, rfl⟩
      have HB : Hid (num y = z :: num q) := by show _ = _; rw [num_big hy, hz, hq]
      have eu : (y : Int) % 256 = (u : Int) := by omega
      have EO : Hid (bits .or .u8 (u : Int) 128 = (z : Int)) := by show _ = _; rw [hu, hz]; exact or128 y
      have EQ : Hid ((y : Int) / 128 = (q : Int)) := by show _ = _; omega
      have hz2 : z < 256 := by omega
      have hq1 : q < y := by omega
      have EU := Lib.hid eu
      clear hz hq hu eu
      go_wp2_with (first
      | ((with_reducible refine at_d 5 ?_); (refine wl_cmp (p := (y : Int)) (q := 128) (r := true) (by simp [cmpI] <;> omega) rfl rfl rfl rfl rfl (hk := ?_)))
      | ((with_reducible refine at_d 10 ?_); (refine wl_fld (r := 0) fld116_0 rfl rfl rfl rfl (hk := ?_)))
      | ((with_reducible refine at_d 13 ?_); (rw [EU.out]))
      | ((with_reducible refine at_d 14 ?_); (rw [EO.out]; refine wl_buildSlice1 rfl rfl elt35 (by decide) (by (conv => lhs; whnf) <;> rfl) (by first | exact row_one _ | rfl) hst ?_; clear hst; intro b14 w14 hb14 hst))
      | ((with_reducible refine at_d 15 ?_); (refine wl_call pl83 rfl rfl rfl (put1_any hown hst hz2 hl6) ?_; rintro v15 w15 ⟨rfl, v2, E2, hown2, hst2⟩))
      | ((with_reducible refine at_d 18 ?_); (refine wl_fld (r := 0) fld116_0 rfl rfl rfl rfl (hk := ?_)))
      | ((with_reducible refine at_d 21 ?_); (refine wl_buildSlice1 rfl rfl elt35 (by decide) (by (conv => lhs; whnf) <;> rfl) (by first | exact row_one _ | rfl) hst ?_; clear hst; intro b21 w21 hb21 hst))
      | ((with_reducible refine at_d 22 ?_); (go_outline; fail "call 83")))
      go_roundw
      case rel => exact ⟨q, l' ++ [z], v2, E2, by rw [EQ.out], by omega, by rw [List.append_assoc, ← HL.out, HB.out]; rfl, hown2, hst2⟩
      case measure => simp [intOf]; omega
set_option maxRecDepth 100000 in
theorem end_any (bo : Nat) (v : Value) (l : List Nat) (E : List (Nat × Obj)) (w : World) (H : Outs w bo v l E) (hlt : ∀ x ∈ l, x < 256) (hn : l.length ≤ 16384) :
    Ret Tryd.prog 70 #[.pointer (some ⟨bo, 0, none⟩)] w fun u w' => ∃ v' E', u = .tuple #[v', nI 0] ∧ Own 1 5 v' l.length (bF l) E' ∧ St w [] E' w' := by
  have hB := Bs.of_own (L := []) H.own hlt ((St.reflE H.mem (List.nodup_cons.2 ⟨H.nd, H.own.nodup⟩)).sub (by simp))
  have hH : Has w bo 2 (oF v false) := ⟨_, _, H.mem _ (List.mem_cons_self ..)⟩
  obtain ⟨ad, c, rfl, hc, _⟩ := id hB
  have hst := St.refl w
  clear H hlt
  go_enter Tryd.func70, Tryd.ntmps70
  go_wp2_with (first
      | go_skip
      | ((with_reducible refine at_d 6 ?_); go_loud (refine wl_fld (r := 1) fld116_1 rfl rfl rfl rfl (hk := ?_)))
      | ((with_reducible refine at_d 7 ?_); go_loud (refine wl_load1v rfl rfl rfl (hs := sc4) (hk := ?_)))
      | ((with_reducible refine at_d 11 ?_); (refine wl_fld (r := 0) fld116_0 rfl rfl rfl rfl (hk := ?_)))
      | ((with_reducible refine at_d 12 ?_); (refine wl_fld (r := 0) fld114_0 rfl rfl rfl rfl (hk := ?_)))
      | ((with_reducible refine at_d 13 ?_); (refine wl_load1v rfl rfl rfl (hs := sc35) (hk := ?_)))
      | ((with_reducible refine at_d 15 ?_); (refine wl_cmp (p := (l.length : Int)) (q := 16384) (r := false) (by simp [cmpI] <;> omega) rfl rfl rfl rfl rfl (hk := ?_)))
      | ((with_reducible refine at_d 19 ?_); go_loud (refine wl_fld (r := 0) fld116_0 rfl rfl rfl rfl (hk := ?_)))
      | ((with_reducible refine at_d 20 ?_); go_loud (refine wl_fld (r := 0) fld114_0 rfl rfl rfl rfl (hk := ?_)))
      | ((with_reducible refine at_d 21 ?_); go_loud (refine wl_load1v rfl rfl rfl (hs := sc35) (hk := ?_)))
      | ((with_reducible refine at_d 22 ?_); go_loud (refine wl_call pl30 rfl rfl rfl (clone_any _ l _ hB (by omega)) ?_; rintro v22 w22 ⟨E22, hown22, hst22⟩)))
  go_ret2
  exact ⟨_, rfl, _, _, rfl, hown22, hst22⟩
end Go.Proofs.YthbobmpeaemdnaaDoor
