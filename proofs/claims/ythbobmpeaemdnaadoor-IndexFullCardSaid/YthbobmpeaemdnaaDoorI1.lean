/- What an index holds, in plain words: each writer's chain and bodies, and the blocks they lie in. The walks of index.New, Whole, Count. -/
import Derived.Test.YthbobmpeaemdnaaDoorW1
namespace Go.Jal
open Go.RowKit
open Classical in
/-- a permutation of lists joined of pieces, by counting -/
theorem perm_count {L L' : List (Nat × Obj)} (h : ∀ (c : List (Nat × Obj) → Nat) (d : Nat × Obj → Nat), (∀ A B, c (A ++ B) = c A + c B) → (∀ x A, c (x :: A) = d x + c A) → c [] = 0 → c L = c L') : L.Perm L' := by
  rw [List.perm_iff_count]
  intro a
  exact h (fun l => l.count a) (fun x => if x == a then 1 else 0) (fun A B => List.count_append) (fun x A => by rw [List.count_cons]; omega) rfl
theorem St.resh {w0 w : World} {M : List Nat} {L L' : List (Nat × Obj)} (h : St w0 M L w) (D : List (Nat × Obj)) (hp : L.Perm (D ++ L')) : St w0 M L' w := (h.perm hp).sub (List.sublist_append_right _ _)
/-- the element at i, ahead of all others -/
theorem flat_at {X : Type} (f : X → List (Nat × Obj)) : ∀ (l : List X) (i : Nat) (c : X), l[i]? = some c → (l.map f).flatten.Perm (f c ++ ((l.eraseIdx i).map f).flatten) ∧ ∀ c', ((l.set i c').map f).flatten.Perm (f c' ++ ((l.eraseIdx i).map f).flatten)
  | [], i, c, h => by simp at h
  | x :: l, 0, c, h => by
    simp only [List.getElem?_cons_zero, Option.some.injEq] at h
    subst h
    exact ⟨by simp, fun c' => by simp⟩
  | x :: l, i + 1, c, h => by
    simp only [List.getElem?_cons_succ] at h
    obtain ⟨h1, h2⟩ := flat_at f l i c h
    have key : ∀ (A B C : List (Nat × Obj)), B.Perm C → ∀ D, C = D → (f x ++ B).Perm (f x ++ D) := fun A B C hp D e => by subst e; exact hp.append_left _
    refine ⟨?_, fun c' => ?_⟩
    · simp only [List.map_cons, List.flatten_cons, List.eraseIdx_cons_succ]
      refine (h1.append_left (f x)).trans ?_
      rw [← List.append_assoc, ← List.append_assoc]
      exact List.perm_append_comm.append_right _
    · simp only [List.set_cons_succ, List.map_cons, List.flatten_cons, List.eraseIdx_cons_succ]
      refine ((h2 c').append_left (f x)).trans ?_
      rw [← List.append_assoc, ← List.append_assoc]
      exact List.perm_append_comm.append_right _
/-- has a piece the body that its header tells -/
def wholeB (H : Hdr) (l : List Nat) : Bool := decide ((l.length : Int) = H.size) && decide (Sha.sha l = H.sum)
/-- one writer's part of an index -/
structure Ch where
  bc : Nat
  hs : List Hdr
  bv : Value
  bl : List (List Nat)
  Ec : List (Nat × Obj)
  Eb : List (Nat × Obj)
def Ch.E (c : Ch) : List (Nat × Obj) := c.Ec ++ c.Eb
/-- an index's cells -/
def iF (cs : List Ch) (n : Int) : Nat → Value := fun j =>
  cond (Nat.blt j 6) (match cs[j]? with | some c => .pointer (some ⟨c.bc, 0, none⟩) | none => .pointer none)
    (cond (Nat.blt j 12) (match cs[j - 6]? with | some c => c.bv | none => .slice none 0 0) (.int .i64 n))
/-- a piece's cells -/
def pF (H : Hdr) (tok bv : Value) : Nat → Value := fun j => cond (Nat.blt j 125) (hF H tok j) bv
theorem pF_hdr (H : Hdr) (tok bv : Value) : ∀ j, j < 125 → pF H tok bv (0 + j) = hF H tok j := fun j hj => by
  unfold pF; rw [Nat.zero_add, blt_t hj]; rfl
theorem pF_one (H : Hdr) (tok bv : Value) (h1 : ∀ j, (hF H tok j).oneCell' = true) (h2 : bv.oneCell' = true) (j : Nat) : (pF H tok bv j).oneCell' = true := by
  unfold pF
  cases Nat.blt j 125 with
  | true => exact h1 j
  | false => exact h2
/-- what an index says of a piece -/
def askI (V : List (List Hdr × List (List Nat))) (n : Int) (H : Hdr) (l : List Nat) : Int :=
  if formed H = true then
    (match V[H.writer.toNat - 1]? with
    | some c => if askOf H.writer c.1 H = 0 then (if wholeB H l = true then (if 400 ≤ n then 4 else 0) else 2) else askOf H.writer c.1 H
    | none => 1)
  else 1
def putV (V : List (List Hdr × List (List Nat))) (H : Hdr) (l : List Nat) : List (List Hdr × List (List Nat)) :=
  match V[H.writer.toNat - 1]? with
  | some c => V.set (H.writer.toNat - 1) (c.1 ++ [H], c.2 ++ [l])
  | none => V
end Go.Jal
namespace Go.Proofs.YthbobmpeaemdnaaDoor
open Go.RowKit Go.Jal
/-- bodies of the index's own -/
def BodO (v : Value) (bl : List (List Nat)) (E : List (Nat × Obj)) : Prop :=
  ∃ g EH ET, E = EH ++ ET ∧ Own 1 35 v bl.length g EH ∧ ∀ j l, bl[j]? = some l → (∀ x ∈ l, x < 256) ∧ ∃ Et, Own 1 5 (g j) l.length (bF l) Et ∧ ∀ p ∈ Et, p ∈ ET
theorem BodO.nil : BodO (.slice none 0 0) [] [] := ⟨fun _ => nB 0, [], [], rfl, Own.nil, by intro j l h; simp at h⟩
theorem BodO.snoc {bl : List (List Nat)} {l : List Nat} {v t : Value} {g : Nat → Value} {EH ET Et : List (Nat × Obj)} (hown : Own 1 35 v (bl.length + 1) (glue (bl.length * 1) g (fun _ => t)) EH)
    (hel : ∀ j l, bl[j]? = some l → (∀ x ∈ l, x < 256) ∧ ∃ Et, Own 1 5 (g j) l.length (bF l) Et ∧ ∀ p ∈ Et, p ∈ ET) (hlt : ∀ x ∈ l, x < 256) (ht : Own 1 5 t l.length (bF l) Et) : BodO v (bl ++ [l]) (EH ++ (Et ++ ET)) := by
  refine ⟨_, EH, Et ++ ET, rfl, by rw [List.length_append]; exact hown, fun i m hi => ?_⟩
  by_cases c : i < bl.length
  · rw [List.getElem?_append_left c] at hi
    obtain ⟨k1, E1, k4, k5⟩ := hel i m hi
    refine ⟨k1, E1, ?_, fun p hp => List.mem_append_right _ (k5 p hp)⟩
    have : glue (bl.length * 1) g (fun _ => t) i = g i := by unfold glue; rw [if_pos (by omega)]
    rw [this]; exact k4
  · have hi2 : i < (bl ++ [l]).length := (List.getElem?_eq_some_iff.1 hi).1
    obtain rfl : i = bl.length := by simp at hi2; omega
    obtain rfl : l = m := by simpa using hi
    refine ⟨hlt, Et, ?_, fun p hp => List.mem_append_left _ hp⟩
    have : glue (bl.length * 1) g (fun _ => t) bl.length = t := by unfold glue; rw [if_neg (by omega)]
    rw [this]; exact ht
/-- each part: its chain, its bodies -/
def ChsO (cs : List Ch) : Prop := cs.length = 6 ∧ ∀ (i : Nat) c, cs[i]? = some c → ChainO c.bc ((i : Int) + 1) c.hs c.Ec ∧ BodO c.bv c.bl c.Eb ∧ c.bl.length = c.hs.length
/-- an index of one's own -/
def IdxO (T : TypeId) (bx : Nat) (V : List (List Hdr × List (List Nat))) (n : Int) (E : List (Nat × Obj)) : Prop :=
  ∃ cs : List Ch, cs.map (fun c => (c.hs, c.bl)) = V ∧ E = (bx, blk 13 (iF cs n) T) :: (cs.map Ch.E).flatten ∧ ChsO cs
theorem iF_chain {cs : List Ch} {n : Int} {i : Nat} {c : Ch} (h : cs[i]? = some c) (hi : i < 6) : iF cs n (0 + 1 * i) = .pointer (some ⟨c.bc, 0, none⟩) := by
  unfold iF; rw [Nat.zero_add, Nat.one_mul, blt_t hi, h]; rfl
theorem iF_body {cs : List Ch} {n : Int} {i : Nat} {c : Ch} (h : cs[i]? = some c) (hi : i < 6) : iF cs n (6 + 1 * i) = c.bv := by
  unfold iF; rw [Nat.one_mul, blt_f (show 6 ≤ 6 + i by omega), blt_t (show 6 + i < 12 by omega), show 6 + i - 6 = i by omega, h]; rfl
theorem iF_count {cs : List Ch} {n : Int} : iF cs n 12 = .int .i64 n := rfl
/-- a body more -/
theorem iF_updB {cs : List Ch} {n : Int} {i : Nat} {c : Ch} {v : Value} {T : TypeId} (h : cs[i]? = some c) (hi : i < 6) (hs : List Hdr) (bl : List (List Nat)) (Ec Eb : List (Nat × Obj)) :
    blk 13 (upd (iF cs n) (6 + 1 * i) v) T = blk 13 (iF (cs.set i ⟨c.bc, hs, v, bl, Ec, Eb⟩) n) T := blk_congr fun j hj => by
  have hlt : i < cs.length := (List.getElem?_eq_some_iff.1 h).1
  unfold upd iF
  by_cases e : j < 6
  · rw [if_neg (by omega), blt_t e]
    by_cases q : j = i
    · subst q
      rw [h, List.getElem?_set_self hlt]; rfl
    · rw [List.getElem?_set_ne (by omega)]; simp only [cond_true]
  · rw [blt_f (show 6 ≤ j by omega)]
    by_cases e2 : j < 12
    · rw [blt_t e2]
      simp only [cond_true, cond_false]
      by_cases q : j = 6 + 1 * i
      · rw [if_pos q, show j - 6 = i by omega, List.getElem?_set_self hlt]
      · rw [if_neg q, List.getElem?_set_ne (by omega)]
    · rw [blt_f (show 12 ≤ j by omega), if_neg (by omega)]; simp only [cond_false]
theorem iF_updN {cs : List Ch} {n : Int} (m : Int) (T : TypeId) : blk 13 (upd (iF cs n) 12 (.int .i64 m)) T = blk 13 (iF cs m) T := blk_congr fun j hj => by
  unfold upd iF
  by_cases e : j < 6
  · rw [if_neg (by omega), blt_t e]; rfl
  · rw [blt_f (show 6 ≤ j by omega)]
    by_cases e2 : j < 12
    · rw [if_neg (by omega), blt_t e2]; rfl
    · rw [if_pos (by omega), blt_f (show 12 ≤ j by omega)]; rfl
end Go.Proofs.YthbobmpeaemdnaaDoor
namespace Go.Jal
open Go.RowKit
def Hdr.setM (H : Hdr) (l : List Nat) : Hdr := { H with sum := l }
def Hdr.setZ (H : Hdr) (x : Int) : Hdr := { H with size := x }
theorem blk_eq {n n' : Nat} {f f' : Nat → Value} {T T' : TypeId} (h : blk n f T = blk n' f' T') : n = n' ∧ T = T' ∧ ∀ i, i < n → f i = f' i := by
  unfold blk at h
  injection h with h1 h2
  have h3 : n = n' := by have := congrArg Array.size h1; simpa using this
  subst h3
  exact ⟨rfl, h2, row_inj h1⟩
theorem hF_m (H : Hdr) (t : Value) (l : List Nat) (T : TypeId) : blk 125 (blit (hF H t) 60 32 (bF l)) T = blk 125 (hF (H.setM l) t) T := blk_congr fun j hj => by
  unfold blit hF Hdr.setM
  by_cases e : j < 34
  · rw [blt_t e, if_neg (by omega)]; rfl
  · rw [blt_f (show 34 ≤ j by omega)]
    by_cases d : j < 53
    · rw [blt_t d, if_neg (by omega)]; rfl
    · rw [blt_f (show 53 ≤ j by omega)]
      by_cases g : j < 54
      · rw [blt_t g, if_neg (by omega)]; rfl
      · rw [blt_f (show 54 ≤ j by omega)]
        by_cases i : j < 60
        · rw [blt_t i, if_neg (by omega)]; rfl
        · rw [blt_f (show 60 ≤ j by omega)]
          by_cases q : j < 92
          · rw [blt_t q, if_pos (by omega)]; rfl
          · rw [blt_f (show 92 ≤ j by omega), if_neg (by omega)]; rfl
theorem hF_z (H : Hdr) (t : Value) (x : Int) (T : TypeId) : blk 125 (upd (hF H t) 92 (.int .i64 x)) T = blk 125 (hF (H.setZ x) t) T := blk_congr fun j hj => by
  unfold upd hF Hdr.setZ
  by_cases e : j < 34
  · rw [blt_t e, if_neg (by omega)]; rfl
  · rw [blt_f (show 34 ≤ j by omega)]
    by_cases d : j < 53
    · rw [blt_t d, if_neg (by omega)]; rfl
    · rw [blt_f (show 53 ≤ j by omega)]
      by_cases g : j < 54
      · rw [blt_t g, if_neg (by omega)]; rfl
      · rw [blt_f (show 54 ≤ j by omega)]
        by_cases i : j < 60
        · rw [blt_t i, if_neg (by omega)]; rfl
        · rw [blt_f (show 60 ≤ j by omega)]
          by_cases q : j < 92
          · rw [blt_t q, if_neg (by omega)]; rfl
          · rw [blt_f (show 92 ≤ j by omega)]
            by_cases s : j = 92
            · subst s; rfl
            · rw [if_neg s, blt_f (show 93 ≤ j by omega)]; rfl
theorem pF_upd {H H' : Hdr} {tok tok' bv v : Value} {j : Nat} {T T' : TypeId} (hj : j < 125) (h : blk 125 (upd (hF H tok) j v) T = blk 125 (hF H' tok') T) : blk 126 (upd (pF H tok bv) j v) T' = blk 126 (pF H' tok' bv) T' := blk_congr fun i hi => by
  obtain ⟨_, _, h⟩ := blk_eq h
  by_cases c : i < 125
  · have := h i c
    unfold upd at this ⊢
    unfold pF
    rw [blt_t c]
    by_cases e : i = j
    · rw [if_pos e] at this ⊢; exact this
    · rw [if_neg e] at this ⊢; exact this
  · unfold upd pF
    rw [blt_f (show 125 ≤ i by omega), if_neg (by omega)]; rfl
theorem pF_blit {H H' : Hdr} {tok tok' bv : Value} {g : Nat → Value} {o m : Nat} {T T' : TypeId} (hj : o + m ≤ 125) (h : blk 125 (blit (hF H tok) o m g) T = blk 125 (hF H' tok') T) : blk 126 (blit (pF H tok bv) o m g) T' = blk 126 (pF H' tok' bv) T' := blk_congr fun i hi => by
  obtain ⟨_, _, h⟩ := blk_eq h
  by_cases c : i < 125
  · have := h i c
    unfold blit at this ⊢
    unfold pF
    rw [blt_t c]
    by_cases e : o ≤ i ∧ i < o + m
    · rw [if_pos e] at this ⊢; exact this
    · rw [if_neg e] at this ⊢; exact this
  · unfold blit pF
    rw [blt_f (show 125 ≤ i by omega), if_neg (by omega)]; rfl
theorem pF_body (H : Hdr) (tok bv v : Value) (T : TypeId) : blk 126 (upd (pF H tok bv) 125 v) T = blk 126 (pF H tok v) T := blk_congr fun i hi => by
  unfold upd pF
  by_cases c : i < 125
  · rw [blt_t c, if_neg (by omega)]; rfl
  · rw [blt_f (show 125 ≤ i by omega), if_pos (by omega)]; rfl
theorem pF_sum (H : Hdr) (tok bv : Value) : ∀ j, j < 32 → pF H tok bv (60 + j) = bF H.sum j := fun j hj => by
  unfold pF; rw [blt_t (show 60 + j < 125 by omega)]; exact hF_sum H tok j hj
end Go.Jal
namespace Go.Proofs.YthbobmpeaemdnaaDoor
open Go.RowKit Go.Jal
theorem fld37_0 : Fld Tryd.prog 37 0 0 := ⟨_, _, Tryd.underlying37, rfl, rfl, 124, by kernel_rfl⟩
theorem fld37_1 : Fld Tryd.prog 37 1 125 := ⟨_, _, Tryd.underlying37, rfl, rfl, 0, by kernel_rfl⟩
theorem fld72_0 : Fld Tryd.prog 72 0 0 := ⟨_, _, Tryd.underlying72, rfl, rfl, 5, by kernel_rfl⟩
theorem fld72_1 : Fld Tryd.prog 72 1 6 := ⟨_, _, Tryd.underlying72, rfl, rfl, 5, by kernel_rfl⟩
theorem fld72_2 : Fld Tryd.prog 72 2 12 := ⟨_, _, Tryd.underlying72, rfl, rfl, 0, by kernel_rfl⟩
theorem agg37 : Agg Tryd.prog 37 126 := ⟨_, Tryd.underlying37, rfl, by kernel_rfl⟩
theorem zer37 : Zer Tryd.prog 37 126 (pF zH (.slice none 0 0) (.slice none 0 0)) := by unfold Zer; kernel_rfl
theorem iF_snoc {cs : List Ch} {c : Ch} {k : Nat} (hk : cs.length = k) (h6 : k < 6) (hv : c.bv = .slice none 0 0) (T : TypeId) : blk 13 (upd (iF cs 0) (0 + 1 * k) (.pointer (some ⟨c.bc, 0, none⟩))) T = blk 13 (iF (cs ++ [c]) 0) T := blk_congr fun j hj => by
  unfold upd iF
  by_cases e : j < 6
  · rw [blt_t e]
    simp only [cond_true]
    by_cases q : j = 0 + 1 * k
    · rw [if_pos q, show j = cs.length by omega]; simp
    · rw [if_neg q]
      by_cases r : j < cs.length
      · rw [List.getElem?_append_left r]
      · rw [List.getElem?_eq_none (by omega), List.getElem?_eq_none (by simp; omega)]
  · rw [blt_f (show 6 ≤ j by omega), if_neg (by omega)]
    by_cases e2 : j < 12
    · rw [blt_t e2]
      simp only [cond_true, cond_false]
      by_cases r : j - 6 < cs.length
      · rw [List.getElem?_append_left r]
      · by_cases r2 : j - 6 = cs.length
        · rw [r2, List.getElem?_eq_none (by omega)]; simp [hv]
        · rw [List.getElem?_eq_none (by omega), List.getElem?_eq_none (by simp; omega)]
    · rw [blt_f (show 12 ≤ j by omega)]; simp only [cond_false]
def V0 : List (List Hdr × List (List Nat)) := List.replicate 6 ([], [])
set_option maxRecDepth 100000 in
set_option maxHeartbeats 4000000 in
theorem inew_any (w : World) : Ret Tryd.prog 8 #[] w fun v' w' => ∃ bx E, v' = .pointer (some ⟨bx, 0, none⟩) ∧ IdxO 72 bx V0 0 E ∧ St w [] E w' := by
  have hb : Tryd.prog.built 72 [] = some (row 13 (iF [] 0)) := by kernel_rfl
  have HB := Lib.hid hb
  clear hb
  go_enter Tryd.func8, Tryd.ntmps8
  have hst := St.refl w
  go_wp2_with (first
      | ((with_reducible refine at_d 3 ?_); go_loud (refine wl_buildC (f := iF [] 0) HB.out rfl rfl rfl (hk := ?_)))
      | ((with_reducible refine at_d 4 ?_); go_loud (refine wl_box rfl rfl rfl (by first | rfl | exact row_one _) hst ?_; clear hst; intro b4 w4 hb4 hst)))
  go_loopw [5] (fun i wq => ∃ (k : Nat) (cs : List Ch), k ≤ 6 ∧ i = .int .i64 (k : Int) ∧ Hid (cs.length = k) ∧ Hid (∀ (j : Nat) c, cs[j]? = some c → ChainO c.bc ((j : Int) + 1) [] c.Ec ∧ c = ⟨c.bc, [], .slice none 0 0, [], c.Ec, []⟩) ∧ St w [] ((b4, blk 13 (iF cs 0) 72) :: (cs.map Ch.E).flatten) wq) (fun i _ => 6 - (intOf i).toNat)
  case atStart => exact ⟨0, [], by omega, rfl, rfl, by show ∀ j, _; intro j c h; simp at h, by simpa using hst⟩
  case round =>
    clear hst
    obtain ⟨k, cs, hk, rfl, HL, HC, hst⟩ := hrel
    by_cases hk6 : k < 6
    · go_wp2_with (first
      | ((with_reducible refine at_d 6 ?_); go_loud (refine wl_cmp (p := (k : Int)) (q := 6) (by first | exact decide_eq_true (by omega) | exact decide_eq_false (by omega)) rfl rfl rfl rfl rfl (hk := ?_))))
      refine rg_start (St w [] ((b4, blk 13 (iF cs 0) 72) :: (cs.map Ch.E).flatten)) mixed (hst.drew) ?_
      refine rg_take [0, 1, 2, 3, 5, 6] 3 _ rfl (by kernel_rfl) (by kernel_rfl) rfl (cls_st _ _ _) (fun _ _ _ _ _ h => h) ?_
      refine tk_wp (hk := ?_)
      refine tk_wp (hk := ?_)
      refine tk_wp (hk := ?_)
      refine tk_ari (p := (k : Int)) (q := 1) (r := ((k : Int) + 1)) (k := .i64) (by simp only [ariI] <;> omega) (by show _ ∧ _; omega) rfl rfl rfl rfl rfl rfl (hk := ?_)
      refine tk_wp (hk := ?_)
      refine tk_fld (r := 0) fld72_0 rfl rfl rfl rfl rfl (hk := ?_)
      refine tk_nil ?_
      refine rg_st (i := 4) (n := 2) (by kernel_rfl) rfl rfl rfl (fun w' hst => wo_call pl23 rfl rfl (new_any ((k : Int) + 1) (by omega) (by omega) _) (fun v12 w12 hR12 => ?_))
      obtain ⟨bN, EN, rfl, hchN, hstN⟩ := hR12
      refine ⟨EN, hst.call hstN, ?_⟩
      simp only [put_lit, setL]
      refine rg_take [7] 1 _ rfl (by kernel_rfl) (by kernel_rfl) rfl (cls_st _ _ _) (fun _ _ _ _ _ h => h) ?_
      refine tk_idxA (i := k) Tryd.underlying68 sc67.size hk6 rfl rfl rfl rfl rfl (hk := ?_)
      refine tk_nil ?_
      refine rg_lastStore1 (i := 8) (v := .pointer (some ⟨bN, 0, none⟩)) (by kernel_rfl) rfl rfl rfl (by kernel_rfl) (by kernel_rfl) rfl rfl (Pick.app .head EN) (by omega) sc67 (by rfl) (by (conv => lhs; simp only [put_lit, put_none, setL]) <;> rfl) (fun w1 hst1 => ?_)
      rw [iF_snoc (c := ⟨bN, [], .slice none 0 0, [], EN, []⟩) HL.out hk6 rfl] at hst1
      clear hst
      go_wp2_with (fail)
      go_roundw
      case rel =>
        refine ⟨k + 1, cs ++ [⟨bN, [], .slice none 0 0, [], EN, []⟩], by omega, by go_num, ?_, ?_, ?_⟩
        · show _ = _; rw [List.length_append, HL.out]; rfl
        · show ∀ j, _
          intro j c hj
          by_cases q : j < cs.length
          · rw [List.getElem?_append_left q] at hj; exact HC.out j c hj
          · have hlt := (List.getElem?_eq_some_iff.1 hj).1
            obtain rfl : j = cs.length := by simp at hlt; omega
            rw [List.getElem?_append_right (Nat.le_refl _), Nat.sub_self] at hj
            obtain rfl := Option.some.inj hj
            rw [HL.out]
            exact ⟨hchN, rfl⟩
        · refine hst1.perm ?_
          rw [List.map_append, List.flatten_append]
          simp only [List.map_cons, List.map_nil, List.flatten_cons, List.flatten_nil, Ch.E, List.append_nil]
          exact (List.perm_append_comm).cons _
      case measure => simp [intOf]; omega
    · obtain rfl : k = 6 := by omega
      go_wp2_with (first
      | ((with_reducible refine at_d 6 ?_); go_loud (refine wl_cmp (p := 6) (q := 6) (by first | exact decide_eq_true (by omega) | exact decide_eq_false (by omega)) rfl rfl rfl rfl rfl (hk := ?_))))
      go_ret
      refine ⟨_, rfl, b4, _, rfl, ⟨cs, ?_, rfl, HL.out, fun i c hi => ?_⟩, hst⟩
      · refine List.eq_replicate_iff.2 ⟨by rw [List.length_map, HL.out], fun x hx => ?_⟩
        obtain ⟨c, hc, rfl⟩ := List.mem_map.1 hx
        obtain ⟨j, hj⟩ := List.getElem?_of_mem hc
        rw [(HC.out j c hj).2]
      · obtain ⟨h1, h2⟩ := HC.out i c hi
        rw [h2]
        exact ⟨h1, BodO.nil, rfl⟩
set_option maxRecDepth 100000 in
set_option maxHeartbeats 4000000 in
theorem whole_any (H : Hdr) (tok bv : Value) (l : List Nat) (w0 : World) (hok : H.Ok) (ht : Toks w0 tok H.toks) (hb : Bs w0 bv l) (hl : l.length ≤ 1000000) (hlt : ∀ x ∈ l, x < 256) (hK : Has w0 1 64 (wF Sha.K)) :
    Ret Tryd.prog 21 #[.agg (row 126 (pF H tok bv))] w0 fun v' w' => v' = .bool (wholeB H l) ∧ St w0 [] [] w' := by
  obtain ⟨tad, tcap, rfl, _⟩ := id ht
  obtain ⟨bad, bcap, rfl, hbc, hbm, _⟩ := id hb
  have hz := hok.size
  have HB : Hid (∀ L w', St w0 [] L w' → Bs w' (.slice bad l.length bcap) l) := by show ∀ _ _ _, _; exact fun L w' h => hb.keep h.none
  have HLL : Hid (l.length ≤ 1000000000000) := by show _ ≤ _; omega
  have HLT : Hid (∀ x ∈ [l].flatten, x < 256) := by show ∀ _, _; simpa using hlt
  clear ht hb hlt
  go_enter Tryd.func21, Tryd.ntmps21
  have hst := St.refl w0
  by_cases c : (l.length : Int) = H.size
  · have c1 : (l.length : Int) ≤ H.size := by omega
    have c2 : H.size ≤ (l.length : Int) := by omega
    by_cases d : Sha.sha [l].flatten = H.sum
    · have HR : Hid (wholeB H l = true) := by show _ = _; unfold wholeB; rw [decide_eq_true c]; simpa using d
      have HD := Lib.hid d
      clear c d
      go_wp2_with (first
      | ((with_reducible refine at_d 1 ?_); go_loud (refine wl_box rfl rfl rfl (by first | rfl | exact row_one _) hst ?_; clear hst; intro b1 w1 hb1 hst)))
      refine rg_start (St w0 [] [(b1, blk 126 (pF H (.slice tad H.toks.length tcap) (.slice bad l.length bcap)) 37)]) mixed (hst.drew) ?_
      refine rg_take [0, 1, 2, 3, 4, 5, 6, 7, 8, 9, 12, 13, 14] 5 _ rfl (by kernel_rfl) (by kernel_rfl) rfl (cls_st _ _ _) (fun _ _ _ _ _ h => h) ?_
      refine tk_fld (r := 125) fld37_1 rfl rfl rfl rfl rfl (hk := ?_)
      refine tk_load1 rfl rfl (by rfl) rfl (hs := sc35) (hk := ?_)
      refine tk_wp (hk := ?_)
      refine tk_fld (r := 0) fld37_0 rfl rfl rfl rfl rfl (hk := ?_)
      refine tk_fld (r := 92) fld34_10 rfl rfl rfl rfl rfl (hk := ?_)
      refine tk_load1 rfl rfl (by rfl) rfl (hs := sc3) (hk := ?_)
      refine tk_cmp (b := .eql) (p := (l.length : Int)) (q := H.size) (by first | exact decide_eq_true (by omega) | exact decide_eq_false (by omega)) rfl rfl rfl rfl rfl rfl (hk := ?_)
      refine tk_wp (hk := ?_)
      first | (refine tk_skip rfl (by rfl) (hk := ?_)) | (refine tk_fld (r := 125) fld37_1 rfl rfl rfl rfl rfl (hk := ?_))
      first | (refine tk_skip rfl (by rfl) (hk := ?_)) | (refine tk_load1 rfl rfl (by rfl) rfl (hs := sc35) (hk := ?_))
      first | (refine tk_skip rfl (by rfl) (hk := ?_)) | (refine tk_fld (r := 0) fld37_0 rfl rfl rfl rfl rfl (hk := ?_))
      first | (refine tk_skip rfl (by rfl) (hk := ?_)) | (refine tk_fld (r := 60) fld34_9 rfl rfl rfl rfl rfl (hk := ?_))
      first | (refine tk_skip rfl (by rfl) (hk := ?_)) | (refine tk_loadP rfl rfl (by rfl) rfl (hs := agg28) (hv := pF_sum _ _ _) (hk := ?_))
      refine tk_nil ?_
      refine rg_st (i := 10) (n := 4) (by kernel_rfl) rfl rfl rfl (fun w' hst => wo_buildSlice1 (v := .slice bad l.length bcap) rfl elt69 (by decide) rfl (row_one _) hst (fun b13 w13 hb13 hst13 => ⟨[(b13, _)], hst13, ?_⟩))
      simp only [put_lit, setL]
      refine rg_take [11, 15, 16, 17] 0 _ rfl (by kernel_rfl) (by kernel_rfl) rfl (cls_st _ _ _) (fun _ _ _ _ _ h => h) ?_
      first | (refine tk_skip rfl (by rfl) (hk := ?_)) | (refine tk_call pl25 rfl rfl (by rfl) rfl (fun w hst => sum_any _ [l] w (bss_one (hst.hasb Pick.head) (HB.out _ _ hst)) (by simp) (by simpa using HLL.out) HLT.out (hK.keep hst.none)) (fun w u w' hR => (by obtain ⟨rfl, hs'⟩ := hR; exact ⟨rfl, hs'.below⟩)) (hk := ?_))
      first | (refine tk_skip rfl (by rfl) (hk := ?_)) | (refine tk_eqB rfl rfl rfl eqb28 rfl rfl (sha_len _) hok.sum.1 (sha_lt _) hok.sum.2 (decide_eq_true HD.out) (hk := ?_))
      refine tk_wp (hk := ?_)
      refine tk_wp (hk := ?_)
      refine tk_nil ?_
      refine rg_done (by kernel_rfl) (fun w1 hst1 => ?_) _
      clear hst; have hst := hst1; clear hst1
      go_wp2_with fail
      go_ret
      exact ⟨_, rfl, by rw [HR.out]; rfl, hst.none⟩
    · have HR : Hid (wholeB H l = false) := by show _ = _; unfold wholeB; rw [decide_eq_true c]; simpa using d
      have HD := Lib.hid d
      clear c d
      go_wp2_with (first
      | ((with_reducible refine at_d 1 ?_); go_loud (refine wl_box rfl rfl rfl (by first | rfl | exact row_one _) hst ?_; clear hst; intro b1 w1 hb1 hst)))
      refine rg_start (St w0 [] [(b1, blk 126 (pF H (.slice tad H.toks.length tcap) (.slice bad l.length bcap)) 37)]) mixed (hst.drew) ?_
      refine rg_take [0, 1, 2, 3, 4, 5, 6, 7, 8, 9, 12, 13, 14] 5 _ rfl (by kernel_rfl) (by kernel_rfl) rfl (cls_st _ _ _) (fun _ _ _ _ _ h => h) ?_
      refine tk_fld (r := 125) fld37_1 rfl rfl rfl rfl rfl (hk := ?_)
      refine tk_load1 rfl rfl (by rfl) rfl (hs := sc35) (hk := ?_)
      refine tk_wp (hk := ?_)
      refine tk_fld (r := 0) fld37_0 rfl rfl rfl rfl rfl (hk := ?_)
      refine tk_fld (r := 92) fld34_10 rfl rfl rfl rfl rfl (hk := ?_)
      refine tk_load1 rfl rfl (by rfl) rfl (hs := sc3) (hk := ?_)
      refine tk_cmp (b := .eql) (p := (l.length : Int)) (q := H.size) (by first | exact decide_eq_true (by omega) | exact decide_eq_false (by omega)) rfl rfl rfl rfl rfl rfl (hk := ?_)
      refine tk_wp (hk := ?_)
      first | (refine tk_skip rfl (by rfl) (hk := ?_)) | (refine tk_fld (r := 125) fld37_1 rfl rfl rfl rfl rfl (hk := ?_))
      first | (refine tk_skip rfl (by rfl) (hk := ?_)) | (refine tk_load1 rfl rfl (by rfl) rfl (hs := sc35) (hk := ?_))
      first | (refine tk_skip rfl (by rfl) (hk := ?_)) | (refine tk_fld (r := 0) fld37_0 rfl rfl rfl rfl rfl (hk := ?_))
      first | (refine tk_skip rfl (by rfl) (hk := ?_)) | (refine tk_fld (r := 60) fld34_9 rfl rfl rfl rfl rfl (hk := ?_))
      first | (refine tk_skip rfl (by rfl) (hk := ?_)) | (refine tk_loadP rfl rfl (by rfl) rfl (hs := agg28) (hv := pF_sum _ _ _) (hk := ?_))
      refine tk_nil ?_
      refine rg_st (i := 10) (n := 4) (by kernel_rfl) rfl rfl rfl (fun w' hst => wo_buildSlice1 (v := .slice bad l.length bcap) rfl elt69 (by decide) rfl (row_one _) hst (fun b13 w13 hb13 hst13 => ⟨[(b13, _)], hst13, ?_⟩))
      simp only [put_lit, setL]
      refine rg_take [11, 15, 16, 17] 0 _ rfl (by kernel_rfl) (by kernel_rfl) rfl (cls_st _ _ _) (fun _ _ _ _ _ h => h) ?_
      first | (refine tk_skip rfl (by rfl) (hk := ?_)) | (refine tk_call pl25 rfl rfl (by rfl) rfl (fun w hst => sum_any _ [l] w (bss_one (hst.hasb Pick.head) (HB.out _ _ hst)) (by simp) (by simpa using HLL.out) HLT.out (hK.keep hst.none)) (fun w u w' hR => (by obtain ⟨rfl, hs'⟩ := hR; exact ⟨rfl, hs'.below⟩)) (hk := ?_))
      first | (refine tk_skip rfl (by rfl) (hk := ?_)) | (refine tk_eqB rfl rfl rfl eqb28 rfl rfl (sha_len _) hok.sum.1 (sha_lt _) hok.sum.2 (decide_eq_false HD.out) (hk := ?_))
      refine tk_wp (hk := ?_)
      refine tk_wp (hk := ?_)
      refine tk_nil ?_
      refine rg_done (by kernel_rfl) (fun w1 hst1 => ?_) _
      clear hst; have hst := hst1; clear hst1
      go_wp2_with fail
      go_ret
      exact ⟨_, rfl, by rw [HR.out]; rfl, hst.none⟩
  · have HR : Hid (wholeB H l = false) := by show _ = _; unfold wholeB; rw [decide_eq_false c]; simp
    have c1 : (l.length : Int) < H.size ∨ H.size < (l.length : Int) := by omega
    clear c
    go_wp2_with (first
      | ((with_reducible refine at_d 1 ?_); go_loud (refine wl_box rfl rfl rfl (by first | rfl | exact row_one _) hst ?_; clear hst; intro b1 w1 hb1 hst)))
    refine rg_start (St w0 [] [(b1, blk 126 (pF H (.slice tad H.toks.length tcap) (.slice bad l.length bcap)) 37)]) mixed (hst.drew) ?_
    refine rg_take [0, 1, 2, 3, 4, 5, 6, 7, 8, 9, 10, 11, 12, 13, 14, 15, 16, 17] 0 _ rfl (by kernel_rfl) (by kernel_rfl) rfl (cls_st _ _ _) (fun _ _ _ _ _ h => h) ?_
    refine tk_fld (r := 125) fld37_1 rfl rfl rfl rfl rfl (hk := ?_)
    refine tk_load1 rfl rfl (by rfl) rfl (hs := sc35) (hk := ?_)
    refine tk_wp (hk := ?_)
    refine tk_fld (r := 0) fld37_0 rfl rfl rfl rfl rfl (hk := ?_)
    refine tk_fld (r := 92) fld34_10 rfl rfl rfl rfl rfl (hk := ?_)
    refine tk_load1 rfl rfl (by rfl) rfl (hs := sc3) (hk := ?_)
    refine tk_cmp (b := .eql) (p := (l.length : Int)) (q := H.size) (by first | exact decide_eq_true (by omega) | exact decide_eq_false (by omega)) rfl rfl rfl rfl rfl rfl (hk := ?_)
    refine tk_wp (hk := ?_)
    refine tk_skip rfl (by rfl) (hk := ?_)
    refine tk_skip rfl (by rfl) (hk := ?_)
    refine tk_skip rfl (by rfl) (hk := ?_)
    refine tk_skip rfl (by rfl) (hk := ?_)
    refine tk_skip rfl (by rfl) (hk := ?_)
    refine tk_skip rfl (by rfl) (hk := ?_)
    refine tk_skip rfl (by rfl) (hk := ?_)
    refine tk_skip rfl (by rfl) (hk := ?_)
    refine tk_wp (hk := ?_)
    refine tk_wp (hk := ?_)
    refine tk_nil ?_
    refine rg_done (by kernel_rfl) (fun w1 hst1 => ?_) _
    clear hst; have hst := hst1; clear hst1
    go_wp2_with fail
    go_ret
    exact ⟨_, rfl, by rw [HR.out]; rfl, hst.none⟩
end Go.Proofs.YthbobmpeaemdnaaDoor
