/- The walks of keys.compare, keys.Sorted, pad.Bucket, pad.Is. -/
import Derived.Test.YthbobmpeaemdnaaDoorHBase
namespace Go.Proofs.YthbobmpeaemdnaaDoor
open Go.RowKit Go.Jal

theorem compare_lex : ∀ (a b : List Nat), a.length = b.length → (∀ x ∈ a, x < 256) → (∀ x ∈ b, x < 256) → decide (Lib.compareBytes (toU a) (toU b) < 0) = lexLt a b
  | [], [], _, _, _ => rfl
  | x :: a, y :: b, hl, ha, hb => by
    have hx := ha x (List.mem_cons_self ..)
    have hy := hb y (List.mem_cons_self ..)
    have ih := compare_lex a b (by simpa using hl) (fun z hz => ha z (List.mem_cons_of_mem _ hz)) (fun z hz => hb z (List.mem_cons_of_mem _ hz))
    have e1 : (UInt8.ofNat x < UInt8.ofNat y) ↔ x < y := by
      rw [UInt8.lt_iff_toNat_lt, UInt8.toNat_ofNat', UInt8.toNat_ofNat', Nat.mod_eq_of_lt hx, Nat.mod_eq_of_lt hy]
    have e2 : (UInt8.ofNat y < UInt8.ofNat x) ↔ y < x := by
      rw [UInt8.lt_iff_toNat_lt, UInt8.toNat_ofNat', UInt8.toNat_ofNat', Nat.mod_eq_of_lt hx, Nat.mod_eq_of_lt hy]
    show decide ((if UInt8.ofNat x < UInt8.ofNat y then (-1 : Int) else if UInt8.ofNat y < UInt8.ofNat x then 1 else Lib.compareBytes (toU a) (toU b)) < 0) = (if x = y then lexLt a b else decide (x < y))
    simp only [e1, e2]
    by_cases c1 : x < y
    · rw [if_pos c1, if_neg (by omega)]; simp [c1]
    · rw [if_neg c1]
      by_cases c2 : y < x
      · rw [if_pos c2, if_neg (by omega)]; simp; omega
      · rw [if_neg c2, if_pos (by omega)]; exact ih
set_option maxRecDepth 100000 in
theorem bcompare_any (v v' : Value) (l l' : List Nat) (w : World) (h : Bs w v l) (h' : Bs w v' l') :
    Ret Tryd.prog 86 #[v, v'] w fun u w' => u = .int .i64 (Lib.compareBytes (toU l) (toU l')) ∧ w = w' := by
  go_enter Tryd.func86, Tryd.ntmps86
  go_wp2
  rw [run_callFunc_extern Tryd.func87 (by kernel_rfl) (by kernel_rfl) (by kernel_rfl) (e := Extern.BytealgCompare.compare) (by kernel_rfl), run_compare h h']
  simp only [Result.andThen]
  rw [Oper.upon_value]
  go_wp2
  go_ret
  exact ⟨_, rfl, rfl, rfl⟩
set_option maxRecDepth 100000 in
theorem compare_any (a b : List Nat) (w : World) (ha : isB 16 a) (hb : isB 16 b) :
    Ret Tryd.prog 81 #[.agg (row 16 (bF a)), .agg (row 16 (bF b))] w fun v' w' => (∃ z : Int, v' = .int .i64 z ∧ decide (z < 0) = lexLt a b) ∧ St w [] [] w' := by
  have hz := compare_lex a b (ha.1.trans hb.1.symm) ha.2 hb.2
  have HB : Hid (∀ (c : Nat) (l : List Nat) (L : List (Nat × Obj)) (w' : World), isB 16 l → St w [] L w' → (c, blk 16 (bF l) 30) ∈ L → Bs w' (.slice (some ⟨c, 0, none⟩) 16 16) l) := by
    show ∀ _, _
    intro c l L w' hl hst hm
    have := Bs.of_blk (cap := 16) (off := 0) (l := l) ⟨_, _, hst.own _ hm⟩ (by rw [hl.1]; omega) (fun j _ => by rw [Nat.zero_add]) hl.2 (by rw [hl.1]; omega) (by simp [maxLen])
    rwa [hl.1] at this
  go_enter Tryd.func81, Tryd.ntmps81
  have hst := St.refl w
  go_wp2_with (first
      | ((with_reducible refine at_d 2 ?_); go_loud (refine wl_box rfl rfl rfl (by first | rfl | exact row_one _) hst ?_; clear hst; intro b2 w2 hb2 hst))
      | ((with_reducible refine at_d 3 ?_); go_loud (refine wl_box rfl rfl rfl (by first | rfl | exact row_one _) hst ?_; clear hst; intro b3 w3 hb3 hst)))
  refine rg_start (St w [] [(b3, blk 16 (bF b) 30), (b2, blk 16 (bF a) 30)]) mixed (hst.drew) ?_
  refine rg_take [0, 1, 2, 3] 0 _ rfl (by kernel_rfl) (by kernel_rfl) rfl (cls_st _ _ _) (fun _ _ _ _ _ h => h) ?_
  refine tk_wp (hk := ?_)
  refine tk_wp (hk := ?_)
  refine tk_call pl86 rfl rfl (by rfl) rfl (fun w hst => bcompare_any _ _ a b w (HB.out b2 a _ w ha hst (by simp)) (HB.out b3 b _ w hb hst (by simp))) (fun w u w' hR => (by obtain ⟨rfl, rfl⟩ := hR; exact ⟨rfl, Below.refl _ _⟩)) (hk := ?_)
  refine tk_wp (hk := ?_)
  refine tk_nil ?_
  refine rg_done (by kernel_rfl) (fun w1 hst1 => ?_) _
  clear hst; have hst := hst1; clear hst1
  go_wp2_with fail
  go_ret
  exact ⟨_, rfl, ⟨_, rfl, hz⟩, hst.none⟩
/-- the first k of a list rise -/
def upTo (ts : List (List Nat)) (k : Nat) : Prop := ∀ j, j + 1 < k → lexLt (ts.getD j []) (ts.getD (j + 1) []) = true
theorem rising_iff : ∀ ts : List (List Nat), rising ts = true ↔ upTo ts ts.length
  | [] => ⟨fun _ j h => by simp at h, fun _ => rfl⟩
  | [a] => ⟨fun _ j h => by simp at h, fun _ => rfl⟩
  | a :: b :: r => by
    have ih := rising_iff (b :: r)
    simp only [rising, Bool.and_eq_true]
    constructor
    · rintro ⟨h1, h2⟩ j hj
      cases j with
      | zero => simpa using h1
      | succ j => simpa using ih.1 h2 j (by simp at hj ⊢; omega)
    · intro h
      refine ⟨by simpa using h 0 (by simp), ih.2 fun j hj => ?_⟩
      simpa using h (j + 1) (by simp at hj ⊢; omega)
theorem rising_no {ts : List (List Nat)} {k : Nat} (hk : k + 1 < ts.length) (h : lexLt (ts.getD k []) (ts.getD (k + 1) []) = false) : rising ts = false := by
  cases q : rising ts with
  | false => rfl
  | true => rw [(rising_iff ts).1 q k hk] at h; cases h
/-- a token in the middle of a list of them -/
theorem tok_cells {ts : List (List Nat)} (h : ∀ t ∈ ts, isB 16 t) {k : Nat} (hk : k < ts.length) {f : Nat → Value} {off : Nat} (hf : ∀ j, j < 16 * ts.length → f (off + j) = bF ts.flatten j) : ∀ j, j < 16 → f (off + 16 * k + j) = bF (ts.getD k []) j := by
  have key : ∀ (ts : List (List Nat)), (∀ t ∈ ts, isB 16 t) → ∀ k, k < ts.length → ∀ j, j < 16 → ts.flatten.getD (16 * k + j) 0 = (ts.getD k []).getD j 0 := by
    intro ts
    induction ts with
    | nil => intro _ k hk; simp at hk
    | cons t ts ih =>
      intro h k hk j hj
      have ht := (h t (List.mem_cons_self ..)).1
      rw [List.flatten_cons]
      simp only [List.getD_eq_getElem?_getD]
      cases k with
      | zero => rw [List.getElem?_append_left (by omega)]; simp
      | succ k =>
        rw [List.getElem?_append_right (by omega), ht]
        have := ih (fun t ht => h t (List.mem_cons_of_mem _ ht)) k (by simpa using hk) j hj
        simp only [List.getD_eq_getElem?_getD] at this
        rw [show 16 * (k + 1) + j - 16 = 16 * k + j by omega, this]
        simp
  intro j hj
  rw [Nat.add_assoc, hf _ (by omega)]
  unfold bF
  rw [key ts h k hk j hj]
set_option maxRecDepth 100000 in
theorem sorted_any (v : Value) (ts : List (List Nat)) (w : World) (h : Toks w v ts) : Ret Tryd.prog 65 #[v] w fun v' w' => v' = .bool (rising ts) ∧ St w [] [] w' := by
  obtain ⟨ad, c, rfl, hcap, hcm, h16, hnil, hc⟩ := h
  unfold maxLen at hcm
  have H16 := Lib.hid h16
  go_enter Tryd.func65, Tryd.ntmps65
  have hst := St.refl w
  go_wp2_with fail
  go_loopw [3] (fun i wr => ∃ k : Nat, 1 ≤ k ∧ (k = 1 ∨ k ≤ ts.length) ∧ i = .int .i64 (k : Int) ∧ upTo ts k ∧ St w [] [] wr) (fun i _ => ts.length - (intOf i).toNat)
  case atStart => exact ⟨1, by omega, .inl rfl, rfl, fun j hj => by omega, hst⟩
  case round =>
    clear hst
    obtain ⟨k, hk1, hk2, rfl, hup, hst⟩ := hrel
    by_cases hkl : k < ts.length
    · obtain ⟨b, off, N, f, rfl, hH, hN, hf⟩ := hc (by intro e; subst e; simp at hkl)
      obtain ⟨m, rfl⟩ : ∃ m, k = m + 1 := ⟨k - 1, by omega⟩
      have HA := Lib.hid (tok_cells h16 (show m < ts.length by omega) hf)
      have HB := Lib.hid (tok_cells h16 hkl hf)
      have ia : isB 16 (ts.getD m []) := by rw [List.getD_eq_getElem?_getD, List.getElem?_eq_getElem (by omega)]; exact h16 _ (List.getElem_mem _)
      have ib : isB 16 (ts.getD (m + 1) []) := by rw [List.getD_eq_getElem?_getD, List.getElem?_eq_getElem hkl]; exact h16 _ (List.getElem_mem _)
      obtain ⟨x, hx⟩ : ∃ x, x = ts.getD m [] := ⟨_, rfl⟩
      obtain ⟨y, hy⟩ : ∃ y, y = ts.getD (m + 1) [] := ⟨_, rfl⟩
      have HU : Hid (∀ j, j + 1 < m + 1 → lexLt (ts.getD j []) (ts.getD (j + 1) []) = true) := hup
      have HL : Hid (lexLt (ts.getD m []) (ts.getD (m + 1) []) = lexLt x y) := by show _ = _; rw [hx, hy]
      rw [← hx] at HA ia
      rw [← hy] at HB ib
      have IA := Lib.hid ia
      have IB := Lib.hid ib
      have em : (((m + 1 : Nat) : Int) - 1) = (m : Int) := by omega
      clear hx hy ia ib hup hf hc h16 hnil
      go_wp2_with (fail)
      refine rg_start (St w [] []) mixed (hst.drew) ?_
      refine rg_take [0, 1, 2, 3, 4, 5, 6, 7, 8] 2 _ rfl (by kernel_rfl) (by kernel_rfl) rfl (cls_st _ _ _) (fun _ _ _ _ _ h => h) ?_
      refine tk_wp (hk := ?_)
      refine tk_wp (hk := ?_)
      refine tk_ari (p := ((m + 1 : Nat) : Int)) (q := 1) (r := (m : Int)) (k := .i64) (by simp only [ariI] <;> omega) (by show _ ∧ _; omega) rfl rfl rfl rfl rfl rfl (hk := ?_)
      refine tk_idx (i := m) Tryd.underlying31 siz30 (by omega) rfl rfl rfl rfl rfl (hk := ?_)
      refine tk_loadP rfl rfl (by rfl) rfl (fun w hst => (by first | exact St.hasb hst (by repeat (first | exact Pick.head | apply Pick.tail)) | exact St.hasOld hst (by assumption) (by simp) | assumption)) agg30 (by omega) HA.out (hk := ?_)
      refine tk_wp (hk := ?_)
      refine tk_wp (hk := ?_)
      refine tk_idx (i := m + 1) Tryd.underlying31 siz30 (by omega) rfl rfl rfl rfl rfl (hk := ?_)
      refine tk_loadP rfl rfl (by rfl) rfl (fun w hst => (by first | exact St.hasb hst (by repeat (first | exact Pick.head | apply Pick.tail)) | exact St.hasOld hst (by assumption) (by simp) | assumption)) agg30 (by omega) HB.out (hk := ?_)
      refine tk_nil ?_
      refine rg_st (i := 9) (n := 1) (by kernel_rfl) rfl rfl rfl (fun w' hst => wo_call pl81 rfl rfl (compare_any x y _ IA.out IB.out) (fun v19 w19 hR19 => ?_))
      obtain ⟨⟨z, rfl, hz⟩, hst19⟩ := hR19
      refine ⟨[], hst.call hst19, ?_⟩
      refine rg_take [10] 0 _ rfl (by kernel_rfl) (by kernel_rfl) rfl (cls_st _ _ _) (fun _ _ _ _ _ h => h) ?_
      refine tk_cmp (p := z) (q := 0) (r := !lexLt x y) (by rw [← hz]; by_cases c : z < 0 <;> simp [cmpI, c] <;> omega) rfl rfl rfl rfl rfl rfl (hk := ?_)
      refine tk_nil ?_
      refine rg_done (by kernel_rfl) (fun w1 hst1 => ?_) _
      clear hst; have hst := hst1; clear hst1
      have hst2 := hst.none
      clear hst
      have hst := hst2
      clear hst2
      cases hxy : lexLt x y with
      | false =>
        have hno : rising ts = false := rising_no hkl (HL.out.trans hxy)
        have HNO := Lib.hid hno
        simp only [Bool.not_false]
        clear hno hxy
        go_wp2_with (fail)
        go_ret
        exact ⟨_, rfl, by rw [HNO.out]; rfl, hst.none⟩
      | true =>
        have HUP : Hid (upTo ts (m + 1 + 1)) := by
          show ∀ j, _
          intro j hj
          by_cases c : j + 1 < m + 1
          · exact HU.out j c
          · obtain rfl : j = m := by omega
            exact HL.out.trans hxy
        simp only [Bool.not_true]
        clear hxy
        go_wp2_with (fail)
        go_roundw
        case rel => exact ⟨m + 1 + 1, by omega, .inr (by omega), by go_num, HUP.out, hst.none⟩
        case measure => simp [intOf]; omega
    · have hr : rising ts = true := (rising_iff ts).2 fun j hj => hup j (by omega)
      have HR := Lib.hid hr
      clear hr hup
      go_wp2_with (fail)
      go_ret
      exact ⟨_, rfl, by rw [HR.out]; rfl, hst⟩
/-- the bucket of a length: its size, or none -/
def bucketOf (n : Int) : Int := if n < 64 then 64 else if n < 128 then 128 else if n < 256 then 256 else if n < 512 then 512 else if n < 1024 then 1024 else 2048
def BucketR (n : Int) (v' : Value) : Prop := ∃ x y : Int, v' = .tuple #[.int .i64 x, .int .i64 y] ∧ (y = 0 → n < 2048 ∧ 0 ≤ n ∧ x = bucketOf n) ∧ (0 ≤ n → n < 2048 → y = 0)
set_option maxRecDepth 100000 in
theorem bucket_any (n : Int) (w : World) : Ret Tryd.prog 82 #[.int .i64 n] w fun v' w' => BucketR n v' ∧ w = w' := by
  by_cases hneg : n < 0
  · go_enter Tryd.func82, Tryd.ntmps82
    go_wp2_with (first
      | ((with_reducible refine at_d 6 ?_); go_loud (refine wl_cmp (p := n) (q := 0) (r := true) (by simp [cmpI] <;> omega) rfl rfl rfl rfl rfl (hk := ?_))))
    go_ret2
    exact ⟨_, rfl, ⟨0, 1, rfl, (by intro h; omega), (by intro h; omega)⟩, rfl⟩
  · go_enter Tryd.func82, Tryd.ntmps82
    go_wp2_with (first
      | ((with_reducible refine at_d 6 ?_); go_loud (refine wl_cmp (p := n) (q := 0) (r := false) (by simp [cmpI] <;> omega) rfl rfl rfl rfl rfl (hk := ?_))))
    go_loop [7] (fun i => ∃ k : Nat, k ≤ 6 ∧ i = .int .i64 (k : Int) ∧ (k = 0 ∨ 32 * 2 ^ k ≤ n)) (fun i => 6 - (intOf i).toNat)
    case atStart => exact ⟨0, by omega, rfl, .inl rfl⟩
    case round =>
      obtain ⟨k, hk, rfl, hn⟩ := hrel
      obtain rfl | rfl | rfl | rfl | rfl | rfl | rfl : k = 0 ∨ k = 1 ∨ k = 2 ∨ k = 3 ∨ k = 4 ∨ k = 5 ∨ k = 6 := by omega
      · by_cases hlt : n < 64
        · go_wp2_with (first
      | ((with_reducible refine at_d 8 ?_); go_loud (refine wl_cmp (p := 0) (q := 6) (r := true) (by simp [cmpI] <;> omega) rfl rfl rfl rfl rfl (hk := ?_)))
      | ((with_reducible refine at_d 13 ?_); go_loud (refine wl_cmp (p := n) (q := 64) (r := true) (by simp [cmpI] <;> omega) rfl rfl rfl rfl rfl (hk := ?_))))
          go_ret2
          exact ⟨_, rfl, ⟨64, 0, rfl, (fun _ => ⟨by omega, by omega, by unfold bucketOf; repeat (first | rw [if_pos (by omega)] | rw [if_neg (by omega)])⟩), (fun _ _ => rfl)⟩, rfl⟩
        · go_wp2_with (first
      | ((with_reducible refine at_d 8 ?_); go_loud (refine wl_cmp (p := 0) (q := 6) (r := true) (by simp [cmpI] <;> omega) rfl rfl rfl rfl rfl (hk := ?_)))
      | ((with_reducible refine at_d 13 ?_); go_loud (refine wl_cmp (p := n) (q := 64) (r := false) (by simp [cmpI] <;> omega) rfl rfl rfl rfl rfl (hk := ?_))))
          go_round
          case rel => exact ⟨1, by omega, by first | rfl | go_num, by omega⟩
          case measure => simp [intOf]
      · by_cases hlt : n < 128
        · go_wp2_with (first
      | ((with_reducible refine at_d 8 ?_); go_loud (refine wl_cmp (p := 1) (q := 6) (r := true) (by simp [cmpI] <;> omega) rfl rfl rfl rfl rfl (hk := ?_)))
      | ((with_reducible refine at_d 13 ?_); go_loud (refine wl_cmp (p := n) (q := 128) (r := true) (by simp [cmpI] <;> omega) rfl rfl rfl rfl rfl (hk := ?_))))
          go_ret2
          exact ⟨_, rfl, ⟨128, 0, rfl, (fun _ => ⟨by omega, by omega, by unfold bucketOf; repeat (first | rw [if_pos (by omega)] | rw [if_neg (by omega)])⟩), (fun _ _ => rfl)⟩, rfl⟩
        · go_wp2_with (first
      | ((with_reducible refine at_d 8 ?_); go_loud (refine wl_cmp (p := 1) (q := 6) (r := true) (by simp [cmpI] <;> omega) rfl rfl rfl rfl rfl (hk := ?_)))
      | ((with_reducible refine at_d 13 ?_); go_loud (refine wl_cmp (p := n) (q := 128) (r := false) (by simp [cmpI] <;> omega) rfl rfl rfl rfl rfl (hk := ?_))))
          go_round
          case rel => exact ⟨2, by omega, by first | rfl | go_num, by omega⟩
          case measure => simp [intOf]
      · by_cases hlt : n < 256
        · go_wp2_with (first
      | ((with_reducible refine at_d 8 ?_); go_loud (refine wl_cmp (p := 2) (q := 6) (r := true) (by simp [cmpI] <;> omega) rfl rfl rfl rfl rfl (hk := ?_)))
      | ((with_reducible refine at_d 13 ?_); go_loud (refine wl_cmp (p := n) (q := 256) (r := true) (by simp [cmpI] <;> omega) rfl rfl rfl rfl rfl (hk := ?_))))
          go_ret2
          exact ⟨_, rfl, ⟨256, 0, rfl, (fun _ => ⟨by omega, by omega, by unfold bucketOf; repeat (first | rw [if_pos (by omega)] | rw [if_neg (by omega)])⟩), (fun _ _ => rfl)⟩, rfl⟩
        · go_wp2_with (first
      | ((with_reducible refine at_d 8 ?_); go_loud (refine wl_cmp (p := 2) (q := 6) (r := true) (by simp [cmpI] <;> omega) rfl rfl rfl rfl rfl (hk := ?_)))
      | ((with_reducible refine at_d 13 ?_); go_loud (refine wl_cmp (p := n) (q := 256) (r := false) (by simp [cmpI] <;> omega) rfl rfl rfl rfl rfl (hk := ?_))))
          go_round
          case rel => exact ⟨3, by omega, by first | rfl | go_num, by omega⟩
          case measure => simp [intOf]
      · by_cases hlt : n < 512
        · go_wp2_with (first
      | ((with_reducible refine at_d 8 ?_); go_loud (refine wl_cmp (p := 3) (q := 6) (r := true) (by simp [cmpI] <;> omega) rfl rfl rfl rfl rfl (hk := ?_)))
      | ((with_reducible refine at_d 13 ?_); go_loud (refine wl_cmp (p := n) (q := 512) (r := true) (by simp [cmpI] <;> omega) rfl rfl rfl rfl rfl (hk := ?_))))
          go_ret2
          exact ⟨_, rfl, ⟨512, 0, rfl, (fun _ => ⟨by omega, by omega, by unfold bucketOf; repeat (first | rw [if_pos (by omega)] | rw [if_neg (by omega)])⟩), (fun _ _ => rfl)⟩, rfl⟩
        · go_wp2_with (first
      | ((with_reducible refine at_d 8 ?_); go_loud (refine wl_cmp (p := 3) (q := 6) (r := true) (by simp [cmpI] <;> omega) rfl rfl rfl rfl rfl (hk := ?_)))
      | ((with_reducible refine at_d 13 ?_); go_loud (refine wl_cmp (p := n) (q := 512) (r := false) (by simp [cmpI] <;> omega) rfl rfl rfl rfl rfl (hk := ?_))))
          go_round
          case rel => exact ⟨4, by omega, by first | rfl | go_num, by omega⟩
          case measure => simp [intOf]
      · by_cases hlt : n < 1024
        · go_wp2_with (first
      | ((with_reducible refine at_d 8 ?_); go_loud (refine wl_cmp (p := 4) (q := 6) (r := true) (by simp [cmpI] <;> omega) rfl rfl rfl rfl rfl (hk := ?_)))
      | ((with_reducible refine at_d 13 ?_); go_loud (refine wl_cmp (p := n) (q := 1024) (r := true) (by simp [cmpI] <;> omega) rfl rfl rfl rfl rfl (hk := ?_))))
          go_ret2
          exact ⟨_, rfl, ⟨1024, 0, rfl, (fun _ => ⟨by omega, by omega, by unfold bucketOf; repeat (first | rw [if_pos (by omega)] | rw [if_neg (by omega)])⟩), (fun _ _ => rfl)⟩, rfl⟩
        · go_wp2_with (first
      | ((with_reducible refine at_d 8 ?_); go_loud (refine wl_cmp (p := 4) (q := 6) (r := true) (by simp [cmpI] <;> omega) rfl rfl rfl rfl rfl (hk := ?_)))
      | ((with_reducible refine at_d 13 ?_); go_loud (refine wl_cmp (p := n) (q := 1024) (r := false) (by simp [cmpI] <;> omega) rfl rfl rfl rfl rfl (hk := ?_))))
          go_round
          case rel => exact ⟨5, by omega, by first | rfl | go_num, by omega⟩
          case measure => simp [intOf]
      · by_cases hlt : n < 2048
        · go_wp2_with (first
      | ((with_reducible refine at_d 8 ?_); go_loud (refine wl_cmp (p := 5) (q := 6) (r := true) (by simp [cmpI] <;> omega) rfl rfl rfl rfl rfl (hk := ?_)))
      | ((with_reducible refine at_d 13 ?_); go_loud (refine wl_cmp (p := n) (q := 2048) (r := true) (by simp [cmpI] <;> omega) rfl rfl rfl rfl rfl (hk := ?_))))
          go_ret2
          exact ⟨_, rfl, ⟨2048, 0, rfl, (fun _ => ⟨by omega, by omega, by unfold bucketOf; repeat (first | rw [if_pos (by omega)] | rw [if_neg (by omega)])⟩), (fun _ _ => rfl)⟩, rfl⟩
        · go_wp2_with (first
      | ((with_reducible refine at_d 8 ?_); go_loud (refine wl_cmp (p := 5) (q := 6) (r := true) (by simp [cmpI] <;> omega) rfl rfl rfl rfl rfl (hk := ?_)))
      | ((with_reducible refine at_d 13 ?_); go_loud (refine wl_cmp (p := n) (q := 2048) (r := false) (by simp [cmpI] <;> omega) rfl rfl rfl rfl rfl (hk := ?_))))
          go_round
          case rel => exact ⟨6, by omega, by first | rfl | go_num, by omega⟩
          case measure => simp [intOf]
      · go_wp2_with (first
      | ((with_reducible refine at_d 8 ?_); go_loud (refine wl_cmp (p := 6) (q := 6) (r := false) (by simp [cmpI] <;> omega) rfl rfl rfl rfl rfl (hk := ?_))))
        go_ret2
        exact ⟨_, rfl, ⟨0, 3, rfl, (by intro h; omega), (by intro _ h; omega)⟩, rfl⟩
theorem bucket_is {n x : Int} (h0 : 0 ≤ n - 1) (h : n - 1 < 2048) (hx : x = bucketOf (n - 1)) : decide (x = n) = isBucket n := by
  have : x = n ↔ (n = 64 ∨ n = 128 ∨ n = 256 ∨ n = 512 ∨ n = 1024 ∨ n = 2048) := by
    rw [hx]; unfold bucketOf
    split
    · omega
    split
    · omega
    split
    · omega
    split
    · omega
    split <;> omega
  unfold isBucket
  exact decide_eq_decide.2 this
set_option maxRecDepth 100000 in
theorem is_any (n : Int) (w : World) (h1 : -9223372036854775808 ≤ n) (h2 : n ≤ 9223372036854775807) : Ret Tryd.prog 66 #[.int .i64 n] w fun v' w' => v' = .bool (isBucket n) ∧ w = w' := by
  have HB : Hid (isBucket n = isBucket n) := rfl
  obtain ⟨z, hz⟩ : ∃ z, z = isBucket n := ⟨_, rfl⟩
  by_cases hin : 0 ≤ n - 1 ∧ n - 1 < 2048
  · obtain ⟨i1, i2⟩ := hin
    have hbi : ∀ x, x = bucketOf (n - 1) → decide (x = n) = z := fun x hx => hz.symm ▸ bucket_is i1 i2 hx
    have HBI := Lib.hid hbi
    have HZ := Lib.hid hz
    clear hz hbi
    go_enter Tryd.func66, Tryd.ntmps66
    go_wp2_with (first
      | go_skip
      | ((with_reducible refine at_d 7 ?_); go_loud (refine wl_ari (p := n) (q := 1) (r := n - 1) (k := .i64) (by simp only [ariI] <;> omega) (by show _ ∧ _; omega) rfl rfl rfl rfl rfl (hk := ?_)))
      | ((with_reducible refine at_d 8 ?_); go_loud (refine wl_call pl82 rfl rfl rfl (bucket_any (n - 1) _) ?_; rintro v8 w8 ⟨⟨x, y, rfl, hy1, hy2⟩, rfl⟩; obtain rfl : y = 0 := hy2 i1 i2; have HX := Lib.hid (hy1 rfl).2.2; clear hy1 hy2))
      | ((with_reducible refine at_d 12 ?_); go_loud (refine wl_cmp (p := 0) (q := 0) (r := true) (by simp [cmpI] <;> omega) rfl rfl rfl rfl rfl (hk := ?_)))
      | ((with_reducible refine at_d 16 ?_); (refine wl_cmp (p := x) (q := n) (r := z) (show cmpI .eql x n = z from HBI.out x HX.out) rfl rfl rfl rfl rfl (hk := ?_))))
    go_ret
    exact ⟨_, rfl, by rw [← HZ.out]; rfl, rfl⟩
  · have hb : isBucket n = false := by unfold isBucket; rw [decide_eq_false]; omega
    rw [hb] at hz
    have HB2 := Lib.hid hb
    clear hb hz
    go_enter Tryd.func66, Tryd.ntmps66
    obtain ⟨m, hm⟩ : ∃ m, m = IntKind.i64.wrap (n - 1) := ⟨_, rfl⟩
    have hmo : ¬ (0 ≤ m ∧ m < 2048) := by
      by_cases c : n = -9223372036854775808
      · rw [hm, wrap_i64_lo (by omega) (by omega)]; omega
      · rw [hm, wrap_in (k := .i64) (by show _ ∧ _; omega)]; exact hin
    have HM : Hid (IntKind.i64.wrap (n - 1) = m) := hm.symm
    clear hm hin
    go_wp2_with (first
      | go_skip
      | ((with_reducible refine at_d 7 ?_); go_loud (refine wl_ariW (p := n) (q := 1) (r := m) (show IntKind.i64.wrap (ariI .sub n 1) = m from HM.out) rfl rfl rfl rfl rfl (hk := ?_)))
      | ((with_reducible refine at_d 8 ?_); go_loud (refine wl_call pl82 rfl rfl rfl (bucket_any m _) ?_; rintro v8 w8 ⟨⟨x, y, rfl, hy1, hy2⟩, rfl⟩; have hy0 : y ≠ 0 := (by intro e; have := hy1 e; omega); clear hy1 hy2))
      | ((with_reducible refine at_d 12 ?_); go_loud (refine wl_cmp (p := y) (q := 0) (r := false) (by simp [cmpI] <;> omega) rfl rfl rfl rfl rfl (hk := ?_))))
    go_ret
    exact ⟨_, rfl, by rw [HB2.out]; rfl, rfl⟩
end Go.Proofs.YthbobmpeaemdnaaDoor
