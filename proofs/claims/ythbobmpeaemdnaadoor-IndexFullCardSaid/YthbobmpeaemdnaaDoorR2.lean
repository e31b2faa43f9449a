/- The walk of jalousieref06.Bucket. -/
import Derived.Test.YthbobmpeaemdnaaDoorR1
namespace Go.Jal
open Go.RowKit
section
variable {P : Program} {ops : Array Oper} {Q : Exit → Act → World → Prop} {rest : List Oper} {o : Oper} {a a' : Act} {w : World}
structure BldZ (P : Program) (t n e bs : Nat) (zf : Nat → Value) : Prop where
  und : P.underlying t = some (.array n e)
  zer : Zer P t n zf
  siz : (P.info? e).map (fun i => (i.size, i.bytes)) = some (1, bs)
theorem wl_buildZ {t n e bs : Nat} {zf : Nat → Value} {ps : List (Nat × Operand)} {l : List Value} (ho : o.op = .build t ps.toArray) (hw : Region.wanted o (yielded ops a.tmps) = true) (hb : BldZ P t n e bs zf)
    (hp : ps.map (fun p => (p.1, a.eval p.2)) = numbered 0 l) (hl : l.length = n) (h1' : l.all Value.oneCell' = true) (ha : a.put o.dst (.agg (row n (lstF l))) = a' := by (conv => lhs; simp only [Go.Jal.put_lit, Go.Jal.put_none, Go.Jal.setL]) <;> rfl)
    (hk : wpList P ops Q rest a' w) : wpList P ops Q (o :: rest) a w := by
  have h1 : ∀ v ∈ l, v.oneCell' = true := by simpa using h1'
  have hq : (Instr.build t (numbered 0 l).toArray).run P w = .ok (.agg (row n (lstF l))) w := by
    obtain ⟨zv, hz1, hz2⟩ := run_zeroValue hb.zer w
    have hfill := fill_scal n l 0 zf (by omega) h1
    have e : row n (fun j => if 0 ≤ j ∧ j < 0 + l.length then l.getD (j - 0) undef else zf j) = row n (lstF l) := row_congr fun j hj => by
      rw [if_pos ⟨by omega, by omega⟩]; rfl
    rw [e] at hfill
    simp only [Nat.mul_one] at hfill
    simp [Instr.build, run_underlying hb.und, hz1, hz2, run_sizeOf hb.siz, hfill]
  refine BigFrame.wpList_want hw fun K hK => ?_
  unfold Oper.wp execOp
  simp only [ho, Sem.run_bind, List.map_toArray, hp, hq, Result.andThen_ok, Sem.run_pure]
  exact hK _ _ (ha ▸ hk)
end
end Go.Jal
namespace Go.Proofs.YthbobmpeaemdnaaDoor
open Go.RowKit Go.Jal
theorem bldz : BldZ Tryd.prog 135 6 3 8 (fun _ => .int .i64 0) := ⟨Tryd.underlying135, zer135, by kernel_rfl⟩
def bks : List Value := [.int .i64 64, .int .i64 128, .int .i64 256, .int .i64 512, .int .i64 1024, .int .i64 2048]
set_option maxRecDepth 100000 in
set_option maxHeartbeats 1000000 in
theorem refbucket_any (n : Int) (w : World) (h0 : 0 ≤ n) (h1 : n < 2048) : Ret Tryd.prog 74 #[.int .i64 n] w fun v' w' => v' = .int .i64 (bucketOf n) ∧ St w [] [] w' := by
  have HB : ∀ k : Nat, True := fun _ => trivial
  go_enter Tryd.func74, Tryd.ntmps74
  have hst := St.refl w
  go_wp2_with (first
      | ((with_reducible refine at_d 5 ?_); go_loud (refine wl_buildZ (l := bks) rfl rfl bldz rfl rfl rfl (hk := ?_)))
      | ((with_reducible refine at_d 3 ?_); go_loud (refine wl_alloc rfl rfl hst zer135 ?_; clear hst; intro b3 w3 hb3 hst))
      | ((with_reducible refine at_n (.store 135 (.tmp 3) (.tmp 5)) ?_); go_loud ((first | (refine wl_storeAll rfl rfl rfl rfl (hs := agg135) (hk := ?_)) | (refine wl_storeN rfl rfl rfl rfl (hs := agg135) (hk := ?_))); clear hst; intro w1 hst)))
  go_loopw [4] (fun i wr => ∃ k : Nat, k ≤ 6 ∧ i = .int .i64 (k : Int) ∧ (k = 0 ∨ 32 * 2 ^ k ≤ n) ∧ St w [] [(b3, blk 6 (lstF bks) 135)] wr) (fun i _ => 6 - (intOf i).toNat)
  case atStart => exact ⟨0, by omega, rfl, .inl rfl, hst⟩
  case round =>
    clear hst
    obtain ⟨k, hk, rfl, hn, hst⟩ := hrel
    obtain rfl | rfl | rfl | rfl | rfl | rfl | rfl : k = 0 ∨ k = 1 ∨ k = 2 ∨ k = 3 ∨ k = 4 ∨ k = 5 ∨ k = 6 := by omega
    · by_cases hlt : n < 64
      · go_wp2_with (first
      | ((with_reducible refine at_d 7 ?_); (refine wl_cmp (p := 0) (q := 6) (r := true) (by simp [cmpI] <;> omega) rfl rfl rfl rfl rfl (hk := ?_)))
      | ((with_reducible refine at_d 12 ?_); (refine wl_idxA (i := 0) Tryd.underlying135 sc3.size (by decide) rfl rfl rfl rfl (hk := ?_)))
      | ((with_reducible refine at_d 13 ?_); (refine wl_load1v rfl rfl rfl (by first | exact St.hasb hst (by repeat (first | exact Pick.head | apply Pick.tail)) | exact St.hasOld hst (by assumption) (by simp) | assumption) (show lstF bks (0 + 1 * 0) = Value.int .i64 64 from rfl) (by omega) sc3 (hk := ?_)))
      | ((with_reducible refine at_d 14 ?_); (refine wl_cmp (p := n) (q := 64) (r := true) (by simp [cmpI] <;> omega) rfl rfl rfl rfl rfl (hk := ?_)))
      | ((with_reducible refine at_d 16 ?_); (refine wl_idxA (i := 0) Tryd.underlying135 sc3.size (by decide) rfl rfl rfl rfl (hk := ?_)))
      | ((with_reducible refine at_d 17 ?_); (refine wl_load1v rfl rfl rfl (by first | exact St.hasb hst (by repeat (first | exact Pick.head | apply Pick.tail)) | exact St.hasOld hst (by assumption) (by simp) | assumption) (show lstF bks (0 + 1 * 0) = Value.int .i64 64 from rfl) (by omega) sc3 (hk := ?_))))
        go_ret
        exact ⟨_, rfl, by first | rfl | (show Value.int _ _ = _; congr 1; unfold bucketOf; repeat (first | rw [if_pos (by omega)] | rw [if_neg (by omega)])), hst.none⟩
      · go_wp2_with (first
      | ((with_reducible refine at_d 7 ?_); (refine wl_cmp (p := 0) (q := 6) (r := true) (by simp [cmpI] <;> omega) rfl rfl rfl rfl rfl (hk := ?_)))
      | ((with_reducible refine at_d 12 ?_); (refine wl_idxA (i := 0) Tryd.underlying135 sc3.size (by decide) rfl rfl rfl rfl (hk := ?_)))
      | ((with_reducible refine at_d 13 ?_); (refine wl_load1v rfl rfl rfl (by first | exact St.hasb hst (by repeat (first | exact Pick.head | apply Pick.tail)) | exact St.hasOld hst (by assumption) (by simp) | assumption) (show lstF bks (0 + 1 * 0) = Value.int .i64 64 from rfl) (by omega) sc3 (hk := ?_)))
      | ((with_reducible refine at_d 14 ?_); (refine wl_cmp (p := n) (q := 64) (r := false) (by simp [cmpI] <;> omega) rfl rfl rfl rfl rfl (hk := ?_))))
        go_roundw
        case rel => exact ⟨1, by omega, by first | rfl | go_num, by omega, hst⟩
        case measure => simp [intOf]
    · by_cases hlt : n < 128
      · go_wp2_with (first
      | ((with_reducible refine at_d 7 ?_); (refine wl_cmp (p := 1) (q := 6) (r := true) (by simp [cmpI] <;> omega) rfl rfl rfl rfl rfl (hk := ?_)))
      | ((with_reducible refine at_d 12 ?_); (refine wl_idxA (i := 1) Tryd.underlying135 sc3.size (by decide) rfl rfl rfl rfl (hk := ?_)))
      | ((with_reducible refine at_d 13 ?_); (refine wl_load1v rfl rfl rfl (by first | exact St.hasb hst (by repeat (first | exact Pick.head | apply Pick.tail)) | exact St.hasOld hst (by assumption) (by simp) | assumption) (show lstF bks (0 + 1 * 1) = Value.int .i64 128 from rfl) (by omega) sc3 (hk := ?_)))
      | ((with_reducible refine at_d 14 ?_); (refine wl_cmp (p := n) (q := 128) (r := true) (by simp [cmpI] <;> omega) rfl rfl rfl rfl rfl (hk := ?_)))
      | ((with_reducible refine at_d 16 ?_); (refine wl_idxA (i := 1) Tryd.underlying135 sc3.size (by decide) rfl rfl rfl rfl (hk := ?_)))
      | ((with_reducible refine at_d 17 ?_); (refine wl_load1v rfl rfl rfl (by first | exact St.hasb hst (by repeat (first | exact Pick.head | apply Pick.tail)) | exact St.hasOld hst (by assumption) (by simp) | assumption) (show lstF bks (0 + 1 * 1) = Value.int .i64 128 from rfl) (by omega) sc3 (hk := ?_))))
        go_ret
        exact ⟨_, rfl, by first | rfl | (show Value.int _ _ = _; congr 1; unfold bucketOf; repeat (first | rw [if_pos (by omega)] | rw [if_neg (by omega)])), hst.none⟩
      · go_wp2_with (first
      | ((with_reducible refine at_d 7 ?_); (refine wl_cmp (p := 1) (q := 6) (r := true) (by simp [cmpI] <;> omega) rfl rfl rfl rfl rfl (hk := ?_)))
      | ((with_reducible refine at_d 12 ?_); (refine wl_idxA (i := 1) Tryd.underlying135 sc3.size (by decide) rfl rfl rfl rfl (hk := ?_)))
      | ((with_reducible refine at_d 13 ?_); (refine wl_load1v rfl rfl rfl (by first | exact St.hasb hst (by repeat (first | exact Pick.head | apply Pick.tail)) | exact St.hasOld hst (by assumption) (by simp) | assumption) (show lstF bks (0 + 1 * 1) = Value.int .i64 128 from rfl) (by omega) sc3 (hk := ?_)))
      | ((with_reducible refine at_d 14 ?_); (refine wl_cmp (p := n) (q := 128) (r := false) (by simp [cmpI] <;> omega) rfl rfl rfl rfl rfl (hk := ?_))))
        go_roundw
        case rel => exact ⟨2, by omega, by first | rfl | go_num, by omega, hst⟩
        case measure => simp [intOf]
    · by_cases hlt : n < 256
      · go_wp2_with (first
      | ((with_reducible refine at_d 7 ?_); (refine wl_cmp (p := 2) (q := 6) (r := true) (by simp [cmpI] <;> omega) rfl rfl rfl rfl rfl (hk := ?_)))
      | ((with_reducible refine at_d 12 ?_); (refine wl_idxA (i := 2) Tryd.underlying135 sc3.size (by decide) rfl rfl rfl rfl (hk := ?_)))
      | ((with_reducible refine at_d 13 ?_); (refine wl_load1v rfl rfl rfl (by first | exact St.hasb hst (by repeat (first | exact Pick.head | apply Pick.tail)) | exact St.hasOld hst (by assumption) (by simp) | assumption) (show lstF bks (0 + 1 * 2) = Value.int .i64 256 from rfl) (by omega) sc3 (hk := ?_)))
      | ((with_reducible refine at_d 14 ?_); (refine wl_cmp (p := n) (q := 256) (r := true) (by simp [cmpI] <;> omega) rfl rfl rfl rfl rfl (hk := ?_)))
      | ((with_reducible refine at_d 16 ?_); (refine wl_idxA (i := 2) Tryd.underlying135 sc3.size (by decide) rfl rfl rfl rfl (hk := ?_)))
      | ((with_reducible refine at_d 17 ?_); (refine wl_load1v rfl rfl rfl (by first | exact St.hasb hst (by repeat (first | exact Pick.head | apply Pick.tail)) | exact St.hasOld hst (by assumption) (by simp) | assumption) (show lstF bks (0 + 1 * 2) = Value.int .i64 256 from rfl) (by omega) sc3 (hk := ?_))))
        go_ret
        exact ⟨_, rfl, by first | rfl | (show Value.int _ _ = _; congr 1; unfold bucketOf; repeat (first | rw [if_pos (by omega)] | rw [if_neg (by omega)])), hst.none⟩
      · go_wp2_with (first
      | ((with_reducible refine at_d 7 ?_); (refine wl_cmp (p := 2) (q := 6) (r := true) (by simp [cmpI] <;> omega) rfl rfl rfl rfl rfl (hk := ?_)))
      | ((with_reducible refine at_d 12 ?_); (refine wl_idxA (i := 2) Tryd.underlying135 sc3.size (by decide) rfl rfl rfl rfl (hk := ?_)))
      | ((with_reducible refine at_d 13 ?_); (refine wl_load1v rfl rfl rfl (by first | exact St.hasb hst (by repeat (first | exact Pick.head | apply Pick.tail)) | exact St.hasOld hst (by assumption) (by simp) | assumption) (show lstF bks (0 + 1 * 2) = Value.int .i64 256 from rfl) (by omega) sc3 (hk := ?_)))
      | ((with_reducible refine at_d 14 ?_); (refine wl_cmp (p := n) (q := 256) (r := false) (by simp [cmpI] <;> omega) rfl rfl rfl rfl rfl (hk := ?_))))
        go_roundw
        case rel => exact ⟨3, by omega, by first | rfl | go_num, by omega, hst⟩
        case measure => simp [intOf]
    · by_cases hlt : n < 512
      · go_wp2_with (first
      | ((with_reducible refine at_d 7 ?_); (refine wl_cmp (p := 3) (q := 6) (r := true) (by simp [cmpI] <;> omega) rfl rfl rfl rfl rfl (hk := ?_)))
      | ((with_reducible refine at_d 12 ?_); (refine wl_idxA (i := 3) Tryd.underlying135 sc3.size (by decide) rfl rfl rfl rfl (hk := ?_)))
      | ((with_reducible refine at_d 13 ?_); (refine wl_load1v rfl rfl rfl (by first | exact St.hasb hst (by repeat (first | exact Pick.head | apply Pick.tail)) | exact St.hasOld hst (by assumption) (by simp) | assumption) (show lstF bks (0 + 1 * 3) = Value.int .i64 512 from rfl) (by omega) sc3 (hk := ?_)))
      | ((with_reducible refine at_d 14 ?_); (refine wl_cmp (p := n) (q := 512) (r := true) (by simp [cmpI] <;> omega) rfl rfl rfl rfl rfl (hk := ?_)))
      | ((with_reducible refine at_d 16 ?_); (refine wl_idxA (i := 3) Tryd.underlying135 sc3.size (by decide) rfl rfl rfl rfl (hk := ?_)))
      | ((with_reducible refine at_d 17 ?_); (refine wl_load1v rfl rfl rfl (by first | exact St.hasb hst (by repeat (first | exact Pick.head | apply Pick.tail)) | exact St.hasOld hst (by assumption) (by simp) | assumption) (show lstF bks (0 + 1 * 3) = Value.int .i64 512 from rfl) (by omega) sc3 (hk := ?_))))
        go_ret
        exact ⟨_, rfl, by first | rfl | (show Value.int _ _ = _; congr 1; unfold bucketOf; repeat (first | rw [if_pos (by omega)] | rw [if_neg (by omega)])), hst.none⟩
      · go_wp2_with (first
      | ((with_reducible refine at_d 7 ?_); (refine wl_cmp (p := 3) (q := 6) (r := true) (by simp [cmpI] <;> omega) rfl rfl rfl rfl rfl (hk := ?_)))
      | ((with_reducible refine at_d 12 ?_); (refine wl_idxA (i := 3) Tryd.underlying135 sc3.size (by decide) rfl rfl rfl rfl (hk := ?_)))
      | ((with_reducible refine at_d 13 ?_); (refine wl_load1v rfl rfl rfl (by first | exact St.hasb hst (by repeat (first | exact Pick.head | apply Pick.tail)) | exact St.hasOld hst (by assumption) (by simp) | assumption) (show lstF bks (0 + 1 * 3) = Value.int .i64 512 from rfl) (by omega) sc3 (hk := ?_)))
      | ((with_reducible refine at_d 14 ?_); (refine wl_cmp (p := n) (q := 512) (r := false) (by simp [cmpI] <;> omega) rfl rfl rfl rfl rfl (hk := ?_))))
        go_roundw
        case rel => exact ⟨4, by omega, by first | rfl | go_num, by omega, hst⟩
        case measure => simp [intOf]
    · by_cases hlt : n < 1024
      · go_wp2_with (first
      | ((with_reducible refine at_d 7 ?_); (refine wl_cmp (p := 4) (q := 6) (r := true) (by simp [cmpI] <;> omega) rfl rfl rfl rfl rfl (hk := ?_)))
      | ((with_reducible refine at_d 12 ?_); (refine wl_idxA (i := 4) Tryd.underlying135 sc3.size (by decide) rfl rfl rfl rfl (hk := ?_)))
      | ((with_reducible refine at_d 13 ?_); (refine wl_load1v rfl rfl rfl (by first | exact St.hasb hst (by repeat (first | exact Pick.head | apply Pick.tail)) | exact St.hasOld hst (by assumption) (by simp) | assumption) (show lstF bks (0 + 1 * 4) = Value.int .i64 1024 from rfl) (by omega) sc3 (hk := ?_)))
      | ((with_reducible refine at_d 14 ?_); (refine wl_cmp (p := n) (q := 1024) (r := true) (by simp [cmpI] <;> omega) rfl rfl rfl rfl rfl (hk := ?_)))
      | ((with_reducible refine at_d 16 ?_); (refine wl_idxA (i := 4) Tryd.underlying135 sc3.size (by decide) rfl rfl rfl rfl (hk := ?_)))
      | ((with_reducible refine at_d 17 ?_); (refine wl_load1v rfl rfl rfl (by first | exact St.hasb hst (by repeat (first | exact Pick.head | apply Pick.tail)) | exact St.hasOld hst (by assumption) (by simp) | assumption) (show lstF bks (0 + 1 * 4) = Value.int .i64 1024 from rfl) (by omega) sc3 (hk := ?_))))
        go_ret
        exact ⟨_, rfl, by first | rfl | (show Value.int _ _ = _; congr 1; unfold bucketOf; repeat (first | rw [if_pos (by omega)] | rw [if_neg (by omega)])), hst.none⟩
      · go_wp2_with (first
      | ((with_reducible refine at_d 7 ?_); (refine wl_cmp (p := 4) (q := 6) (r := true) (by simp [cmpI] <;> omega) rfl rfl rfl rfl rfl (hk := ?_)))
      | ((with_reducible refine at_d 12 ?_); (refine wl_idxA (i := 4) Tryd.underlying135 sc3.size (by decide) rfl rfl rfl rfl (hk := ?_)))
      | ((with_reducible refine at_d 13 ?_); (refine wl_load1v rfl rfl rfl (by first | exact St.hasb hst (by repeat (first | exact Pick.head | apply Pick.tail)) | exact St.hasOld hst (by assumption) (by simp) | assumption) (show lstF bks (0 + 1 * 4) = Value.int .i64 1024 from rfl) (by omega) sc3 (hk := ?_)))
      | ((with_reducible refine at_d 14 ?_); (refine wl_cmp (p := n) (q := 1024) (r := false) (by simp [cmpI] <;> omega) rfl rfl rfl rfl rfl (hk := ?_))))
        go_roundw
        case rel => exact ⟨5, by omega, by first | rfl | go_num, by omega, hst⟩
        case measure => simp [intOf]
    · by_cases hlt : n < 2048
      · go_wp2_with (first
      | ((with_reducible refine at_d 7 ?_); (refine wl_cmp (p := 5) (q := 6) (r := true) (by simp [cmpI] <;> omega) rfl rfl rfl rfl rfl (hk := ?_)))
      | ((with_reducible refine at_d 12 ?_); (refine wl_idxA (i := 5) Tryd.underlying135 sc3.size (by decide) rfl rfl rfl rfl (hk := ?_)))
      | ((with_reducible refine at_d 13 ?_); (refine wl_load1v rfl rfl rfl (by first | exact St.hasb hst (by repeat (first | exact Pick.head | apply Pick.tail)) | exact St.hasOld hst (by assumption) (by simp) | assumption) (show lstF bks (0 + 1 * 5) = Value.int .i64 2048 from rfl) (by omega) sc3 (hk := ?_)))
      | ((with_reducible refine at_d 14 ?_); (refine wl_cmp (p := n) (q := 2048) (r := true) (by simp [cmpI] <;> omega) rfl rfl rfl rfl rfl (hk := ?_)))
      | ((with_reducible refine at_d 16 ?_); (refine wl_idxA (i := 5) Tryd.underlying135 sc3.size (by decide) rfl rfl rfl rfl (hk := ?_)))
      | ((with_reducible refine at_d 17 ?_); (refine wl_load1v rfl rfl rfl (by first | exact St.hasb hst (by repeat (first | exact Pick.head | apply Pick.tail)) | exact St.hasOld hst (by assumption) (by simp) | assumption) (show lstF bks (0 + 1 * 5) = Value.int .i64 2048 from rfl) (by omega) sc3 (hk := ?_))))
        go_ret
        exact ⟨_, rfl, by first | rfl | (show Value.int _ _ = _; congr 1; unfold bucketOf; repeat (first | rw [if_pos (by omega)] | rw [if_neg (by omega)])), hst.none⟩
      · go_wp2_with (first
      | ((with_reducible refine at_d 7 ?_); (refine wl_cmp (p := 5) (q := 6) (r := true) (by simp [cmpI] <;> omega) rfl rfl rfl rfl rfl (hk := ?_)))
      | ((with_reducible refine at_d 12 ?_); (refine wl_idxA (i := 5) Tryd.underlying135 sc3.size (by decide) rfl rfl rfl rfl (hk := ?_)))
      | ((with_reducible refine at_d 13 ?_); (refine wl_load1v rfl rfl rfl (by first | exact St.hasb hst (by repeat (first | exact Pick.head | apply Pick.tail)) | exact St.hasOld hst (by assumption) (by simp) | assumption) (show lstF bks (0 + 1 * 5) = Value.int .i64 2048 from rfl) (by omega) sc3 (hk := ?_)))
      | ((with_reducible refine at_d 14 ?_); (refine wl_cmp (p := n) (q := 2048) (r := false) (by simp [cmpI] <;> omega) rfl rfl rfl rfl rfl (hk := ?_))))
        go_roundw
        case rel => exact ⟨6, by omega, by first | rfl | go_num, by omega, hst⟩
        case measure => simp [intOf]
    · omega
end Go.Proofs.YthbobmpeaemdnaaDoor
