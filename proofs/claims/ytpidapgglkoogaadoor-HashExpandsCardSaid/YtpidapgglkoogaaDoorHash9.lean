/- The walk of hash.Derive; of jalousieref01.Joined. -/
import Derived.Test.YtpidapgglkoogaaDoorHash8
import Derived.Test.YtpidapgglkoogaaDoorLibI
namespace Go.Proofs.YtpidapgglkoogaaDoor
open Go.RowKit Go.Jal

set_option maxRecDepth 100000 in
theorem derive_any (key info : List Nat) (w : World) (hk : key.length = 32) (hkl : ∀ x ∈ key, x < 256) (hil : ∀ x ∈ info, x < 256) (hl : info.length ≤ 10000000000) (hK : Has w 1 64 (wF Sha.K)) :
    Ret Tryd.prog 19 #[.agg (row 32 (bF key)), strL info] w fun v' w' => v' = .agg (row 32 (bF (Sha.expand key info 32))) ∧ St w [] [] w' := by
  go_enter Tryd.func19, Tryd.ntmps19
  have hst := St.refl w
  have hel : (Sha.expand key info 32).length = 32 := by
    rw [Sha.expand, List.length_take, expB_len]; decide
  obtain ⟨l, hle⟩ : ∃ l, l = Sha.expand key info 32 := ⟨_, rfl⟩
  have HLE := Lib.hid hle
  rw [← hle] at hel
  clear hle
  go_wp2_with (first
      | ((with_reducible refine at_op (o := ⟨some 2, _, _, _, _, _⟩) ?_); go_loud (refine wl_box rfl rfl rfl (by first | rfl | exact row_one _) hst ?_; intro b2 w2 hb2 hst1; clear hst; have hst := hst1; clear hst1))
      | ((with_reducible refine at_op (o := ⟨some 4, _, _, _, _, _⟩) ?_); go_loud (refine wl_alloc rfl rfl hst zer26 ?_; intro b4 w4 hb4 hst1; clear hst; have hst := hst1; clear hst1))
      | ((with_reducible refine at_op (o := ⟨some 8, _, _, _, _, _⟩) ?_); go_loud ((first | (refine wl_loadAll rfl rfl rfl (by first | exact St.hasb hst (by repeat (first | exact Pick.head | apply Pick.tail)) | exact St.hasOld hst (by assumption) (by simp)) agg26 (by (conv => lhs; simp only [put_lit, put_none, setL]) <;> rfl) ?_) | (refine wl_loadN rfl rfl rfl (by first | exact St.hasb hst (by repeat (first | exact Pick.head | apply Pick.tail)) | exact St.hasOld hst (by assumption) (by simp)) agg26 (by omega) (by (conv => lhs; simp only [put_lit, put_none, setL]) <;> rfl) ?_))))
      | ((with_reducible refine at_op (o := ⟨some 10, _, _, _, _, _⟩) ?_); go_loud (refine wl_s2b rfl rfl Tryd.underlying9 Tryd.underlying29 Tryd.underlying5 rfl hil (by unfold maxLen; omega) hst ?_; intro v10 w10 o10 b10 hb10 hst1 hB10; clear hst; have hst := hst1; clear hst1))
      | ((with_reducible refine at_op (o := ⟨some 11, _, _, _, _, _⟩) ?_); go_loud (refine wl_call pl18 rfl rfl rfl (expand_any key _ info 32 _ hk hkl hB10 hl (by decide) (hK.keep hst)) ?_; rintro v11 w11 ⟨v11', rfl, hB11, hst11⟩; replace hst := hst.call hst11; clear hst11; rw [← HLE.out] at hB11; obtain ⟨ao, cap, rfl, _, _, _, _, hc⟩ := hB11; obtain ⟨b', off, n', f, rfl, hH, hn', hf⟩ := hc (by intro e; rw [e] at hel; cases hel); rw [hel] at hn' hf ⊢; have HF := Lib.hid hf; clear hc hf))
      | ((with_reducible refine at_op (o := ⟨some 15, _, _, _, _, _⟩) ?_); go_loud (refine wl_arrayAt rfl rfl Tryd.underlying26 rfl (Nat.le_refl _) (by (conv => lhs; simp only [put_lit, put_none, setL]) <;> rfl) ?_))
      | ((with_reducible refine at_op (o := ⟨some 16, _, _, _, _, _⟩) ?_); go_loud (refine wl_loadN (b := b') (i := off) rfl rfl rfl hH agg26 hn' (by (conv => lhs; simp only [put_lit, put_none, setL]) <;> rfl) ?_))
      | ((with_reducible refine at_op (o := ⟨none, .store 26 (.tmp 4) (.tmp 16), _, _, _, _⟩) ?_); go_loud (refine wl_storeAll rfl rfl rfl rfl hst (by repeat (first | exact Pick.head | apply Pick.tail)) agg26 (by intro j hj; rw [HF.out j (by omega)]; rfl) (by (conv => lhs; simp only [put_lit, put_none, setL]) <;> rfl) ?_; intro w1 hst1; clear hst; have hst := hst1; clear hst1)))
  refine ret_cellN rfl rfl (St.hasb hst Pick.head) agg26 rfl ⟨_, rfl, ?_, hst.none⟩
  rw [← HLE.out]
  exact congrArg Value.agg (row_congr fun j hj => HF.out j hj)
end Go.Proofs.YtpidapgglkoogaaDoor
