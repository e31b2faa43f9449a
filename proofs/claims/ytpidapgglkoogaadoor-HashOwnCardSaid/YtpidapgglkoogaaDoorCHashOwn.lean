/- HashOwn: for every key, every text (a byte slice) that lies readable in memory, and the table of words laid as the program's text lays it, the law returns true and leaves what was handed in. The row, and its card, tied to the text. -/
import Derived.Test.YtpidapgglkoogaaDoorOpen2
import Derived.Test.YtpidapgglkoogaaDoorLaw7
namespace Go.Proofs.YtpidapgglkoogaaDoor
open Go.ChangeShapes Go.WideShapes Go.ChangeAt Go.WideMaps Go.WideElems Go.RowKit Go.Jal

set_option maxRecDepth 100000 in
theorem hashOwn_lifted (os : Os) (started : os.Started) (H : Type) (enc : TypeId × Value → H) :
    ReturnsInHanded {} Tryd.checked os 8 .any (fun w args => (Rows.hashOwnSpec.pre enc Tryd.prog Tryd.f8 [] false w args ∧ laidMetH Tryd.prog laidR w) ∧ sizedMet enc Tryd.prog Tryd.f8 (OpenSpec.ofChange Rows.hashOwnSpec) false w args)
      (Rows.hashOwnSpec.post enc Tryd.prog Tryd.f8 false true false false) := by
  refine returnsInHanded_of_change_and (C := Tryd.checked) (X := fun w _ => laidMetH Tryd.prog laidR w) (fun _ _ _ hh h => h.of_heap hh) own started (by kernel_rfl) Tryd.func8
    (ChangeSpec.witness_shaped (enc := enc) (C := Tryd.checked) (os := os) (X := fun w _ => laidMetH Tryd.prog laidR w) false (World.doorLaid Tryd.prog 4000 os) #[.agg (Array.replicate 32 (.int .u8 0)), .slice none 0 0] 8 rfl (World.shaped_of_RefB (by kernel_rfl) (by kernel_rfl)) (by kernel_rfl) (by kernel_rfl) (by kernel_rfl) (door_metR os _)) ?_
  intro W base args ds gs before hval0 hW _ _ hL _
  have hval : ∀ (j : Nat) t v, Tryd.f8.params[j]? = some t → args[j]? = some v → Value.okWide Tryd.prog W .any base t v := hval0
  have hW' := hW
  obtain ⟨p, q, hA0, hV, rfl, hfz, hnd⟩ := hW
  have hA : DataW.TrodAll enc Tryd.prog W 0 (fun _ => true) true Tryd.f8.params.toList args.toList ds p := hA0
  rw [Tryd.params8] at hA hval
  obtain ⟨v0, v1, d0, d1, p0, p1, rfl, rfl, rfl, k0, k1⟩ := trodAll_two hA
  obtain ⟨rfl, rfl⟩ := trodVars_none hV
  have lt0 : ∀ x ∈ p0, x.block < W.heap.size := by obtain ⟨m, hm⟩ := k0; exact DataW.trod_lt m _ _ _ hm
  have lt1 : ∀ x ∈ p1, x.block < W.heap.size := by obtain ⟨m, hm⟩ := k1; exact DataW.trod_lt m _ _ _ hm
  obtain ⟨l0, e0, hl0, hlt0⟩ := open_hash Tryd.underlying26 Tryd.underlying5 (by kernel_rfl) (by kernel_rfl) (hval 0 26 v0 rfl rfl) k0
  obtain ⟨l1, h1⟩ := open_bytes Tryd.underlying29 Tryd.underlying5 (by kernel_rfl) (hval 1 29 v1 rfl rfl) k1
  subst e0
  have hcall := hashOwn_any l0 v1 l1 W hl0 hlt0 h1 (of_laidR hL)
  clear hA0 hval0
  refine Calls.mono hcall ?_
  rintro e W' ⟨v', rfl, rfl, hst⟩
  have bel := hst.below
  exact ⟨_, rfl, _, _, _, [], _, [], hW', trodAll_mk1 (shut_bool Tryd.underlying4 _), trodAll_mk2 (Below.trod laidOut (by kernel_rfl) (of_decide_eq_true (by kernel_rfl)) k0 bel lt0) (Below.trod laidOut (by kernel_rfl) (of_decide_eq_true (by kernel_rfl)) k1 bel lt1), rfl, bel.frame _, fun h => by cases h⟩
theorem hashOwn_row : Rows.HashOwnSaid :=
  OpenClaim.holds_of_wide 8 Tryd.f8 rfl rfl rfl rfl rfl rfl rfl ⟨rfl, rfl, rfl, rfl, rfl⟩ rfl rfl rfl rfl rfl (by kernel_rfl) Tryd.func8 (by kernel_rfl)
    (of_decide_eq_true (by kernel_rfl)) (by unfold Func.isWrapper; first | (rw [if_pos (by decide +kernel)]; kernel_rfl) | (rw [if_neg (by decide +kernel)]; exact ⟨rfl, rfl⟩))
    (fun os started H enc _ => hashOwn_lifted os started H enc)
theorem hashOwn_card : Rows.HashOwnCardSaid :=
  Claim7.holds_tied_plain_at .later [] [.data] true (true, "f7d09343743579cd9a1c40f8a101b9d65b96419bbbeb9247d004186301314db2") false
    hashOwn_row (fun _ h => by cases h) (by kernel_rfl) (fun _ h => by cases h) hashOwn_row_tie rfl ⟨rfl, rfl⟩ (by kernel_rfl) rfl
    (fun f fn hf hfn => by
      obtain rfl : f = 8 := Option.some.inj ((show Tryd.prog.funcNamed "jalousie/jalousielaw01.HashOwn" = some 8 by kernel_rfl).symm.trans hf) |>.symm
      obtain rfl : fn = Tryd.f8 := (Option.some.inj (Tryd.func8.symm.trans hfn)).symm
      exact ⟨by kernel_rfl, fun j t ht => by
        rw [Tryd.params8] at ht
        have hall : ∀ t ∈ [26, 29], Tryd.prog.wantsStandIn t = false := by
          intro t ht
          simp only [List.mem_cons, List.not_mem_nil, or_false] at ht
          rcases ht with rfl | rfl <;> kernel_rfl
        exact hall t (by have := Array.mem_of_getElem? ht; simpa using this)⟩)
    (by kernel_rfl)
#print axioms hashOwn_card
end Go.Proofs.YtpidapgglkoogaaDoor
