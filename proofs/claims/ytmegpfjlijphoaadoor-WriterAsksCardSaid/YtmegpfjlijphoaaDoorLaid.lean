/- Laid tables of words: what the condition says of the heap. -/
import Derived.Test.YtmegpfjlijphoaaDoorHash6
import Derived.Test.YtmegpfjlijphoaaDoorRows
import Derived.ProofKit
import Derived.LaidMore
import Derived.OpenShut
import Derived.Stop.Joined
namespace Go.Proofs.YtmegpfjlijphoaaDoor
open Go.ChangeShapes Go.WideShapes Go.ChangeAt Go.WideMaps Go.WideElems Go.RowKit Go.Jal

theorem words_laid {H : Type} {enc : TypeId × Value → H} {P : Program} {W : World} {base : Nat} {spare : Nat → Bool} {held : Bool} {fuel t e n g : Nat} {name : String} {cs : Array Value} {ps : List MemPlace} {l : List Nat}
    (ht : P.underlying t = some (.array n e)) (he : P.underlying e = some (.int .u32)) (hce : P.cellsOf e = 1) (hct : P.cellsOf t = n) (hl : l.length = n)
    (hd : DataW.trod enc P W base spare held fuel t cs.toList = some (.agg (l.map fun (k : Nat) => DataW.lit (.int .u32 (k : Int))), ps)) (hg : P.globalNamed name = some g) (hv : W.var? P name = some cs) : Has W g n (wF l) := by
  obtain ⟨xs, m, _, hx, hlen, hn, hel⟩ := DataW.trod_array ht hd
  simp only [Prod.mk.injEq, DataW.agg.injEq] at hx
  have hh : ∃ T fr, W.heap[g]? = some (.cells cs T fr) := by
    simp only [World.var?, hg, Option.bind_some] at hv
    split at hv
    · rename_i c T fr hb
      cases hv
      exact ⟨T, fr, hb⟩
    · cases hv
  obtain ⟨T, fr, hh⟩ := hh
  refine ⟨T, fr, ?_⟩
  rw [hh]
  congr 2
  rw [hct] at hlen
  apply Array.ext
  · simpa using hlen
  · intro i h1 h2
    have hi : i < n := by simpa using h2
    have h3 := hel i hi
    rw [hce, Nat.mul_one] at h3
    rw [List.getElem?_eq_getElem (by omega)] at h3
    obtain ⟨k, e1, e2, _⟩ := DataW.trod_int he h3
    have e3 := congrArg (fun l => l[i]?) hx.1
    simp only [List.getElem?_map, List.getElem?_eq_getElem (show i < l.length by omega), List.getElem?_eq_getElem (show i < xs.length by omega), Option.map_some, Option.some.injEq] at e3
    have e4 := congrArg (fun l => l[0]?) e1
    simp only [List.getElem?_take_of_lt (show 0 < 1 by decide), List.getElem?_drop, Nat.add_zero, Array.getElem?_toList, Array.getElem?_eq_getElem h1] at e4
    rw [e2] at e3
    simp only [row, wF, List.getElem_toArray, List.getElem_map, List.getElem_range, List.getD_eq_getElem?_getD, List.getElem?_eq_getElem (show i < l.length by omega), Option.getD_some]
    simp at e3 e4
    rw [e4, e3]
theorem own : ownKnob Tryd.prog.godebug = none := by kernel_rfl
theorem gWords : Tryd.prog.globalNamed "jalousie/jalousieref01.words" = some 0 := by kernel_rfl
theorem gRounds : Tryd.prog.globalNamed "jalousie/hash.rounds" = some 1 := by kernel_rfl
theorem tWords : (Tryd.prog.globals[0]?).map (·.type) = some 69 := by kernel_rfl
theorem tRounds : (Tryd.prog.globals[1]?).map (·.type) = some 69 := by kernel_rfl
def laidK : List (String × DataW Unit) := [("jalousie/jalousieref01.words", Rows.laid_jalousie_jalousieref01_words), ("jalousie/hash.rounds", Rows.laid_jalousie_hash_rounds)]
theorem K_words : (Rows.laid_jalousie_jalousieref01_words : DataW Unit) = .agg (Sha.K.map fun (k : Nat) => DataW.lit (.int .u32 (k : Int))) := by kernel_rfl
theorem K_rounds : (Rows.laid_jalousie_hash_rounds : DataW Unit) = .agg (Sha.K.map fun (k : Nat) => DataW.lit (.int .u32 (k : Int))) := by kernel_rfl
theorem of_laid {W : World} (h : laidMetH Tryd.prog laidK W) : Has W 1 64 (wF Sha.K) ∧ Has W 0 64 (wF Sha.K) := by
  rw [MakeChecks.laidMetH_plain _ _ _ (by kernel_rfl)] at h
  obtain ⟨ps, ⟨g0, t0, cs0, f0, p0, q0, hg0, ht0, hv0, hd0, ⟨g1, t1, cs1, f1, p1, q1, hg1, ht1, hv1, hd1, _, _⟩, _⟩, _, _⟩ := h
  obtain rfl := Option.some.inj (gWords.symm.trans hg0)
  obtain rfl := Option.some.inj (gRounds.symm.trans hg1)
  obtain rfl := Option.some.inj (tWords.symm.trans ht0)
  obtain rfl := Option.some.inj (tRounds.symm.trans ht1)
  rw [K_words] at hd0
  rw [K_rounds] at hd1
  exact ⟨words_laid Tryd.underlying69 Tryd.underlying67 (by kernel_rfl) (by kernel_rfl) rfl hd1 hg1 hv1, words_laid Tryd.underlying69 Tryd.underlying67 (by kernel_rfl) (by kernel_rfl) rfl hd0 hg0 hv0⟩
/-- The door's own heap meets the condition. -/
theorem door_met (os : Os) (args : Array Value) : laidMetH Tryd.prog laidK ((World.doorLaid Tryd.prog 4000 os).forCall (fun _ _ => 0) ⟨#[], args, []⟩).memory :=
  laidMetH_of_parts3 (fuel := 8) (laidMet_of_run' 8 (by kernel_rfl) (by kernel_rfl)) (by kernel_rfl) (by kernel_rfl)
end Go.Proofs.YtmegpfjlijphoaaDoor
