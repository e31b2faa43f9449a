/- The walk of jalousieref12.Formed. -/
import Derived.Test.YtmegpfjlijphoaaDoorR3a
import Derived.Test.YtmegpfjlijphoaaDoorR3b
import Derived.Test.YtmegpfjlijphoaaDoorR3c
namespace Go.Proofs.YtmegpfjlijphoaaDoor
open Go.RowKit Go.Jal
theorem refformed_any (H : Hdr) (tok : Value) (w : World) (hok : H.Ok) (ht : Toks w tok H.toks) : Ret Tryd.prog 29 #[.agg (row 125 (hF H tok))] w fun v' w' => v' = .bool (formed H) ∧ St w [] [] w' := by
  by_cases hg : Good H
  · cases hr : rising H.toks with
    | false => exact refformed_bad H tok w hok ht fun _ => hr
    | true =>
      by_cases h1 : H.size < 80
      · exact refformed_part_a H tok w hok ht hg hr (.inl h1)
      by_cases h2 : 2064 < H.size
      · exact refformed_part_a H tok w hok ht hg hr (.inr h2)
      cases h3 : isBucket (H.size - 16) with
      | false => exact refformed_part_b H tok w hok ht hg hr ⟨h1, h2, h3⟩
      | true => exact refformed_part_c H tok w hok ht hg hr ⟨h1, h2, h3⟩
  · exact refformed_bad H tok w hok ht fun h => absurd h hg
end Go.Proofs.YtmegpfjlijphoaaDoor
