/- Facts of this program's tables. -/
import Derived.Test.YtmegpfjlijphoaaDoorProg
import Derived.Test.YtmegpfjlijphoaaDoorLibG
namespace Go.Proofs.YtmegpfjlijphoaaDoor
open Go.RowKit Go.Jal
theorem mixed : Tryd.prog.follows .mixedOrders = true := by kernel_rfl
theorem sc2 : Scal Tryd.prog 2 := ⟨_, Tryd.underlying2, rfl, by kernel_rfl⟩
theorem sc3 : Scal Tryd.prog 3 := ⟨_, Tryd.underlying3, rfl, by kernel_rfl⟩
theorem sc4 : Scal Tryd.prog 4 := ⟨_, Tryd.underlying4, rfl, by kernel_rfl⟩
theorem sc5 : Scal Tryd.prog 5 := ⟨_, Tryd.underlying5, rfl, by kernel_rfl⟩
theorem sc6 : Scal Tryd.prog 6 := ⟨_, Tryd.underlying6, rfl, by kernel_rfl⟩
theorem sc9 : Scal Tryd.prog 9 := ⟨_, Tryd.underlying9, rfl, by kernel_rfl⟩
theorem sc10 : Scal Tryd.prog 10 := ⟨_, Tryd.underlying10, rfl, by kernel_rfl⟩
theorem sc11 : Scal Tryd.prog 11 := ⟨_, Tryd.underlying11, rfl, by kernel_rfl⟩
theorem sc12 : Scal Tryd.prog 12 := ⟨_, Tryd.underlying12, rfl, by kernel_rfl⟩
theorem sc15 : Scal Tryd.prog 15 := ⟨_, Tryd.underlying15, rfl, by kernel_rfl⟩
theorem sc16 : Scal Tryd.prog 16 := ⟨_, Tryd.underlying16, rfl, by kernel_rfl⟩
theorem sc17 : Scal Tryd.prog 17 := ⟨_, Tryd.underlying17, rfl, by kernel_rfl⟩
theorem sc20 : Scal Tryd.prog 20 := ⟨_, Tryd.underlying20, rfl, by kernel_rfl⟩
theorem sc21 : Scal Tryd.prog 21 := ⟨_, Tryd.underlying21, rfl, by kernel_rfl⟩
theorem sc22 : Scal Tryd.prog 22 := ⟨_, Tryd.underlying22, rfl, by kernel_rfl⟩
theorem sc25 : Scal Tryd.prog 25 := ⟨_, Tryd.underlying25, rfl, by kernel_rfl⟩
theorem sc27 : Scal Tryd.prog 27 := ⟨_, Tryd.underlying27, rfl, by kernel_rfl⟩
theorem agg28 : Agg Tryd.prog 28 32 := ⟨_, Tryd.underlying28, rfl, by kernel_rfl⟩
theorem zer28 : Zer Tryd.prog 28 32 (fun _ => .int .u8 0) := by unfold Zer; kernel_rfl
theorem agg29 : Agg Tryd.prog 29 32 := ⟨_, Tryd.underlying29, rfl, by kernel_rfl⟩
theorem zer29 : Zer Tryd.prog 29 32 (fun _ => .int .u8 0) := by unfold Zer; kernel_rfl
theorem agg30 : Agg Tryd.prog 30 16 := ⟨_, Tryd.underlying30, rfl, by kernel_rfl⟩
theorem zer30 : Zer Tryd.prog 30 16 (fun _ => .int .u8 0) := by unfold Zer; kernel_rfl
theorem agg31 : Agg Tryd.prog 31 16 := ⟨_, Tryd.underlying31, rfl, by kernel_rfl⟩
theorem zer31 : Zer Tryd.prog 31 16 (fun _ => .int .u8 0) := by unfold Zer; kernel_rfl
theorem sc32 : Scal Tryd.prog 32 := ⟨_, Tryd.underlying32, rfl, by kernel_rfl⟩
theorem agg33 : Agg Tryd.prog 33 6 := ⟨_, Tryd.underlying33, rfl, by kernel_rfl⟩
theorem zer33 : Zer Tryd.prog 33 6 (fun _ => .int .u64 0) := by unfold Zer; kernel_rfl
theorem sc37 : Scal Tryd.prog 37 := ⟨_, Tryd.underlying37, rfl, by kernel_rfl⟩
theorem sc43 : Scal Tryd.prog 43 := ⟨_, Tryd.underlying43, rfl, by kernel_rfl⟩
theorem sc58 : Scal Tryd.prog 58 := ⟨_, Tryd.underlying58, rfl, by kernel_rfl⟩
theorem sc67 : Scal Tryd.prog 67 := ⟨_, Tryd.underlying67, rfl, by kernel_rfl⟩
theorem agg68 : Agg Tryd.prog 68 8 := ⟨_, Tryd.underlying68, rfl, by kernel_rfl⟩
theorem zer68 : Zer Tryd.prog 68 8 (fun _ => .int .u32 0) := by unfold Zer; kernel_rfl
theorem agg69 : Agg Tryd.prog 69 64 := ⟨_, Tryd.underlying69, rfl, by kernel_rfl⟩
theorem zer69 : Zer Tryd.prog 69 64 (fun _ => .int .u32 0) := by unfold Zer; kernel_rfl
theorem sc74 : Scal Tryd.prog 74 := ⟨_, Tryd.underlying74, rfl, by kernel_rfl⟩
theorem agg75 : Agg Tryd.prog 75 8 := ⟨_, Tryd.underlying75, rfl, by kernel_rfl⟩
theorem zer75 : Zer Tryd.prog 75 8 (fun _ => .int .u32 0) := by unfold Zer; kernel_rfl
theorem agg82 : Agg Tryd.prog 82 6 := ⟨_, Tryd.underlying82, rfl, by kernel_rfl⟩
theorem zer82 : Zer Tryd.prog 82 6 (fun _ => .int .i64 0) := by unfold Zer; kernel_rfl
theorem sc87 : Scal Tryd.prog 87 := ⟨_, Tryd.underlying87, rfl, by kernel_rfl⟩
theorem sc98 : Scal Tryd.prog 98 := ⟨_, Tryd.underlying98, rfl, by kernel_rfl⟩
theorem sc99 : Scal Tryd.prog 99 := ⟨_, Tryd.underlying99, rfl, by kernel_rfl⟩
theorem sc101 : Scal Tryd.prog 101 := ⟨_, Tryd.underlying101, rfl, by kernel_rfl⟩
theorem sc108 : Scal Tryd.prog 108 := ⟨_, Tryd.underlying108, rfl, by kernel_rfl⟩
theorem sc109 : Scal Tryd.prog 109 := ⟨_, Tryd.underlying109, rfl, by kernel_rfl⟩
theorem sc111 : Scal Tryd.prog 111 := ⟨_, Tryd.underlying111, rfl, by kernel_rfl⟩
theorem sc112 : Scal Tryd.prog 112 := ⟨_, Tryd.underlying112, rfl, by kernel_rfl⟩
theorem sc113 : Scal Tryd.prog 113 := ⟨_, Tryd.underlying113, rfl, by kernel_rfl⟩
theorem bld75 : Bld Tryd.prog 75 8 67 (fun _ => .int .u32 0) := ⟨Tryd.underlying75, zer75, by kernel_rfl⟩
theorem bld68 : Bld Tryd.prog 68 8 67 (fun _ => .int .u32 0) := ⟨Tryd.underlying68, zer68, by kernel_rfl⟩
theorem elt58 : Elt Tryd.prog 58 5 1 1 (fun _ => nB 0) := ⟨Tryd.underlying58, by unfold Zer; kernel_rfl, by kernel_rfl, by decide⟩
theorem elt74 : Elt Tryd.prog 74 58 1 24 (fun _ => .slice none 0 0) := ⟨Tryd.underlying74, by unfold Zer; kernel_rfl, by kernel_rfl, by decide⟩
theorem pl2 : Plain Tryd.prog 2 := by unfold Plain; kernel_rfl
theorem pl3 : Plain Tryd.prog 3 := by unfold Plain; kernel_rfl
theorem pl4 : Plain Tryd.prog 4 := by unfold Plain; kernel_rfl
theorem pl5 : Plain Tryd.prog 5 := by unfold Plain; kernel_rfl
theorem pl6 : Plain Tryd.prog 6 := by unfold Plain; kernel_rfl
theorem pl7 : Plain Tryd.prog 7 := by unfold Plain; kernel_rfl
theorem pl8 : Plain Tryd.prog 8 := by unfold Plain; kernel_rfl
theorem pl9 : Plain Tryd.prog 9 := by unfold Plain; kernel_rfl
theorem pl10 : Plain Tryd.prog 10 := by unfold Plain; kernel_rfl
theorem pl11 : Plain Tryd.prog 11 := by unfold Plain; kernel_rfl
theorem pl12 : Plain Tryd.prog 12 := by unfold Plain; kernel_rfl
theorem pl13 : Plain Tryd.prog 13 := by unfold Plain; kernel_rfl
theorem pl14 : Plain Tryd.prog 14 := by unfold Plain; kernel_rfl
theorem pl15 : Plain Tryd.prog 15 := by unfold Plain; kernel_rfl
theorem pl16 : Plain Tryd.prog 16 := by unfold Plain; kernel_rfl
theorem pl17 : Plain Tryd.prog 17 := by unfold Plain; kernel_rfl
theorem pl18 : Plain Tryd.prog 18 := by unfold Plain; kernel_rfl
theorem pl19 : Plain Tryd.prog 19 := by unfold Plain; kernel_rfl
theorem pl20 : Plain Tryd.prog 20 := by unfold Plain; kernel_rfl
theorem pl21 : Plain Tryd.prog 21 := by unfold Plain; kernel_rfl
theorem pl22 : Plain Tryd.prog 22 := by unfold Plain; kernel_rfl
theorem pl23 : Plain Tryd.prog 23 := by unfold Plain; kernel_rfl
theorem pl24 : Plain Tryd.prog 24 := by unfold Plain; kernel_rfl
theorem pl25 : Plain Tryd.prog 25 := by unfold Plain; kernel_rfl
theorem pl26 : Plain Tryd.prog 26 := by unfold Plain; kernel_rfl
theorem pl27 : Plain Tryd.prog 27 := by unfold Plain; kernel_rfl
theorem pl28 : Plain Tryd.prog 28 := by unfold Plain; kernel_rfl
theorem pl29 : Plain Tryd.prog 29 := by unfold Plain; kernel_rfl
theorem pl30 : Plain Tryd.prog 30 := by unfold Plain; kernel_rfl
theorem pl31 : Plain Tryd.prog 31 := by unfold Plain; kernel_rfl
theorem pl32 : Plain Tryd.prog 32 := by unfold Plain; kernel_rfl
theorem pl33 : Plain Tryd.prog 33 := by unfold Plain; kernel_rfl
theorem pl34 : Plain Tryd.prog 34 := by unfold Plain; kernel_rfl
theorem pl35 : Plain Tryd.prog 35 := by unfold Plain; kernel_rfl
theorem pl36 : Plain Tryd.prog 36 := by unfold Plain; kernel_rfl
theorem pl37 : Plain Tryd.prog 37 := by unfold Plain; kernel_rfl
theorem pl38 : Plain Tryd.prog 38 := by unfold Plain; kernel_rfl
theorem pl39 : Plain Tryd.prog 39 := by unfold Plain; kernel_rfl
theorem pl40 : Plain Tryd.prog 40 := by unfold Plain; kernel_rfl
theorem pl41 : Plain Tryd.prog 41 := by unfold Plain; kernel_rfl
theorem pl42 : Plain Tryd.prog 42 := by unfold Plain; kernel_rfl
theorem pl43 : Plain Tryd.prog 43 := by unfold Plain; kernel_rfl
theorem pl44 : Plain Tryd.prog 44 := by unfold Plain; kernel_rfl
theorem pl45 : Plain Tryd.prog 45 := by unfold Plain; kernel_rfl
theorem pl46 : Plain Tryd.prog 46 := by unfold Plain; kernel_rfl
theorem pl47 : Plain Tryd.prog 47 := by unfold Plain; kernel_rfl
theorem pl48 : Plain Tryd.prog 48 := by unfold Plain; kernel_rfl
theorem pl49 : Plain Tryd.prog 49 := by unfold Plain; kernel_rfl
theorem pl50 : Plain Tryd.prog 50 := by unfold Plain; kernel_rfl
theorem pl51 : Plain Tryd.prog 51 := by unfold Plain; kernel_rfl
theorem pl52 : Plain Tryd.prog 52 := by unfold Plain; kernel_rfl
theorem pl53 : Plain Tryd.prog 53 := by unfold Plain; kernel_rfl
theorem pl54 : Plain Tryd.prog 54 := by unfold Plain; kernel_rfl
theorem pl55 : Plain Tryd.prog 55 := by unfold Plain; kernel_rfl
theorem pl57 : Plain Tryd.prog 57 := by unfold Plain; kernel_rfl
theorem pl58 : Plain Tryd.prog 58 := by unfold Plain; kernel_rfl
theorem pl59 : Plain Tryd.prog 59 := by unfold Plain; kernel_rfl
theorem pl60 : Plain Tryd.prog 60 := by unfold Plain; kernel_rfl
theorem pl61 : Plain Tryd.prog 61 := by unfold Plain; kernel_rfl
theorem pl62 : Plain Tryd.prog 62 := by unfold Plain; kernel_rfl
theorem pl64 : Plain Tryd.prog 64 := by unfold Plain; kernel_rfl
theorem pl65 : Plain Tryd.prog 65 := by unfold Plain; kernel_rfl
theorem pl86 : Plain Tryd.prog 86 := by unfold Plain; kernel_rfl
end Go.Proofs.YtmegpfjlijphoaaDoor
