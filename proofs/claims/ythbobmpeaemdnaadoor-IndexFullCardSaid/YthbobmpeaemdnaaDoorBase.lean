/- Facts of this program's tables. -/
import Derived.Test.YthbobmpeaemdnaaDoorProg
import Derived.Test.YthbobmpeaemdnaaDoorLibG
namespace Go.Proofs.YthbobmpeaemdnaaDoor
open Go.RowKit Go.Jal
theorem mixed : Tryd.prog.follows .mixedOrders = true := by kernel_rfl
theorem sc2 : Scal Tryd.prog 2 := ⟨_, Tryd.underlying2, rfl, by kernel_rfl⟩
theorem sc3 : Scal Tryd.prog 3 := ⟨_, Tryd.underlying3, rfl, by kernel_rfl⟩
theorem sc4 : Scal Tryd.prog 4 := ⟨_, Tryd.underlying4, rfl, by kernel_rfl⟩
theorem sc5 : Scal Tryd.prog 5 := ⟨_, Tryd.underlying5, rfl, by kernel_rfl⟩
theorem sc6 : Scal Tryd.prog 6 := ⟨_, Tryd.underlying6, rfl, by kernel_rfl⟩
theorem sc9 : Scal Tryd.prog 9 := ⟨_, Tryd.underlying9, rfl, by kernel_rfl⟩
theorem sc10 : Scal Tryd.prog 10 := ⟨_, Tryd.underlying10, rfl, by kernel_rfl⟩
theorem sc11 : Scal Tryd.prog 11 := ⟨_, Tryd.underlying11, rfl, by kernel_rfl⟩
theorem sc12 : Scal Tryd.prog 12 := ⟨_, Tryd.underlying12, rfl, by kernel_rfl⟩
theorem sc15 : Scal Tryd.prog 15 := ⟨_, Tryd.underlying15, rfl, by kernel_rfl⟩
theorem sc16 : Scal Tryd.prog 16 := ⟨_, Tryd.underlying16, rfl, by kernel_rfl⟩
theorem sc17 : Scal Tryd.prog 17 := ⟨_, Tryd.underlying17, rfl, by kernel_rfl⟩
theorem sc20 : Scal Tryd.prog 20 := ⟨_, Tryd.underlying20, rfl, by kernel_rfl⟩
theorem sc21 : Scal Tryd.prog 21 := ⟨_, Tryd.underlying21, rfl, by kernel_rfl⟩
theorem sc22 : Scal Tryd.prog 22 := ⟨_, Tryd.underlying22, rfl, by kernel_rfl⟩
theorem sc24 : Scal Tryd.prog 24 := ⟨_, Tryd.underlying24, rfl, by kernel_rfl⟩
theorem sc26 : Scal Tryd.prog 26 := ⟨_, Tryd.underlying26, rfl, by kernel_rfl⟩
theorem agg27 : Agg Tryd.prog 27 32 := ⟨_, Tryd.underlying27, rfl, by kernel_rfl⟩
theorem zer27 : Zer Tryd.prog 27 32 (fun _ => .int .u8 0) := by unfold Zer; kernel_rfl
theorem agg28 : Agg Tryd.prog 28 32 := ⟨_, Tryd.underlying28, rfl, by kernel_rfl⟩
theorem zer28 : Zer Tryd.prog 28 32 (fun _ => .int .u8 0) := by unfold Zer; kernel_rfl
theorem agg29 : Agg Tryd.prog 29 16 := ⟨_, Tryd.underlying29, rfl, by kernel_rfl⟩
theorem zer29 : Zer Tryd.prog 29 16 (fun _ => .int .u8 0) := by unfold Zer; kernel_rfl
theorem agg30 : Agg Tryd.prog 30 16 := ⟨_, Tryd.underlying30, rfl, by kernel_rfl⟩
theorem zer30 : Zer Tryd.prog 30 16 (fun _ => .int .u8 0) := by unfold Zer; kernel_rfl
theorem sc31 : Scal Tryd.prog 31 := ⟨_, Tryd.underlying31, rfl, by kernel_rfl⟩
theorem agg32 : Agg Tryd.prog 32 6 := ⟨_, Tryd.underlying32, rfl, by kernel_rfl⟩
theorem zer32 : Zer Tryd.prog 32 6 (fun _ => .int .u64 0) := by unfold Zer; kernel_rfl
theorem sc35 : Scal Tryd.prog 35 := ⟨_, Tryd.underlying35, rfl, by kernel_rfl⟩
theorem sc40 : Scal Tryd.prog 40 := ⟨_, Tryd.underlying40, rfl, by kernel_rfl⟩
theorem sc45 : Scal Tryd.prog 45 := ⟨_, Tryd.underlying45, rfl, by kernel_rfl⟩
theorem agg48 : Agg Tryd.prog 48 6 := ⟨_, Tryd.underlying48, rfl, by kernel_rfl⟩
theorem zer48 : Zer Tryd.prog 48 6 (fun _ => .int .u64 0) := by unfold Zer; kernel_rfl
theorem agg52 : Agg Tryd.prog 52 6 := ⟨_, Tryd.underlying52, rfl, by kernel_rfl⟩
theorem zer52 : Zer Tryd.prog 52 6 (fun _ => .slice none 0 0) := by unfold Zer; kernel_rfl
theorem sc67 : Scal Tryd.prog 67 := ⟨_, Tryd.underlying67, rfl, by kernel_rfl⟩
theorem sc69 : Scal Tryd.prog 69 := ⟨_, Tryd.underlying69, rfl, by kernel_rfl⟩
theorem agg70 : Agg Tryd.prog 70 6 := ⟨_, Tryd.underlying70, rfl, by kernel_rfl⟩
theorem zer70 : Zer Tryd.prog 70 6 (fun _ => .slice none 0 0) := by unfold Zer; kernel_rfl
theorem sc77 : Scal Tryd.prog 77 := ⟨_, Tryd.underlying77, rfl, by kernel_rfl⟩
theorem agg78 : Agg Tryd.prog 78 8 := ⟨_, Tryd.underlying78, rfl, by kernel_rfl⟩
theorem zer78 : Zer Tryd.prog 78 8 (fun _ => .int .u32 0) := by unfold Zer; kernel_rfl
theorem agg79 : Agg Tryd.prog 79 64 := ⟨_, Tryd.underlying79, rfl, by kernel_rfl⟩
theorem zer79 : Zer Tryd.prog 79 64 (fun _ => .int .u32 0) := by unfold Zer; kernel_rfl
theorem sc90 : Scal Tryd.prog 90 := ⟨_, Tryd.underlying90, rfl, by kernel_rfl⟩
theorem agg95 : Agg Tryd.prog 95 8 := ⟨_, Tryd.underlying95, rfl, by kernel_rfl⟩
theorem zer95 : Zer Tryd.prog 95 8 (fun _ => .int .u32 0) := by unfold Zer; kernel_rfl
theorem sc109 : Scal Tryd.prog 109 := ⟨_, Tryd.underlying109, rfl, by kernel_rfl⟩
theorem sc128 : Scal Tryd.prog 128 := ⟨_, Tryd.underlying128, rfl, by kernel_rfl⟩
theorem sc132 : Scal Tryd.prog 132 := ⟨_, Tryd.underlying132, rfl, by kernel_rfl⟩
theorem agg135 : Agg Tryd.prog 135 6 := ⟨_, Tryd.underlying135, rfl, by kernel_rfl⟩
theorem zer135 : Zer Tryd.prog 135 6 (fun _ => .int .i64 0) := by unfold Zer; kernel_rfl
theorem sc137 : Scal Tryd.prog 137 := ⟨_, Tryd.underlying137, rfl, by kernel_rfl⟩
theorem sc144 : Scal Tryd.prog 144 := ⟨_, Tryd.underlying144, rfl, by kernel_rfl⟩
theorem sc145 : Scal Tryd.prog 145 := ⟨_, Tryd.underlying145, rfl, by kernel_rfl⟩
theorem sc147 : Scal Tryd.prog 147 := ⟨_, Tryd.underlying147, rfl, by kernel_rfl⟩
theorem sc148 : Scal Tryd.prog 148 := ⟨_, Tryd.underlying148, rfl, by kernel_rfl⟩
theorem sc149 : Scal Tryd.prog 149 := ⟨_, Tryd.underlying149, rfl, by kernel_rfl⟩
theorem bld95 : Bld Tryd.prog 95 8 77 (fun _ => .int .u32 0) := ⟨Tryd.underlying95, zer95, by kernel_rfl⟩
theorem bld78 : Bld Tryd.prog 78 8 77 (fun _ => .int .u32 0) := ⟨Tryd.underlying78, zer78, by kernel_rfl⟩
theorem elt35 : Elt Tryd.prog 35 5 1 1 (fun _ => nB 0) := ⟨Tryd.underlying35, by unfold Zer; kernel_rfl, by kernel_rfl, by decide⟩
theorem elt69 : Elt Tryd.prog 69 35 1 24 (fun _ => .slice none 0 0) := ⟨Tryd.underlying69, by unfold Zer; kernel_rfl, by kernel_rfl, by decide⟩
theorem pl2 : Plain Tryd.prog 2 := by unfold Plain; kernel_rfl
theorem pl3 : Plain Tryd.prog 3 := by unfold Plain; kernel_rfl
theorem pl4 : Plain Tryd.prog 4 := by unfold Plain; kernel_rfl
theorem pl5 : Plain Tryd.prog 5 := by unfold Plain; kernel_rfl
theorem pl6 : Plain Tryd.prog 6 := by unfold Plain; kernel_rfl
theorem pl7 : Plain Tryd.prog 7 := by unfold Plain; kernel_rfl
theorem pl8 : Plain Tryd.prog 8 := by unfold Plain; kernel_rfl
theorem pl9 : Plain Tryd.prog 9 := by unfold Plain; kernel_rfl
theorem pl10 : Plain Tryd.prog 10 := by unfold Plain; kernel_rfl
theorem pl11 : Plain Tryd.prog 11 := by unfold Plain; kernel_rfl
theorem pl12 : Plain Tryd.prog 12 := by unfold Plain; kernel_rfl
theorem pl13 : Plain Tryd.prog 13 := by unfold Plain; kernel_rfl
theorem pl14 : Plain Tryd.prog 14 := by unfold Plain; kernel_rfl
theorem pl15 : Plain Tryd.prog 15 := by unfold Plain; kernel_rfl
theorem pl16 : Plain Tryd.prog 16 := by unfold Plain; kernel_rfl
theorem pl17 : Plain Tryd.prog 17 := by unfold Plain; kernel_rfl
theorem pl18 : Plain Tryd.prog 18 := by unfold Plain; kernel_rfl
theorem pl19 : Plain Tryd.prog 19 := by unfold Plain; kernel_rfl
theorem pl20 : Plain Tryd.prog 20 := by unfold Plain; kernel_rfl
theorem pl21 : Plain Tryd.prog 21 := by unfold Plain; kernel_rfl
theorem pl22 : Plain Tryd.prog 22 := by unfold Plain; kernel_rfl
theorem pl23 : Plain Tryd.prog 23 := by unfold Plain; kernel_rfl
theorem pl24 : Plain Tryd.prog 24 := by unfold Plain; kernel_rfl
theorem pl25 : Plain Tryd.prog 25 := by unfold Plain; kernel_rfl
theorem pl26 : Plain Tryd.prog 26 := by unfold Plain; kernel_rfl
theorem pl27 : Plain Tryd.prog 27 := by unfold Plain; kernel_rfl
theorem pl28 : Plain Tryd.prog 28 := by unfold Plain; kernel_rfl
theorem pl29 : Plain Tryd.prog 29 := by unfold Plain; kernel_rfl
theorem pl30 : Plain Tryd.prog 30 := by unfold Plain; kernel_rfl
theorem pl31 : Plain Tryd.prog 31 := by unfold Plain; kernel_rfl
theorem pl32 : Plain Tryd.prog 32 := by unfold Plain; kernel_rfl
theorem pl33 : Plain Tryd.prog 33 := by unfold Plain; kernel_rfl
theorem pl34 : Plain Tryd.prog 34 := by unfold Plain; kernel_rfl
theorem pl35 : Plain Tryd.prog 35 := by unfold Plain; kernel_rfl
theorem pl36 : Plain Tryd.prog 36 := by unfold Plain; kernel_rfl
theorem pl37 : Plain Tryd.prog 37 := by unfold Plain; kernel_rfl
theorem pl38 : Plain Tryd.prog 38 := by unfold Plain; kernel_rfl
theorem pl39 : Plain Tryd.prog 39 := by unfold Plain; kernel_rfl
theorem pl40 : Plain Tryd.prog 40 := by unfold Plain; kernel_rfl
theorem pl41 : Plain Tryd.prog 41 := by unfold Plain; kernel_rfl
theorem pl42 : Plain Tryd.prog 42 := by unfold Plain; kernel_rfl
theorem pl43 : Plain Tryd.prog 43 := by unfold Plain; kernel_rfl
theorem pl44 : Plain Tryd.prog 44 := by unfold Plain; kernel_rfl
theorem pl45 : Plain Tryd.prog 45 := by unfold Plain; kernel_rfl
theorem pl46 : Plain Tryd.prog 46 := by unfold Plain; kernel_rfl
theorem pl47 : Plain Tryd.prog 47 := by unfold Plain; kernel_rfl
theorem pl48 : Plain Tryd.prog 48 := by unfold Plain; kernel_rfl
theorem pl49 : Plain Tryd.prog 49 := by unfold Plain; kernel_rfl
theorem pl50 : Plain Tryd.prog 50 := by unfold Plain; kernel_rfl
theorem pl51 : Plain Tryd.prog 51 := by unfold Plain; kernel_rfl
theorem pl52 : Plain Tryd.prog 52 := by unfold Plain; kernel_rfl
theorem pl53 : Plain Tryd.prog 53 := by unfold Plain; kernel_rfl
theorem pl54 : Plain Tryd.prog 54 := by unfold Plain; kernel_rfl
theorem pl55 : Plain Tryd.prog 55 := by unfold Plain; kernel_rfl
theorem pl56 : Plain Tryd.prog 56 := by unfold Plain; kernel_rfl
theorem pl57 : Plain Tryd.prog 57 := by unfold Plain; kernel_rfl
theorem pl58 : Plain Tryd.prog 58 := by unfold Plain; kernel_rfl
theorem pl59 : Plain Tryd.prog 59 := by unfold Plain; kernel_rfl
theorem pl60 : Plain Tryd.prog 60 := by unfold Plain; kernel_rfl
theorem pl62 : Plain Tryd.prog 62 := by unfold Plain; kernel_rfl
theorem pl63 : Plain Tryd.prog 63 := by unfold Plain; kernel_rfl
theorem pl64 : Plain Tryd.prog 64 := by unfold Plain; kernel_rfl
theorem pl65 : Plain Tryd.prog 65 := by unfold Plain; kernel_rfl
theorem pl66 : Plain Tryd.prog 66 := by unfold Plain; kernel_rfl
theorem pl67 : Plain Tryd.prog 67 := by unfold Plain; kernel_rfl
theorem pl68 : Plain Tryd.prog 68 := by unfold Plain; kernel_rfl
theorem pl69 : Plain Tryd.prog 69 := by unfold Plain; kernel_rfl
theorem pl70 : Plain Tryd.prog 70 := by unfold Plain; kernel_rfl
theorem pl71 : Plain Tryd.prog 71 := by unfold Plain; kernel_rfl
theorem pl72 : Plain Tryd.prog 72 := by unfold Plain; kernel_rfl
theorem pl73 : Plain Tryd.prog 73 := by unfold Plain; kernel_rfl
theorem pl74 : Plain Tryd.prog 74 := by unfold Plain; kernel_rfl
theorem pl75 : Plain Tryd.prog 75 := by unfold Plain; kernel_rfl
theorem pl76 : Plain Tryd.prog 76 := by unfold Plain; kernel_rfl
theorem pl77 : Plain Tryd.prog 77 := by unfold Plain; kernel_rfl
theorem pl78 : Plain Tryd.prog 78 := by unfold Plain; kernel_rfl
theorem pl79 : Plain Tryd.prog 79 := by unfold Plain; kernel_rfl
theorem pl80 : Plain Tryd.prog 80 := by unfold Plain; kernel_rfl
theorem pl81 : Plain Tryd.prog 81 := by unfold Plain; kernel_rfl
theorem pl82 : Plain Tryd.prog 82 := by unfold Plain; kernel_rfl
theorem pl83 : Plain Tryd.prog 83 := by unfold Plain; kernel_rfl
theorem pl84 : Plain Tryd.prog 84 := by unfold Plain; kernel_rfl
theorem pl85 : Plain Tryd.prog 85 := by unfold Plain; kernel_rfl
theorem pl86 : Plain Tryd.prog 86 := by unfold Plain; kernel_rfl
theorem pl108 : Plain Tryd.prog 108 := by unfold Plain; kernel_rfl
end Go.Proofs.YthbobmpeaemdnaaDoor
