/- Facts of this program's tables. -/
import Derived.Test.YtpidapgglkoogaaDoorProg
import Derived.Test.YtpidapgglkoogaaDoorLibG
namespace Go.Proofs.YtpidapgglkoogaaDoor
open Go.RowKit Go.Jal
theorem mixed : Tryd.prog.follows .mixedOrders = true := by kernel_rfl
theorem sc2 : Scal Tryd.prog 2 := ⟨_, Tryd.underlying2, rfl, by kernel_rfl⟩
theorem sc3 : Scal Tryd.prog 3 := ⟨_, Tryd.underlying3, rfl, by kernel_rfl⟩
theorem sc4 : Scal Tryd.prog 4 := ⟨_, Tryd.underlying4, rfl, by kernel_rfl⟩
theorem sc5 : Scal Tryd.prog 5 := ⟨_, Tryd.underlying5, rfl, by kernel_rfl⟩
theorem sc6 : Scal Tryd.prog 6 := ⟨_, Tryd.underlying6, rfl, by kernel_rfl⟩
theorem sc9 : Scal Tryd.prog 9 := ⟨_, Tryd.underlying9, rfl, by kernel_rfl⟩
theorem sc10 : Scal Tryd.prog 10 := ⟨_, Tryd.underlying10, rfl, by kernel_rfl⟩
theorem sc11 : Scal Tryd.prog 11 := ⟨_, Tryd.underlying11, rfl, by kernel_rfl⟩
theorem sc12 : Scal Tryd.prog 12 := ⟨_, Tryd.underlying12, rfl, by kernel_rfl⟩
theorem sc15 : Scal Tryd.prog 15 := ⟨_, Tryd.underlying15, rfl, by kernel_rfl⟩
theorem sc16 : Scal Tryd.prog 16 := ⟨_, Tryd.underlying16, rfl, by kernel_rfl⟩
theorem sc17 : Scal Tryd.prog 17 := ⟨_, Tryd.underlying17, rfl, by kernel_rfl⟩
theorem sc20 : Scal Tryd.prog 20 := ⟨_, Tryd.underlying20, rfl, by kernel_rfl⟩
theorem sc21 : Scal Tryd.prog 21 := ⟨_, Tryd.underlying21, rfl, by kernel_rfl⟩
theorem sc22 : Scal Tryd.prog 22 := ⟨_, Tryd.underlying22, rfl, by kernel_rfl⟩
theorem agg25 : Agg Tryd.prog 25 32 := ⟨_, Tryd.underlying25, rfl, by kernel_rfl⟩
theorem zer25 : Zer Tryd.prog 25 32 (fun _ => .int .u8 0) := by unfold Zer; kernel_rfl
theorem agg26 : Agg Tryd.prog 26 32 := ⟨_, Tryd.underlying26, rfl, by kernel_rfl⟩
theorem zer26 : Zer Tryd.prog 26 32 (fun _ => .int .u8 0) := by unfold Zer; kernel_rfl
theorem sc29 : Scal Tryd.prog 29 := ⟨_, Tryd.underlying29, rfl, by kernel_rfl⟩
theorem sc33 : Scal Tryd.prog 33 := ⟨_, Tryd.underlying33, rfl, by kernel_rfl⟩
theorem agg38 : Agg Tryd.prog 38 2 := ⟨_, Tryd.underlying38, rfl, by kernel_rfl⟩
theorem zer38 : Zer Tryd.prog 38 2 (fun _ => .int .u16 0) := by unfold Zer; kernel_rfl
theorem sc39 : Scal Tryd.prog 39 := ⟨_, Tryd.underlying39, rfl, by kernel_rfl⟩
theorem sc47 : Scal Tryd.prog 47 := ⟨_, Tryd.underlying47, rfl, by kernel_rfl⟩
theorem agg48 : Agg Tryd.prog 48 8 := ⟨_, Tryd.underlying48, rfl, by kernel_rfl⟩
theorem zer48 : Zer Tryd.prog 48 8 (fun _ => .int .u32 0) := by unfold Zer; kernel_rfl
theorem agg49 : Agg Tryd.prog 49 8 := ⟨_, Tryd.underlying49, rfl, by kernel_rfl⟩
theorem zer49 : Zer Tryd.prog 49 8 (fun _ => .int .u32 0) := by unfold Zer; kernel_rfl
theorem sc55 : Scal Tryd.prog 55 := ⟨_, Tryd.underlying55, rfl, by kernel_rfl⟩
theorem agg56 : Agg Tryd.prog 56 64 := ⟨_, Tryd.underlying56, rfl, by kernel_rfl⟩
theorem zer56 : Zer Tryd.prog 56 64 (fun _ => .int .u32 0) := by unfold Zer; kernel_rfl
theorem agg58 : Agg Tryd.prog 58 64 := ⟨_, Tryd.underlying58, rfl, by kernel_rfl⟩
theorem zer58 : Zer Tryd.prog 58 64 (fun _ => .int .u8 0) := by unfold Zer; kernel_rfl
theorem sc61 : Scal Tryd.prog 61 := ⟨_, Tryd.underlying61, rfl, by kernel_rfl⟩
theorem sc64 : Scal Tryd.prog 64 := ⟨_, Tryd.underlying64, rfl, by kernel_rfl⟩
theorem sc72 : Scal Tryd.prog 72 := ⟨_, Tryd.underlying72, rfl, by kernel_rfl⟩
theorem sc73 : Scal Tryd.prog 73 := ⟨_, Tryd.underlying73, rfl, by kernel_rfl⟩
theorem sc75 : Scal Tryd.prog 75 := ⟨_, Tryd.underlying75, rfl, by kernel_rfl⟩
theorem sc76 : Scal Tryd.prog 76 := ⟨_, Tryd.underlying76, rfl, by kernel_rfl⟩
theorem sc77 : Scal Tryd.prog 77 := ⟨_, Tryd.underlying77, rfl, by kernel_rfl⟩
theorem bld49 : Bld Tryd.prog 49 8 47 (fun _ => .int .u32 0) := ⟨Tryd.underlying49, zer49, by kernel_rfl⟩
theorem bld48 : Bld Tryd.prog 48 8 47 (fun _ => .int .u32 0) := ⟨Tryd.underlying48, zer48, by kernel_rfl⟩
theorem elt29 : Elt Tryd.prog 29 5 1 1 (fun _ => nB 0) := ⟨Tryd.underlying29, by unfold Zer; kernel_rfl, by kernel_rfl, by decide⟩
theorem elt22 : Elt Tryd.prog 22 29 1 24 (fun _ => .slice none 0 0) := ⟨Tryd.underlying22, by unfold Zer; kernel_rfl, by kernel_rfl, by decide⟩
theorem pl2 : Plain Tryd.prog 2 := by unfold Plain; kernel_rfl
theorem pl3 : Plain Tryd.prog 3 := by unfold Plain; kernel_rfl
theorem pl4 : Plain Tryd.prog 4 := by unfold Plain; kernel_rfl
theorem pl5 : Plain Tryd.prog 5 := by unfold Plain; kernel_rfl
theorem pl6 : Plain Tryd.prog 6 := by unfold Plain; kernel_rfl
theorem pl7 : Plain Tryd.prog 7 := by unfold Plain; kernel_rfl
theorem pl8 : Plain Tryd.prog 8 := by unfold Plain; kernel_rfl
theorem pl9 : Plain Tryd.prog 9 := by unfold Plain; kernel_rfl
theorem pl10 : Plain Tryd.prog 10 := by unfold Plain; kernel_rfl
theorem pl11 : Plain Tryd.prog 11 := by unfold Plain; kernel_rfl
theorem pl12 : Plain Tryd.prog 12 := by unfold Plain; kernel_rfl
theorem pl13 : Plain Tryd.prog 13 := by unfold Plain; kernel_rfl
theorem pl14 : Plain Tryd.prog 14 := by unfold Plain; kernel_rfl
theorem pl15 : Plain Tryd.prog 15 := by unfold Plain; kernel_rfl
theorem pl16 : Plain Tryd.prog 16 := by unfold Plain; kernel_rfl
theorem pl17 : Plain Tryd.prog 17 := by unfold Plain; kernel_rfl
theorem pl18 : Plain Tryd.prog 18 := by unfold Plain; kernel_rfl
theorem pl19 : Plain Tryd.prog 19 := by unfold Plain; kernel_rfl
theorem pl20 : Plain Tryd.prog 20 := by unfold Plain; kernel_rfl
theorem pl21 : Plain Tryd.prog 21 := by unfold Plain; kernel_rfl
theorem pl22 : Plain Tryd.prog 22 := by unfold Plain; kernel_rfl
theorem pl23 : Plain Tryd.prog 23 := by unfold Plain; kernel_rfl
theorem pl24 : Plain Tryd.prog 24 := by unfold Plain; kernel_rfl
theorem pl25 : Plain Tryd.prog 25 := by unfold Plain; kernel_rfl
theorem pl26 : Plain Tryd.prog 26 := by unfold Plain; kernel_rfl
theorem pl27 : Plain Tryd.prog 27 := by unfold Plain; kernel_rfl
theorem pl28 : Plain Tryd.prog 28 := by unfold Plain; kernel_rfl
theorem pl30 : Plain Tryd.prog 30 := by unfold Plain; kernel_rfl
theorem pl31 : Plain Tryd.prog 31 := by unfold Plain; kernel_rfl
theorem pl32 : Plain Tryd.prog 32 := by unfold Plain; kernel_rfl
theorem pl53 : Plain Tryd.prog 53 := by unfold Plain; kernel_rfl
end Go.Proofs.YtpidapgglkoogaaDoor
