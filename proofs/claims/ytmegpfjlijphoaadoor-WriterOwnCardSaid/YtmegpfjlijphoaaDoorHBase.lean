/- Facts of this program's tables: headers and tokens. -/
import Derived.Test.YtmegpfjlijphoaaDoorBase
import Derived.Test.YtmegpfjlijphoaaDoorLibL
import Derived.Test.YtmegpfjlijphoaaDoorEnc
namespace Go.Proofs.YtmegpfjlijphoaaDoor
open Go.RowKit Go.Jal
def zH : Hdr := ⟨0, 0, zeros 32, 0, false, 0, zeros 16, [], zeros 6, zeros 32, 0, zeros 32⟩
theorem agg35 : Agg Tryd.prog 35 125 := ⟨_, Tryd.underlying35, rfl, by kernel_rfl⟩
theorem zer35 : Zer Tryd.prog 35 125 (hF zH (.slice none 0 0)) := by unfold Zer; kernel_rfl
theorem fld35_0 : Fld Tryd.prog 35 0 0 := ⟨_, _, Tryd.underlying35, rfl, rfl, 0, by kernel_rfl⟩
theorem fld35_1 : Fld Tryd.prog 35 1 1 := ⟨_, _, Tryd.underlying35, rfl, rfl, 0, by kernel_rfl⟩
theorem fld35_2 : Fld Tryd.prog 35 2 2 := ⟨_, _, Tryd.underlying35, rfl, rfl, 31, by kernel_rfl⟩
theorem fld35_3 : Fld Tryd.prog 35 3 34 := ⟨_, _, Tryd.underlying35, rfl, rfl, 0, by kernel_rfl⟩
theorem fld35_4 : Fld Tryd.prog 35 4 35 := ⟨_, _, Tryd.underlying35, rfl, rfl, 0, by kernel_rfl⟩
theorem fld35_5 : Fld Tryd.prog 35 5 36 := ⟨_, _, Tryd.underlying35, rfl, rfl, 0, by kernel_rfl⟩
theorem fld35_6 : Fld Tryd.prog 35 6 37 := ⟨_, _, Tryd.underlying35, rfl, rfl, 15, by kernel_rfl⟩
theorem fld35_7 : Fld Tryd.prog 35 7 53 := ⟨_, _, Tryd.underlying35, rfl, rfl, 0, by kernel_rfl⟩
theorem fld35_8 : Fld Tryd.prog 35 8 54 := ⟨_, _, Tryd.underlying35, rfl, rfl, 5, by kernel_rfl⟩
theorem fld35_9 : Fld Tryd.prog 35 9 60 := ⟨_, _, Tryd.underlying35, rfl, rfl, 31, by kernel_rfl⟩
theorem fld35_10 : Fld Tryd.prog 35 10 92 := ⟨_, _, Tryd.underlying35, rfl, rfl, 0, by kernel_rfl⟩
theorem fld35_11 : Fld Tryd.prog 35 11 93 := ⟨_, _, Tryd.underlying35, rfl, rfl, 31, by kernel_rfl⟩
theorem elt32 : Elt Tryd.prog 32 31 16 16 (fun _ => nB 0) := ⟨Tryd.underlying32, by unfold Zer; kernel_rfl, by kernel_rfl, by decide⟩
theorem elt22 : Elt Tryd.prog 22 35 125 232 (hF zH (.slice none 0 0)) := ⟨Tryd.underlying22, by unfold Zer; kernel_rfl, by kernel_rfl, by decide⟩
theorem eqb31 : EqB Tryd.prog 31 16 5 := ⟨Tryd.underlying31, Tryd.underlying5, sc5.size, Tryd.eqGuardType31⟩
theorem eqb29 : EqB Tryd.prog 29 32 5 := ⟨Tryd.underlying29, Tryd.underlying5, sc5.size, Tryd.eqGuardType29⟩
theorem siz31 : (Tryd.prog.info? 31).map (·.size) = some 16 := by kernel_rfl
theorem siz35 : (Tryd.prog.info? 35).map (·.size) = some 125 := by kernel_rfl
end Go.Proofs.YtmegpfjlijphoaaDoor
