/- Facts of this program's tables: headers and tokens. -/
import Derived.Test.YthbobmpeaemdnaaDoorBase
import Derived.Test.YthbobmpeaemdnaaDoorLibL
import Derived.Test.YthbobmpeaemdnaaDoorEnc
namespace Go.Proofs.YthbobmpeaemdnaaDoor
open Go.RowKit Go.Jal
def zH : Hdr := ⟨0, 0, zeros 32, 0, false, 0, zeros 16, [], zeros 6, zeros 32, 0, zeros 32⟩
theorem agg34 : Agg Tryd.prog 34 125 := ⟨_, Tryd.underlying34, rfl, by kernel_rfl⟩
theorem zer34 : Zer Tryd.prog 34 125 (hF zH (.slice none 0 0)) := by unfold Zer; kernel_rfl
theorem fld34_0 : Fld Tryd.prog 34 0 0 := ⟨_, _, Tryd.underlying34, rfl, rfl, 0, by kernel_rfl⟩
theorem fld34_1 : Fld Tryd.prog 34 1 1 := ⟨_, _, Tryd.underlying34, rfl, rfl, 0, by kernel_rfl⟩
theorem fld34_2 : Fld Tryd.prog 34 2 2 := ⟨_, _, Tryd.underlying34, rfl, rfl, 31, by kernel_rfl⟩
theorem fld34_3 : Fld Tryd.prog 34 3 34 := ⟨_, _, Tryd.underlying34, rfl, rfl, 0, by kernel_rfl⟩
theorem fld34_4 : Fld Tryd.prog 34 4 35 := ⟨_, _, Tryd.underlying34, rfl, rfl, 0, by kernel_rfl⟩
theorem fld34_5 : Fld Tryd.prog 34 5 36 := ⟨_, _, Tryd.underlying34, rfl, rfl, 0, by kernel_rfl⟩
theorem fld34_6 : Fld Tryd.prog 34 6 37 := ⟨_, _, Tryd.underlying34, rfl, rfl, 15, by kernel_rfl⟩
theorem fld34_7 : Fld Tryd.prog 34 7 53 := ⟨_, _, Tryd.underlying34, rfl, rfl, 0, by kernel_rfl⟩
theorem fld34_8 : Fld Tryd.prog 34 8 54 := ⟨_, _, Tryd.underlying34, rfl, rfl, 5, by kernel_rfl⟩
theorem fld34_9 : Fld Tryd.prog 34 9 60 := ⟨_, _, Tryd.underlying34, rfl, rfl, 31, by kernel_rfl⟩
theorem fld34_10 : Fld Tryd.prog 34 10 92 := ⟨_, _, Tryd.underlying34, rfl, rfl, 0, by kernel_rfl⟩
theorem fld34_11 : Fld Tryd.prog 34 11 93 := ⟨_, _, Tryd.underlying34, rfl, rfl, 31, by kernel_rfl⟩
theorem elt31 : Elt Tryd.prog 31 30 16 16 (fun _ => nB 0) := ⟨Tryd.underlying31, by unfold Zer; kernel_rfl, by kernel_rfl, by decide⟩
theorem elt90 : Elt Tryd.prog 90 34 125 232 (hF zH (.slice none 0 0)) := ⟨Tryd.underlying90, by unfold Zer; kernel_rfl, by kernel_rfl, by decide⟩
theorem eqb30 : EqB Tryd.prog 30 16 5 := ⟨Tryd.underlying30, Tryd.underlying5, sc5.size, Tryd.eqGuardType30⟩
theorem eqb28 : EqB Tryd.prog 28 32 5 := ⟨Tryd.underlying28, Tryd.underlying5, sc5.size, Tryd.eqGuardType28⟩
theorem siz30 : (Tryd.prog.info? 30).map (·.size) = some 16 := by kernel_rfl
theorem siz34 : (Tryd.prog.info? 34).map (·.size) = some 125 := by kernel_rfl
end Go.Proofs.YthbobmpeaemdnaaDoor
