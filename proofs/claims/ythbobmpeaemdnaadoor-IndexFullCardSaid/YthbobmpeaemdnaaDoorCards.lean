/-
  DERIVED. GIVEN WITH THE SEED: THE CARDS: each row of YthbobmpeaemdnaaDoorRows.lean that lists a variable, with what it lists TIED to the program's text (the seventh form; the later family's looks); each row that meets fmt, with fmt's text TOLD by the authors' own Lean function (tested against real Go, not proved from fmt's source: count such statements apart). THE CARD IS WHAT COUNTS. Prove the row's statement (the work); the ties are given (YthbobmpeaemdnaaDoorTie.lean); close each card by the builder's one call (the guide's Derived/Test/ToyasCard.lean, 'card_holds'). Laid BY PROGRAM, IN A SANDBOX (cutbox-door.mjs). By AI agents, Wed Nov 11 2026. No macro, syntax, notation, axiom, sorry.
-/
import Derived.Test.YthbobmpeaemdnaaDoorRows
import GoSem.ClaimSeven
namespace Go.Proofs.YthbobmpeaemdnaaDoor
namespace Rows

/-- THE TIED CARD OF 'jalousielaw20.IndexFull'. -/
def indexFullCard : Claim7 := { stood := { row := indexFullRow, standIns := [], harness := (true, "96a5f09a169fac63f4fc7e06b7fa41ef20ac1a07bb0ef7d65b7e84a998f115e8"), looks := false }, kinds := [], alts := [], laidByText := true, laidKinds := [.data, .data], laidTests := true, laidLooks := .later }
def IndexFullCardSaid : Prop := Claim7.holds Tryd.pinned (.plain (OpenSpec.ofChange indexFullSpec)) indexFullCard

/-- THE TIED CARD OF 'jalousielaw20.IndexPuts'. -/
def indexPutsCard : Claim7 := { stood := { row := indexPutsRow, standIns := [], harness := (true, "96a5f09a169fac63f4fc7e06b7fa41ef20ac1a07bb0ef7d65b7e84a998f115e8"), looks := false }, kinds := [], alts := [], laidByText := true, laidKinds := [.data, .data], laidTests := true, laidLooks := .later }
def IndexPutsCardSaid : Prop := Claim7.holds Tryd.pinned (.plain (OpenSpec.ofChange indexPutsSpec)) indexPutsCard

/-- THE TIED CARD OF 'jalousielaw20.IndexStubs'. -/
def indexStubsCard : Claim7 := { stood := { row := indexStubsRow, standIns := [], harness := (true, "96a5f09a169fac63f4fc7e06b7fa41ef20ac1a07bb0ef7d65b7e84a998f115e8"), looks := false }, kinds := [], alts := [], laidByText := true, laidKinds := [.data, .data], laidTests := true, laidLooks := .later }
def IndexStubsCardSaid : Prop := Claim7.holds Tryd.pinned (.plain (OpenSpec.ofChange indexStubsSpec)) indexStubsCard

/-- THE TIED CARD OF 'jalousielaw20.IndexBatches'. -/
def indexBatchesCard : Claim7 := { stood := { row := indexBatchesRow, standIns := [], harness := (true, "96a5f09a169fac63f4fc7e06b7fa41ef20ac1a07bb0ef7d65b7e84a998f115e8"), looks := false }, kinds := [], alts := [], laidByText := true, laidKinds := [.data, .data], laidTests := true, laidLooks := .later }
def IndexBatchesCardSaid : Prop := Claim7.holds Tryd.pinned (.plain (OpenSpec.ofChange indexBatchesSpec)) indexBatchesCard

/-- THE TIED CARD OF 'jalousielaw20.IndexAll'. -/
def indexAllCard : Claim7 := { stood := { row := indexAllRow, standIns := [], harness := (true, "96a5f09a169fac63f4fc7e06b7fa41ef20ac1a07bb0ef7d65b7e84a998f115e8"), looks := false }, kinds := [], alts := [], laidByText := true, laidKinds := [.data, .data], laidTests := true, laidLooks := .later }
def IndexAllCardSaid : Prop := Claim7.holds Tryd.pinned (.plain (OpenSpec.ofChange indexAllSpec)) indexAllCard

/-- THE SECOND FORM's CARD OF 'jalousielaw20.IndexFull'. -/
def indexFullUptoCard : Claim7 := { stood := { row := indexFullUptoRow, standIns := [], harness := (true, "96a5f09a169fac63f4fc7e06b7fa41ef20ac1a07bb0ef7d65b7e84a998f115e8"), looks := false }, kinds := [], alts := [], laidByText := true, laidKinds := [.data, .data], laidTests := true, laidLooks := .later }
def IndexFullUptoCardSaid : Prop := Claim7.holds Tryd.pinned (.plain (OpenSpec.upto indexFullSpec)) indexFullUptoCard

/-- THE SECOND FORM's CARD OF 'jalousielaw20.IndexPuts'. -/
def indexPutsUptoCard : Claim7 := { stood := { row := indexPutsUptoRow, standIns := [], harness := (true, "96a5f09a169fac63f4fc7e06b7fa41ef20ac1a07bb0ef7d65b7e84a998f115e8"), looks := false }, kinds := [], alts := [], laidByText := true, laidKinds := [.data, .data], laidTests := true, laidLooks := .later }
def IndexPutsUptoCardSaid : Prop := Claim7.holds Tryd.pinned (.plain (OpenSpec.upto indexPutsSpec)) indexPutsUptoCard

/-- THE SECOND FORM's CARD OF 'jalousielaw20.IndexStubs'. -/
def indexStubsUptoCard : Claim7 := { stood := { row := indexStubsUptoRow, standIns := [], harness := (true, "96a5f09a169fac63f4fc7e06b7fa41ef20ac1a07bb0ef7d65b7e84a998f115e8"), looks := false }, kinds := [], alts := [], laidByText := true, laidKinds := [.data, .data], laidTests := true, laidLooks := .later }
def IndexStubsUptoCardSaid : Prop := Claim7.holds Tryd.pinned (.plain (OpenSpec.upto indexStubsSpec)) indexStubsUptoCard

/-- THE SECOND FORM's CARD OF 'jalousielaw20.IndexBatches'. -/
def indexBatchesUptoCard : Claim7 := { stood := { row := indexBatchesUptoRow, standIns := [], harness := (true, "96a5f09a169fac63f4fc7e06b7fa41ef20ac1a07bb0ef7d65b7e84a998f115e8"), looks := false }, kinds := [], alts := [], laidByText := true, laidKinds := [.data, .data], laidTests := true, laidLooks := .later }
def IndexBatchesUptoCardSaid : Prop := Claim7.holds Tryd.pinned (.plain (OpenSpec.upto indexBatchesSpec)) indexBatchesUptoCard

/-- THE SECOND FORM's CARD OF 'jalousielaw20.IndexAll'. -/
def indexAllUptoCard : Claim7 := { stood := { row := indexAllUptoRow, standIns := [], harness := (true, "96a5f09a169fac63f4fc7e06b7fa41ef20ac1a07bb0ef7d65b7e84a998f115e8"), looks := false }, kinds := [], alts := [], laidByText := true, laidKinds := [.data, .data], laidTests := true, laidLooks := .later }
def IndexAllUptoCardSaid : Prop := Claim7.holds Tryd.pinned (.plain (OpenSpec.upto indexAllSpec)) indexAllUptoCard
end Rows
end Go.Proofs.YthbobmpeaemdnaaDoor
