/-
  DERIVED. GIVEN WITH THE SEED: THE CARDS: each row of YtmfkmoecbnghhaaDoorRows.lean that lists a variable, with what it lists TIED to the program's text (the seventh form; the later family's looks); each row that meets fmt, with fmt's text TOLD by the authors' own Lean function (tested against real Go, not proved from fmt's source: count such statements apart). THE CARD IS WHAT COUNTS. Prove the row's statement (the work); the ties are given (YtmfkmoecbnghhaaDoorTie.lean); close each card by the builder's one call (the guide's Derived/Test/ToyasCard.lean, 'card_holds'). Laid BY PROGRAM, IN A SANDBOX (cutbox-door.mjs). By AI agents, Wed Nov 11 2026. No macro, syntax, notation, axiom, sorry.
-/
import Derived.Test.YtmfkmoecbnghhaaDoorRows
import GoSem.ClaimSeven
namespace Go.Proofs.YtmfkmoecbnghhaaDoor
namespace Rows

/-- THE TIED CARD OF 'hazellaw15.CallTexts'. -/
def callTextsCard : Claim7 := { stood := { row := callTextsRow, standIns := [], harness := (true, "fecf5939ba78ebe3e2045482d2e0f34938e3d4e69cd4282cda22098b366bf2e4"), looks := true }, kinds := [], alts := [], laidByText := true, laidKinds := [.data, .data, .data, .data, .sentinel, .sentinel, .pinned], laidTests := true, laidLooks := .later }
def CallTextsCardSaid : Prop := Claim7.holds Tryd.pinned (.plain (OpenSpec.ofChange callTextsSpec)) callTextsCard

/-- THE TIED CARD OF 'hazellaw15.CallBack'. -/
def callBackCard : Claim7 := { stood := { row := callBackRow, standIns := [], harness := (true, "fecf5939ba78ebe3e2045482d2e0f34938e3d4e69cd4282cda22098b366bf2e4"), looks := true }, kinds := [], alts := [], laidByText := true, laidKinds := [.data, .data, .data, .data, .sentinel, .sentinel, .pinned], laidTests := true, laidLooks := .later }
def CallBackCardSaid : Prop := Claim7.holds Tryd.pinned (.plain (OpenSpec.ofChange callBackSpec)) callBackCard

/-- THE TIED CARD OF 'hazellaw15.CallStops'. -/
def callStopsCard : Claim7 := { stood := { row := callStopsRow, standIns := [], harness := (true, "fecf5939ba78ebe3e2045482d2e0f34938e3d4e69cd4282cda22098b366bf2e4"), looks := true }, kinds := [], alts := [], laidByText := true, laidKinds := [.data, .data, .data, .data, .sentinel, .sentinel, .pinned], laidTests := true, laidLooks := .later }
def CallStopsCardSaid : Prop := Claim7.holds Tryd.pinned (.plain (OpenSpec.ofChange callStopsSpec)) callStopsCard

/-- THE TIED CARD OF 'hazellaw15.CallLines'. -/
def callLinesCard : Claim7 := { stood := { row := callLinesRow, standIns := [], harness := (true, "fecf5939ba78ebe3e2045482d2e0f34938e3d4e69cd4282cda22098b366bf2e4"), looks := true }, kinds := [], alts := [], laidByText := true, laidKinds := [.data, .data, .data, .data, .sentinel, .sentinel, .pinned], laidTests := true, laidLooks := .later }
def CallLinesCardSaid : Prop := Claim7.holds Tryd.pinned (.plain (OpenSpec.ofChange callLinesSpec)) callLinesCard

/-- THE TIED CARD OF 'hazellaw15.CallSame'. -/
def callSameCard : Claim7 := { stood := { row := callSameRow, standIns := [], harness := (true, "fecf5939ba78ebe3e2045482d2e0f34938e3d4e69cd4282cda22098b366bf2e4"), looks := true }, kinds := [], alts := [], laidByText := true, laidKinds := [.data, .data, .data, .data, .sentinel, .sentinel, .pinned], laidTests := true, laidLooks := .later }
def CallSameCardSaid : Prop := Claim7.holds Tryd.pinned (.plain (OpenSpec.ofChange callSameSpec)) callSameCard

/-- THE SECOND FORM's CARD OF 'hazellaw15.CallTexts'. -/
def callTextsUptoCard : Claim7 := { stood := { row := callTextsUptoRow, standIns := [], harness := (true, "fecf5939ba78ebe3e2045482d2e0f34938e3d4e69cd4282cda22098b366bf2e4"), looks := true }, kinds := [], alts := [], laidByText := true, laidKinds := [.data, .data, .data, .data, .sentinel, .sentinel, .pinned], laidTests := true, laidLooks := .later }
def CallTextsUptoCardSaid : Prop := Claim7.holds Tryd.pinned (.plain (OpenSpec.upto callTextsSpec)) callTextsUptoCard

/-- THE SECOND FORM's CARD OF 'hazellaw15.CallBack'. -/
def callBackUptoCard : Claim7 := { stood := { row := callBackUptoRow, standIns := [], harness := (true, "fecf5939ba78ebe3e2045482d2e0f34938e3d4e69cd4282cda22098b366bf2e4"), looks := true }, kinds := [], alts := [], laidByText := true, laidKinds := [.data, .data, .data, .data, .sentinel, .sentinel, .pinned], laidTests := true, laidLooks := .later }
def CallBackUptoCardSaid : Prop := Claim7.holds Tryd.pinned (.plain (OpenSpec.upto callBackSpec)) callBackUptoCard

/-- THE SECOND FORM's CARD OF 'hazellaw15.CallStops'. -/
def callStopsUptoCard : Claim7 := { stood := { row := callStopsUptoRow, standIns := [], harness := (true, "fecf5939ba78ebe3e2045482d2e0f34938e3d4e69cd4282cda22098b366bf2e4"), looks := true }, kinds := [], alts := [], laidByText := true, laidKinds := [.data, .data, .data, .data, .sentinel, .sentinel, .pinned], laidTests := true, laidLooks := .later }
def CallStopsUptoCardSaid : Prop := Claim7.holds Tryd.pinned (.plain (OpenSpec.upto callStopsSpec)) callStopsUptoCard

/-- THE SECOND FORM's CARD OF 'hazellaw15.CallLines'. -/
def callLinesUptoCard : Claim7 := { stood := { row := callLinesUptoRow, standIns := [], harness := (true, "fecf5939ba78ebe3e2045482d2e0f34938e3d4e69cd4282cda22098b366bf2e4"), looks := true }, kinds := [], alts := [], laidByText := true, laidKinds := [.data, .data, .data, .data, .sentinel, .sentinel, .pinned], laidTests := true, laidLooks := .later }
def CallLinesUptoCardSaid : Prop := Claim7.holds Tryd.pinned (.plain (OpenSpec.upto callLinesSpec)) callLinesUptoCard

/-- THE SECOND FORM's CARD OF 'hazellaw15.CallSame'. -/
def callSameUptoCard : Claim7 := { stood := { row := callSameUptoRow, standIns := [], harness := (true, "fecf5939ba78ebe3e2045482d2e0f34938e3d4e69cd4282cda22098b366bf2e4"), looks := true }, kinds := [], alts := [], laidByText := true, laidKinds := [.data, .data, .data, .data, .sentinel, .sentinel, .pinned], laidTests := true, laidLooks := .later }
def CallSameUptoCardSaid : Prop := Claim7.holds Tryd.pinned (.plain (OpenSpec.upto callSameSpec)) callSameUptoCard
end Rows
end Go.Proofs.YtmfkmoecbnghhaaDoor
