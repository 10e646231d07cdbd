/-
  DERIVED. GIVEN WITH THE SEED: THE CARDS: each row of YtdbnmdchecacdaaDoorRows.lean that lists a variable, with what it lists TIED to the program's text (the seventh form; the later family's looks); each row that meets fmt, with fmt's text TOLD by the authors' own Lean function (tested against real Go, not proved from fmt's source: count such statements apart). THE CARD IS WHAT COUNTS. Prove the row's statement (the work); the ties are given (YtdbnmdchecacdaaDoorTie.lean); close each card by the builder's one call (the guide's Derived/Test/ToyasCard.lean, 'card_holds'). Laid BY PROGRAM, IN A SANDBOX (cutbox-door.mjs). By AI agents, Wed Nov 11 2026. No macro, syntax, notation, axiom, sorry.
-/
import Derived.Test.YtdbnmdchecacdaaDoorRows
import GoSem.ClaimSeven
namespace Go.Proofs.YtdbnmdchecacdaaDoor
namespace Rows

/-- THE TIED CARD OF 'laws.FnExactUnpack'. -/
def fnExactUnpackCard : Claim7 := { stood := { row := fnExactUnpackRow, standIns := [], harness := (true, "1ce686cdb28934bb7b29088d5f764df3ddb99739d645c5d1bb8ff072b579d396"), looks := true }, kinds := [], alts := [], laidByText := true, laidKinds := [.data], laidTests := true, laidLooks := .later }
def FnExactUnpackCardSaid : Prop := Claim7.holds Tryd.pinned (.plain (OpenSpec.ofChange fnExactUnpackSpec)) fnExactUnpackCard

/-- THE TIED CARD OF 'laws.FnExactOrder'. -/
def fnExactOrderCard : Claim7 := { stood := { row := fnExactOrderRow, standIns := [], harness := (true, "1ce686cdb28934bb7b29088d5f764df3ddb99739d645c5d1bb8ff072b579d396"), looks := true }, kinds := [], alts := [], laidByText := true, laidKinds := [.data], laidTests := true, laidLooks := .later }
def FnExactOrderCardSaid : Prop := Claim7.holds Tryd.pinned (.plain (OpenSpec.ofChange fnExactOrderSpec)) fnExactOrderCard

/-- THE TIED CARD OF 'laws.FnExactPack'. -/
def fnExactPackCard : Claim7 := { stood := { row := fnExactPackRow, standIns := [], harness := (true, "1ce686cdb28934bb7b29088d5f764df3ddb99739d645c5d1bb8ff072b579d396"), looks := true }, kinds := [], alts := [], laidByText := true, laidKinds := [.data], laidTests := true, laidLooks := .later }
def FnExactPackCardSaid : Prop := Claim7.holds Tryd.pinned (.plain (OpenSpec.ofChange fnExactPackSpec)) fnExactPackCard

/-- THE TIED CARD OF 'laws.FnExactBounds'. -/
def fnExactBoundsCard : Claim7 := { stood := { row := fnExactBoundsRow, standIns := [], harness := (true, "1ce686cdb28934bb7b29088d5f764df3ddb99739d645c5d1bb8ff072b579d396"), looks := true }, kinds := [], alts := [], laidByText := true, laidKinds := [.data], laidTests := true, laidLooks := .later }
def FnExactBoundsCardSaid : Prop := Claim7.holds Tryd.pinned (.plain (OpenSpec.ofChange fnExactBoundsSpec)) fnExactBoundsCard

/-- THE TIED CARD OF 'laws.FnExactStep'. -/
def fnExactStepCard : Claim7 := { stood := { row := fnExactStepRow, standIns := [], harness := (true, "1ce686cdb28934bb7b29088d5f764df3ddb99739d645c5d1bb8ff072b579d396"), looks := true }, kinds := [], alts := [], laidByText := true, laidKinds := [.data], laidTests := true, laidLooks := .later }
def FnExactStepCardSaid : Prop := Claim7.holds Tryd.pinned (.plain (OpenSpec.ofChange fnExactStepSpec)) fnExactStepCard

/-- THE TIED CARD OF 'laws.FnStep'. -/
def fnStepCard : Claim7 := { stood := { row := fnStepRow, standIns := [], harness := (true, "1ce686cdb28934bb7b29088d5f764df3ddb99739d645c5d1bb8ff072b579d396"), looks := true }, kinds := [], alts := [], laidByText := true, laidKinds := [.data], laidTests := true, laidLooks := .later }
def FnStepCardSaid : Prop := Claim7.holds Tryd.pinned (.plain (OpenSpec.ofChange fnStepSpec)) fnStepCard

/-- THE TIED CARD OF 'laws.FnExactRoundRatio'. -/
def fnExactRoundRatioCard : Claim7 := { stood := { row := fnExactRoundRatioRow, standIns := [], harness := (true, "1ce686cdb28934bb7b29088d5f764df3ddb99739d645c5d1bb8ff072b579d396"), looks := true }, kinds := [], alts := [], laidByText := true, laidKinds := [.data], laidTests := true, laidLooks := .later }
def FnExactRoundRatioCardSaid : Prop := Claim7.holds Tryd.pinned (.plain (OpenSpec.ofChange fnExactRoundRatioSpec)) fnExactRoundRatioCard

/-- THE TIED CARD OF 'laws.FnBounds'. -/
def fnBoundsCard : Claim7 := { stood := { row := fnBoundsRow, standIns := [], harness := (true, "1ce686cdb28934bb7b29088d5f764df3ddb99739d645c5d1bb8ff072b579d396"), looks := true }, kinds := [], alts := [], laidByText := true, laidKinds := [.data], laidTests := true, laidLooks := .later }
def FnBoundsCardSaid : Prop := Claim7.holds Tryd.pinned (.plain (OpenSpec.ofChange fnBoundsSpec)) fnBoundsCard

/-- THE TIED CARD OF 'laws.FnPack'. -/
def fnPackCard : Claim7 := { stood := { row := fnPackRow, standIns := [], harness := (true, "1ce686cdb28934bb7b29088d5f764df3ddb99739d645c5d1bb8ff072b579d396"), looks := true }, kinds := [], alts := [], laidByText := true, laidKinds := [.data], laidTests := true, laidLooks := .later }
def FnPackCardSaid : Prop := Claim7.holds Tryd.pinned (.plain (OpenSpec.ofChange fnPackSpec)) fnPackCard

/-- THE TIED CARD OF 'laws.FnExactShortest'. -/
def fnExactShortestCard : Claim7 := { stood := { row := fnExactShortestRow, standIns := [], harness := (true, "1ce686cdb28934bb7b29088d5f764df3ddb99739d645c5d1bb8ff072b579d396"), looks := true }, kinds := [], alts := [], laidByText := true, laidKinds := [.data], laidTests := true, laidLooks := .later }
def FnExactShortestCardSaid : Prop := Claim7.holds Tryd.pinned (.plain (OpenSpec.ofChange fnExactShortestSpec)) fnExactShortestCard

/-- THE TIED CARD OF 'laws.FnNearest'. -/
def fnNearestCard : Claim7 := { stood := { row := fnNearestRow, standIns := [], harness := (true, "1ce686cdb28934bb7b29088d5f764df3ddb99739d645c5d1bb8ff072b579d396"), looks := true }, kinds := [], alts := [], laidByText := true, laidKinds := [.data], laidTests := true, laidLooks := .later }
def FnNearestCardSaid : Prop := Claim7.holds Tryd.pinned (.plain (OpenSpec.ofChange fnNearestSpec)) fnNearestCard

/-- THE TIED CARD OF 'laws.FnExactParseExact'. -/
def fnExactParseExactCard : Claim7 := { stood := { row := fnExactParseExactRow, standIns := [], harness := (true, "1ce686cdb28934bb7b29088d5f764df3ddb99739d645c5d1bb8ff072b579d396"), looks := true }, kinds := [], alts := [], laidByText := true, laidKinds := [.data], laidTests := true, laidLooks := .later }
def FnExactParseExactCardSaid : Prop := Claim7.holds Tryd.pinned (.plain (OpenSpec.ofChange fnExactParseExactSpec)) fnExactParseExactCard

/-- THE SECOND FORM's CARD OF 'laws.FnExactUnpack'. -/
def fnExactUnpackUptoCard : Claim7 := { stood := { row := fnExactUnpackUptoRow, standIns := [], harness := (true, "1ce686cdb28934bb7b29088d5f764df3ddb99739d645c5d1bb8ff072b579d396"), looks := true }, kinds := [], alts := [], laidByText := true, laidKinds := [.data], laidTests := true, laidLooks := .later }
def FnExactUnpackUptoCardSaid : Prop := Claim7.holds Tryd.pinned (.plain (OpenSpec.upto fnExactUnpackSpec)) fnExactUnpackUptoCard

/-- THE SECOND FORM's CARD OF 'laws.FnExactOrder'. -/
def fnExactOrderUptoCard : Claim7 := { stood := { row := fnExactOrderUptoRow, standIns := [], harness := (true, "1ce686cdb28934bb7b29088d5f764df3ddb99739d645c5d1bb8ff072b579d396"), looks := true }, kinds := [], alts := [], laidByText := true, laidKinds := [.data], laidTests := true, laidLooks := .later }
def FnExactOrderUptoCardSaid : Prop := Claim7.holds Tryd.pinned (.plain (OpenSpec.upto fnExactOrderSpec)) fnExactOrderUptoCard

/-- THE SECOND FORM's CARD OF 'laws.FnExactPack'. -/
def fnExactPackUptoCard : Claim7 := { stood := { row := fnExactPackUptoRow, standIns := [], harness := (true, "1ce686cdb28934bb7b29088d5f764df3ddb99739d645c5d1bb8ff072b579d396"), looks := true }, kinds := [], alts := [], laidByText := true, laidKinds := [.data], laidTests := true, laidLooks := .later }
def FnExactPackUptoCardSaid : Prop := Claim7.holds Tryd.pinned (.plain (OpenSpec.upto fnExactPackSpec)) fnExactPackUptoCard

/-- THE SECOND FORM's CARD OF 'laws.FnExactBounds'. -/
def fnExactBoundsUptoCard : Claim7 := { stood := { row := fnExactBoundsUptoRow, standIns := [], harness := (true, "1ce686cdb28934bb7b29088d5f764df3ddb99739d645c5d1bb8ff072b579d396"), looks := true }, kinds := [], alts := [], laidByText := true, laidKinds := [.data], laidTests := true, laidLooks := .later }
def FnExactBoundsUptoCardSaid : Prop := Claim7.holds Tryd.pinned (.plain (OpenSpec.upto fnExactBoundsSpec)) fnExactBoundsUptoCard

/-- THE SECOND FORM's CARD OF 'laws.FnExactStep'. -/
def fnExactStepUptoCard : Claim7 := { stood := { row := fnExactStepUptoRow, standIns := [], harness := (true, "1ce686cdb28934bb7b29088d5f764df3ddb99739d645c5d1bb8ff072b579d396"), looks := true }, kinds := [], alts := [], laidByText := true, laidKinds := [.data], laidTests := true, laidLooks := .later }
def FnExactStepUptoCardSaid : Prop := Claim7.holds Tryd.pinned (.plain (OpenSpec.upto fnExactStepSpec)) fnExactStepUptoCard

/-- THE SECOND FORM's CARD OF 'laws.FnStep'. -/
def fnStepUptoCard : Claim7 := { stood := { row := fnStepUptoRow, standIns := [], harness := (true, "1ce686cdb28934bb7b29088d5f764df3ddb99739d645c5d1bb8ff072b579d396"), looks := true }, kinds := [], alts := [], laidByText := true, laidKinds := [.data], laidTests := true, laidLooks := .later }
def FnStepUptoCardSaid : Prop := Claim7.holds Tryd.pinned (.plain (OpenSpec.upto fnStepSpec)) fnStepUptoCard

/-- THE SECOND FORM's CARD OF 'laws.FnExactRoundRatio'. -/
def fnExactRoundRatioUptoCard : Claim7 := { stood := { row := fnExactRoundRatioUptoRow, standIns := [], harness := (true, "1ce686cdb28934bb7b29088d5f764df3ddb99739d645c5d1bb8ff072b579d396"), looks := true }, kinds := [], alts := [], laidByText := true, laidKinds := [.data], laidTests := true, laidLooks := .later }
def FnExactRoundRatioUptoCardSaid : Prop := Claim7.holds Tryd.pinned (.plain (OpenSpec.upto fnExactRoundRatioSpec)) fnExactRoundRatioUptoCard

/-- THE SECOND FORM's CARD OF 'laws.FnBounds'. -/
def fnBoundsUptoCard : Claim7 := { stood := { row := fnBoundsUptoRow, standIns := [], harness := (true, "1ce686cdb28934bb7b29088d5f764df3ddb99739d645c5d1bb8ff072b579d396"), looks := true }, kinds := [], alts := [], laidByText := true, laidKinds := [.data], laidTests := true, laidLooks := .later }
def FnBoundsUptoCardSaid : Prop := Claim7.holds Tryd.pinned (.plain (OpenSpec.upto fnBoundsSpec)) fnBoundsUptoCard

/-- THE SECOND FORM's CARD OF 'laws.FnPack'. -/
def fnPackUptoCard : Claim7 := { stood := { row := fnPackUptoRow, standIns := [], harness := (true, "1ce686cdb28934bb7b29088d5f764df3ddb99739d645c5d1bb8ff072b579d396"), looks := true }, kinds := [], alts := [], laidByText := true, laidKinds := [.data], laidTests := true, laidLooks := .later }
def FnPackUptoCardSaid : Prop := Claim7.holds Tryd.pinned (.plain (OpenSpec.upto fnPackSpec)) fnPackUptoCard

/-- THE SECOND FORM's CARD OF 'laws.FnExactShortest'. -/
def fnExactShortestUptoCard : Claim7 := { stood := { row := fnExactShortestUptoRow, standIns := [], harness := (true, "1ce686cdb28934bb7b29088d5f764df3ddb99739d645c5d1bb8ff072b579d396"), looks := true }, kinds := [], alts := [], laidByText := true, laidKinds := [.data], laidTests := true, laidLooks := .later }
def FnExactShortestUptoCardSaid : Prop := Claim7.holds Tryd.pinned (.plain (OpenSpec.upto fnExactShortestSpec)) fnExactShortestUptoCard

/-- THE SECOND FORM's CARD OF 'laws.FnNearest'. -/
def fnNearestUptoCard : Claim7 := { stood := { row := fnNearestUptoRow, standIns := [], harness := (true, "1ce686cdb28934bb7b29088d5f764df3ddb99739d645c5d1bb8ff072b579d396"), looks := true }, kinds := [], alts := [], laidByText := true, laidKinds := [.data], laidTests := true, laidLooks := .later }
def FnNearestUptoCardSaid : Prop := Claim7.holds Tryd.pinned (.plain (OpenSpec.upto fnNearestSpec)) fnNearestUptoCard

/-- THE SECOND FORM's CARD OF 'laws.FnExactParseExact'. -/
def fnExactParseExactUptoCard : Claim7 := { stood := { row := fnExactParseExactUptoRow, standIns := [], harness := (true, "1ce686cdb28934bb7b29088d5f764df3ddb99739d645c5d1bb8ff072b579d396"), looks := true }, kinds := [], alts := [], laidByText := true, laidKinds := [.data], laidTests := true, laidLooks := .later }
def FnExactParseExactUptoCardSaid : Prop := Claim7.holds Tryd.pinned (.plain (OpenSpec.upto fnExactParseExactSpec)) fnExactParseExactUptoCard
end Rows
end Go.Proofs.YtdbnmdchecacdaaDoor
