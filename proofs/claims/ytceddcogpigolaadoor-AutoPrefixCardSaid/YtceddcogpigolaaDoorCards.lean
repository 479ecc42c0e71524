/-
  DERIVED. GIVEN WITH THE SEED: THE CARDS: each row of YtceddcogpigolaaDoorRows.lean that lists a variable, with what it lists TIED to the program's text (the seventh form; the later family's looks); each row that meets fmt, with fmt's text TOLD by the authors' own Lean function (tested against real Go, not proved from fmt's source: count such statements apart). THE CARD IS WHAT COUNTS. Prove the row's statement (the work); the ties are given (YtceddcogpigolaaDoorTie.lean); close each card by the builder's one call (the guide's Derived/Test/ToyasCard.lean, 'card_holds'). Laid BY PROGRAM, IN A SANDBOX (cutbox-door.mjs). By AI agents, Wed Nov 11 2026. No macro, syntax, notation, axiom, sorry.
-/
import Derived.Test.YtceddcogpigolaaDoorRows
import GoSem.ClaimSeven
namespace Go.Proofs.YtceddcogpigolaaDoor
namespace Rows

/-- THE TIED CARD OF 'ullagelaw12.FaultOthers'. -/
def faultOthersCard : Claim7 := { stood := { row := faultOthersRow, standIns := [], harness := (true, "1a66e16d780184697c3b287e4ba0a7fe3a6b8588cb84f7822d33da7b71b6a9e5"), looks := true }, kinds := [], alts := [], laidByText := true, laidKinds := [.data, .data, .data, .handle], laidTests := true, laidLooks := .later }
def FaultOthersCardSaid : Prop := Claim7.holds Tryd.pinned (.plain (OpenSpec.ofChange faultOthersSpec)) faultOthersCard

/-- THE TIED CARD OF 'ullagelaw12.FaultTells'. -/
def faultTellsCard : Claim7 := { stood := { row := faultTellsRow, standIns := [], harness := (true, "1a66e16d780184697c3b287e4ba0a7fe3a6b8588cb84f7822d33da7b71b6a9e5"), looks := true }, kinds := [], alts := [], laidByText := true, laidKinds := [.data, .data, .data, .handle], laidTests := true, laidLooks := .later }
def FaultTellsCardSaid : Prop := Claim7.holds Tryd.pinned (.plain (OpenSpec.ofChange faultTellsSpec)) faultTellsCard

/-- THE TIED CARD OF 'ullagelaw19.CandSets'. -/
def candSetsCard : Claim7 := { stood := { row := candSetsRow, standIns := [], harness := (true, "1a66e16d780184697c3b287e4ba0a7fe3a6b8588cb84f7822d33da7b71b6a9e5"), looks := true }, kinds := [], alts := [], laidByText := true, laidKinds := [.data, .wider], laidTests := true, laidLooks := .later }
def CandSetsCardSaid : Prop := Claim7.holds Tryd.pinned (.plain (OpenSpec.ofChange candSetsSpec)) candSetsCard

/-- THE TIED CARD OF 'ullagelaw14.AutoSteps'. -/
def autoStepsCard : Claim7 := { stood := { row := autoStepsRow, standIns := [], harness := (true, "1a66e16d780184697c3b287e4ba0a7fe3a6b8588cb84f7822d33da7b71b6a9e5"), looks := true }, kinds := [], alts := [], laidByText := true, laidKinds := [.wider], laidTests := true, laidLooks := .later }
def AutoStepsCardSaid : Prop := Claim7.holds Tryd.pinned (.plain (OpenSpec.ofChange autoStepsSpec)) autoStepsCard

/-- THE TIED CARD OF 'ullagelaw14.AutoPrefix'. -/
def autoPrefixCard : Claim7 := { stood := { row := autoPrefixRow, standIns := [], harness := (true, "1a66e16d780184697c3b287e4ba0a7fe3a6b8588cb84f7822d33da7b71b6a9e5"), looks := true }, kinds := [], alts := [], laidByText := true, laidKinds := [.wider], laidTests := true, laidLooks := .later }
def AutoPrefixCardSaid : Prop := Claim7.holds Tryd.pinned (.plain (OpenSpec.ofChange autoPrefixSpec)) autoPrefixCard

/-- THE TIED CARD OF 'ullagelaw15.PlainPrefix'. -/
def plainPrefixCard : Claim7 := { stood := { row := plainPrefixRow, standIns := [], harness := (true, "1a66e16d780184697c3b287e4ba0a7fe3a6b8588cb84f7822d33da7b71b6a9e5"), looks := true }, kinds := [], alts := [], laidByText := true, laidKinds := [.wider], laidTests := true, laidLooks := .later }
def PlainPrefixCardSaid : Prop := Claim7.holds Tryd.pinned (.plain (OpenSpec.ofChange plainPrefixSpec)) plainPrefixCard

/-- THE TIED CARD OF 'ullagelaw20.LiveAny'. -/
def liveAnyCard : Claim7 := { stood := { row := liveAnyRow, standIns := [], harness := (true, "1a66e16d780184697c3b287e4ba0a7fe3a6b8588cb84f7822d33da7b71b6a9e5"), looks := true }, kinds := [], alts := [], laidByText := true, laidKinds := [.data, .wider], laidTests := true, laidLooks := .later }
def LiveAnyCardSaid : Prop := Claim7.holds Tryd.pinned (.plain (OpenSpec.ofChange liveAnySpec)) liveAnyCard

/-- THE TIED CARD OF 'ullagelaw09.EncOne'. -/
def encOneCard : Claim7 := { stood := { row := encOneRow, standIns := [], harness := (true, "1a66e16d780184697c3b287e4ba0a7fe3a6b8588cb84f7822d33da7b71b6a9e5"), looks := true }, kinds := [], alts := [], laidByText := true, laidKinds := [.wider], laidTests := true, laidLooks := .later }
def EncOneCardSaid : Prop := Claim7.holds Tryd.pinned (.plain (OpenSpec.ofChange encOneSpec)) encOneCard

/-- THE TIED CARD OF 'ullagelaw11.LimitFits'. -/
def limitFitsCard : Claim7 := { stood := { row := limitFitsRow, standIns := [], harness := (true, "1a66e16d780184697c3b287e4ba0a7fe3a6b8588cb84f7822d33da7b71b6a9e5"), looks := true }, kinds := [], alts := [], laidByText := true, laidKinds := [.wider], laidTests := true, laidLooks := .later }
def LimitFitsCardSaid : Prop := Claim7.holds Tryd.pinned (.plain (OpenSpec.ofChange limitFitsSpec)) limitFitsCard

/-- THE TIED CARD OF 'ullagelaw11.LimitNeeded'. -/
def limitNeededCard : Claim7 := { stood := { row := limitNeededRow, standIns := [], harness := (true, "1a66e16d780184697c3b287e4ba0a7fe3a6b8588cb84f7822d33da7b71b6a9e5"), looks := true }, kinds := [], alts := [], laidByText := true, laidKinds := [.wider], laidTests := true, laidLooks := .later }
def LimitNeededCardSaid : Prop := Claim7.holds Tryd.pinned (.plain (OpenSpec.ofChange limitNeededSpec)) limitNeededCard

/-- THE TIED CARD OF 'ullagelaw11.LimitBoth'. -/
def limitBothCard : Claim7 := { stood := { row := limitBothRow, standIns := [], harness := (true, "1a66e16d780184697c3b287e4ba0a7fe3a6b8588cb84f7822d33da7b71b6a9e5"), looks := true }, kinds := [], alts := [], laidByText := true, laidKinds := [.wider], laidTests := true, laidLooks := .later }
def LimitBothCardSaid : Prop := Claim7.holds Tryd.pinned (.plain (OpenSpec.ofChange limitBothSpec)) limitBothCard

/-- THE SECOND FORM's CARD OF 'ullagelaw12.FaultOthers'. -/
def faultOthersUptoCard : Claim7 := { stood := { row := faultOthersUptoRow, standIns := [], harness := (true, "1a66e16d780184697c3b287e4ba0a7fe3a6b8588cb84f7822d33da7b71b6a9e5"), looks := true }, kinds := [], alts := [], laidByText := true, laidKinds := [.data, .data, .data, .handle], laidTests := true, laidLooks := .later }
def FaultOthersUptoCardSaid : Prop := Claim7.holds Tryd.pinned (.plain (OpenSpec.upto faultOthersSpec)) faultOthersUptoCard

/-- THE SECOND FORM's CARD OF 'ullagelaw12.FaultTells'. -/
def faultTellsUptoCard : Claim7 := { stood := { row := faultTellsUptoRow, standIns := [], harness := (true, "1a66e16d780184697c3b287e4ba0a7fe3a6b8588cb84f7822d33da7b71b6a9e5"), looks := true }, kinds := [], alts := [], laidByText := true, laidKinds := [.data, .data, .data, .handle], laidTests := true, laidLooks := .later }
def FaultTellsUptoCardSaid : Prop := Claim7.holds Tryd.pinned (.plain (OpenSpec.upto faultTellsSpec)) faultTellsUptoCard

/-- THE SECOND FORM's CARD OF 'ullagelaw19.CandSets'. -/
def candSetsUptoCard : Claim7 := { stood := { row := candSetsUptoRow, standIns := [], harness := (true, "1a66e16d780184697c3b287e4ba0a7fe3a6b8588cb84f7822d33da7b71b6a9e5"), looks := true }, kinds := [], alts := [], laidByText := true, laidKinds := [.data, .wider], laidTests := true, laidLooks := .later }
def CandSetsUptoCardSaid : Prop := Claim7.holds Tryd.pinned (.plain (OpenSpec.upto candSetsSpec)) candSetsUptoCard

/-- THE SECOND FORM's CARD OF 'ullagelaw14.AutoSteps'. -/
def autoStepsUptoCard : Claim7 := { stood := { row := autoStepsUptoRow, standIns := [], harness := (true, "1a66e16d780184697c3b287e4ba0a7fe3a6b8588cb84f7822d33da7b71b6a9e5"), looks := true }, kinds := [], alts := [], laidByText := true, laidKinds := [.wider], laidTests := true, laidLooks := .later }
def AutoStepsUptoCardSaid : Prop := Claim7.holds Tryd.pinned (.plain (OpenSpec.upto autoStepsSpec)) autoStepsUptoCard

/-- THE SECOND FORM's CARD OF 'ullagelaw14.AutoPrefix'. -/
def autoPrefixUptoCard : Claim7 := { stood := { row := autoPrefixUptoRow, standIns := [], harness := (true, "1a66e16d780184697c3b287e4ba0a7fe3a6b8588cb84f7822d33da7b71b6a9e5"), looks := true }, kinds := [], alts := [], laidByText := true, laidKinds := [.wider], laidTests := true, laidLooks := .later }
def AutoPrefixUptoCardSaid : Prop := Claim7.holds Tryd.pinned (.plain (OpenSpec.upto autoPrefixSpec)) autoPrefixUptoCard

/-- THE SECOND FORM's CARD OF 'ullagelaw15.PlainPrefix'. -/
def plainPrefixUptoCard : Claim7 := { stood := { row := plainPrefixUptoRow, standIns := [], harness := (true, "1a66e16d780184697c3b287e4ba0a7fe3a6b8588cb84f7822d33da7b71b6a9e5"), looks := true }, kinds := [], alts := [], laidByText := true, laidKinds := [.wider], laidTests := true, laidLooks := .later }
def PlainPrefixUptoCardSaid : Prop := Claim7.holds Tryd.pinned (.plain (OpenSpec.upto plainPrefixSpec)) plainPrefixUptoCard

/-- THE SECOND FORM's CARD OF 'ullagelaw20.LiveAny'. -/
def liveAnyUptoCard : Claim7 := { stood := { row := liveAnyUptoRow, standIns := [], harness := (true, "1a66e16d780184697c3b287e4ba0a7fe3a6b8588cb84f7822d33da7b71b6a9e5"), looks := true }, kinds := [], alts := [], laidByText := true, laidKinds := [.data, .wider], laidTests := true, laidLooks := .later }
def LiveAnyUptoCardSaid : Prop := Claim7.holds Tryd.pinned (.plain (OpenSpec.upto liveAnySpec)) liveAnyUptoCard

/-- THE SECOND FORM's CARD OF 'ullagelaw09.EncOne'. -/
def encOneUptoCard : Claim7 := { stood := { row := encOneUptoRow, standIns := [], harness := (true, "1a66e16d780184697c3b287e4ba0a7fe3a6b8588cb84f7822d33da7b71b6a9e5"), looks := true }, kinds := [], alts := [], laidByText := true, laidKinds := [.wider], laidTests := true, laidLooks := .later }
def EncOneUptoCardSaid : Prop := Claim7.holds Tryd.pinned (.plain (OpenSpec.upto encOneSpec)) encOneUptoCard

/-- THE SECOND FORM's CARD OF 'ullagelaw11.LimitFits'. -/
def limitFitsUptoCard : Claim7 := { stood := { row := limitFitsUptoRow, standIns := [], harness := (true, "1a66e16d780184697c3b287e4ba0a7fe3a6b8588cb84f7822d33da7b71b6a9e5"), looks := true }, kinds := [], alts := [], laidByText := true, laidKinds := [.wider], laidTests := true, laidLooks := .later }
def LimitFitsUptoCardSaid : Prop := Claim7.holds Tryd.pinned (.plain (OpenSpec.upto limitFitsSpec)) limitFitsUptoCard

/-- THE SECOND FORM's CARD OF 'ullagelaw11.LimitNeeded'. -/
def limitNeededUptoCard : Claim7 := { stood := { row := limitNeededUptoRow, standIns := [], harness := (true, "1a66e16d780184697c3b287e4ba0a7fe3a6b8588cb84f7822d33da7b71b6a9e5"), looks := true }, kinds := [], alts := [], laidByText := true, laidKinds := [.wider], laidTests := true, laidLooks := .later }
def LimitNeededUptoCardSaid : Prop := Claim7.holds Tryd.pinned (.plain (OpenSpec.upto limitNeededSpec)) limitNeededUptoCard

/-- THE SECOND FORM's CARD OF 'ullagelaw11.LimitBoth'. -/
def limitBothUptoCard : Claim7 := { stood := { row := limitBothUptoRow, standIns := [], harness := (true, "1a66e16d780184697c3b287e4ba0a7fe3a6b8588cb84f7822d33da7b71b6a9e5"), looks := true }, kinds := [], alts := [], laidByText := true, laidKinds := [.wider], laidTests := true, laidLooks := .later }
def LimitBothUptoCardSaid : Prop := Claim7.holds Tryd.pinned (.plain (OpenSpec.upto limitBothSpec)) limitBothUptoCard
end Rows
end Go.Proofs.YtceddcogpigolaaDoor
