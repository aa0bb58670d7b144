/-
  DERIVED. GIVEN WITH THE SEED: THE CARDS: each row of YtjfbmjegdjpfbaaDoorRows.lean that lists a variable, with what it lists TIED to the program's text (the seventh form; the later family's looks); each row that meets fmt, with fmt's text TOLD by the authors' own Lean function (tested against real Go, not proved from fmt's source: count such statements apart). THE CARD IS WHAT COUNTS. Prove the row's statement (the work); the ties are given (YtjfbmjegdjpfbaaDoorTie.lean); close each card by the builder's one call (the guide's Derived/Test/ToyasCard.lean, 'card_holds'). Laid BY PROGRAM, IN A SANDBOX (cutbox-door.mjs). By AI agents, Wed Nov 11 2026. No macro, syntax, notation, axiom, sorry.
-/
import Derived.Test.YtjfbmjegdjpfbaaDoorRows
import GoSem.ClaimSeven
namespace Go.Proofs.YtjfbmjegdjpfbaaDoor
namespace Rows

/-- THE TIED CARD OF 'certpathlaw05.DateCivil'. -/
def dateCivilCard : Claim7 := { stood := { row := dateCivilRow, standIns := [], harness := (true, "bf7364fe5ea8bf321f7bc98668cf0c4d6f43a1a443a105c5e0051187dd3079b2"), looks := false }, kinds := [], alts := [], laidByText := true, laidKinds := [.data], laidTests := true, laidLooks := .later }
def DateCivilCardSaid : Prop := Claim7.holds Tryd.pinned (.plain (OpenSpec.ofChange dateCivilSpec)) dateCivilCard

/-- THE TIED CARD OF 'certpathlaw05.DateSeconds'. -/
def dateSecondsCard : Claim7 := { stood := { row := dateSecondsRow, standIns := [], harness := (true, "bf7364fe5ea8bf321f7bc98668cf0c4d6f43a1a443a105c5e0051187dd3079b2"), looks := false }, kinds := [], alts := [], laidByText := true, laidKinds := [.data], laidTests := true, laidLooks := .later }
def DateSecondsCardSaid : Prop := Claim7.holds Tryd.pinned (.plain (OpenSpec.ofChange dateSecondsSpec)) dateSecondsCard

/-- THE TIED CARD OF 'certpathlaw05.DateDecode'. -/
def dateDecodeCard : Claim7 := { stood := { row := dateDecodeRow, standIns := [], harness := (true, "bf7364fe5ea8bf321f7bc98668cf0c4d6f43a1a443a105c5e0051187dd3079b2"), looks := false }, kinds := [], alts := [], laidByText := true, laidKinds := [.data], laidTests := true, laidLooks := .later }
def DateDecodeCardSaid : Prop := Claim7.holds Tryd.pinned (.plain (OpenSpec.ofChange dateDecodeSpec)) dateDecodeCard

/-- THE TIED CARD OF 'certpathlaw05.DateOrder'. -/
def dateOrderCard : Claim7 := { stood := { row := dateOrderRow, standIns := [], harness := (true, "bf7364fe5ea8bf321f7bc98668cf0c4d6f43a1a443a105c5e0051187dd3079b2"), looks := false }, kinds := [], alts := [], laidByText := true, laidKinds := [.data], laidTests := true, laidLooks := .later }
def DateOrderCardSaid : Prop := Claim7.holds Tryd.pinned (.plain (OpenSpec.ofChange dateOrderSpec)) dateOrderCard

/-- THE TIED CARD OF 'certpathlaw05.DateText'. -/
def dateTextCard : Claim7 := { stood := { row := dateTextRow, standIns := [], harness := (true, "bf7364fe5ea8bf321f7bc98668cf0c4d6f43a1a443a105c5e0051187dd3079b2"), looks := false }, kinds := [], alts := [], laidByText := true, laidKinds := [.data], laidTests := true, laidLooks := .later }
def DateTextCardSaid : Prop := Claim7.holds Tryd.pinned (.plain (OpenSpec.ofChange dateTextSpec)) dateTextCard

/-- THE TIED CARD OF 'certpathlaw05.DateEncode'. -/
def dateEncodeCard : Claim7 := { stood := { row := dateEncodeRow, standIns := [], harness := (true, "bf7364fe5ea8bf321f7bc98668cf0c4d6f43a1a443a105c5e0051187dd3079b2"), looks := false }, kinds := [], alts := [], laidByText := true, laidKinds := [.data], laidTests := true, laidLooks := .later }
def DateEncodeCardSaid : Prop := Claim7.holds Tryd.pinned (.plain (OpenSpec.ofChange dateEncodeSpec)) dateEncodeCard

/-- THE SECOND FORM's CARD OF 'certpathlaw05.DateCivil'. -/
def dateCivilUptoCard : Claim7 := { stood := { row := dateCivilUptoRow, standIns := [], harness := (true, "bf7364fe5ea8bf321f7bc98668cf0c4d6f43a1a443a105c5e0051187dd3079b2"), looks := false }, kinds := [], alts := [], laidByText := true, laidKinds := [.data], laidTests := true, laidLooks := .later }
def DateCivilUptoCardSaid : Prop := Claim7.holds Tryd.pinned (.plain (OpenSpec.upto dateCivilSpec)) dateCivilUptoCard

/-- THE SECOND FORM's CARD OF 'certpathlaw05.DateSeconds'. -/
def dateSecondsUptoCard : Claim7 := { stood := { row := dateSecondsUptoRow, standIns := [], harness := (true, "bf7364fe5ea8bf321f7bc98668cf0c4d6f43a1a443a105c5e0051187dd3079b2"), looks := false }, kinds := [], alts := [], laidByText := true, laidKinds := [.data], laidTests := true, laidLooks := .later }
def DateSecondsUptoCardSaid : Prop := Claim7.holds Tryd.pinned (.plain (OpenSpec.upto dateSecondsSpec)) dateSecondsUptoCard

/-- THE SECOND FORM's CARD OF 'certpathlaw05.DateDecode'. -/
def dateDecodeUptoCard : Claim7 := { stood := { row := dateDecodeUptoRow, standIns := [], harness := (true, "bf7364fe5ea8bf321f7bc98668cf0c4d6f43a1a443a105c5e0051187dd3079b2"), looks := false }, kinds := [], alts := [], laidByText := true, laidKinds := [.data], laidTests := true, laidLooks := .later }
def DateDecodeUptoCardSaid : Prop := Claim7.holds Tryd.pinned (.plain (OpenSpec.upto dateDecodeSpec)) dateDecodeUptoCard

/-- THE SECOND FORM's CARD OF 'certpathlaw05.DateOrder'. -/
def dateOrderUptoCard : Claim7 := { stood := { row := dateOrderUptoRow, standIns := [], harness := (true, "bf7364fe5ea8bf321f7bc98668cf0c4d6f43a1a443a105c5e0051187dd3079b2"), looks := false }, kinds := [], alts := [], laidByText := true, laidKinds := [.data], laidTests := true, laidLooks := .later }
def DateOrderUptoCardSaid : Prop := Claim7.holds Tryd.pinned (.plain (OpenSpec.upto dateOrderSpec)) dateOrderUptoCard

/-- THE SECOND FORM's CARD OF 'certpathlaw05.DateText'. -/
def dateTextUptoCard : Claim7 := { stood := { row := dateTextUptoRow, standIns := [], harness := (true, "bf7364fe5ea8bf321f7bc98668cf0c4d6f43a1a443a105c5e0051187dd3079b2"), looks := false }, kinds := [], alts := [], laidByText := true, laidKinds := [.data], laidTests := true, laidLooks := .later }
def DateTextUptoCardSaid : Prop := Claim7.holds Tryd.pinned (.plain (OpenSpec.upto dateTextSpec)) dateTextUptoCard

/-- THE SECOND FORM's CARD OF 'certpathlaw05.DateEncode'. -/
def dateEncodeUptoCard : Claim7 := { stood := { row := dateEncodeUptoRow, standIns := [], harness := (true, "bf7364fe5ea8bf321f7bc98668cf0c4d6f43a1a443a105c5e0051187dd3079b2"), looks := false }, kinds := [], alts := [], laidByText := true, laidKinds := [.data], laidTests := true, laidLooks := .later }
def DateEncodeUptoCardSaid : Prop := Claim7.holds Tryd.pinned (.plain (OpenSpec.upto dateEncodeSpec)) dateEncodeUptoCard
end Rows
end Go.Proofs.YtjfbmjegdjpfbaaDoor
