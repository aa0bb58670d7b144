/-
  NARROWER THAN 'FOR EVERY INPUT', by the rows' own cells (each row's printed sentence says how): DateCivil: laid · DateSeconds: laid · DateDecode: laid · DateOrder: laid · DateText: laid · DateEncode: laid.
  DERIVED. THE GIVEN ROWS OF THIS SEAT. 6 by the template 'for every input the law returns true; each argument reads behind the call as it read before'; 0 by the template 'total and deterministic' (their statements: YtjfbmjegdjpfbaaDoorTotals.lean).
  GIVEN WITH THE SEED: the statements are not yours to turn. If you find one false, say at which input.
  Laid BY PROGRAM, IN A SANDBOX (cutbox-rows.mjs): the forced cells as the released guide's own fill.sh prints them over the translation 4b7326b53a1fb01b… (all of the seat's roots in one cut). By AI agents, Wed Nov 11 2026. No macro, syntax, notation, axiom, sorry.
-/
import Derived.Test.YtjfbmjegdjpfbaaDoorChecked
import GoSem.Claim
import GoSem.ClaimJoined
import GoSem.ClaimMapViews
import Derived.JoinedTies
import Derived.KernelRfl
namespace Go.Proofs.YtjfbmjegdjpfbaaDoor
/- THE CELL 'sum', in the pinned program and in every row, IS THE sha256 OF THE DUMP (.gsa) THAT YtjfbmjegdjpfbaaDoorProg.lean LOADS. Nothing in Lean hashes anything: it is a label: what it is worth is what the hold of that sum in a sandbox is worth. -/
noncomputable def Tryd.pinned : Pinned := { name := "ytjfbmjegdjpfbaadoor", sum := "4b7326b53a1fb01be3264c207d0efa26c8c64fc729f99449887c651766870fab", checked := Tryd.checked }
namespace Rows
def none {H : Type} : Left H := { results := [], args := [] }

/- WHAT THE LISTED PACKAGE-LEVEL VARIABLES READ AS WHEN THE CALL BEGINS. Each datum BY PROGRAM (the guide's laid-datum.mjs) off the statement by which the dump's own 'gosem.cut.vars' lays the variable. In a bare row this is a premise. The card (YtjfbmjegdjpfbaaDoorCards.lean) ties it to the program's text. -/
def laid_certpath_date_lengths {H : Type} : DataW H := .agg [.lit (.int .i64 31), .lit (.int .i64 28), .lit (.int .i64 31), .lit (.int .i64 30), .lit (.int .i64 31), .lit (.int .i64 30), .lit (.int .i64 31), .lit (.int .i64 31), .lit (.int .i64 30), .lit (.int .i64 31), .lit (.int .i64 30), .lit (.int .i64 31)]

/-- 'certpathlaw05.DateCivil': WHATEVER THE INPUT: true; the input reads as it did. -/
def dateCivilSpec : ChangeSpec := { name := "dateCivil", fn := fun _ => fun
  | [d1, d2, d3] => { results := [.lit (.bool true)], args := [d1, d2, d3] }
  | _ => none }
def dateCivilRow : OpenClaim := { program := "ytjfbmjegdjpfbaadoor", sum := "4b7326b53a1fb01be3264c207d0efa26c8c64fc729f99449887c651766870fab", func := "certpath/certpathlaw05.DateCivil", spec := "dateCivil", unfollowed := true, recurses := true, named := ["certpath/date.lengths"], apart := false, laid := [("certpath/date.lengths", laid_certpath_date_lengths)] }
def DateCivilSaid : Prop := dateCivilRow.holds Tryd.pinned (OpenSpec.ofChange dateCivilSpec)

/-- ITS FALSE NEIGHBOUR: 'it returns false'. Refute it at one input. -/
def dateCivilWrong : ChangeSpec := { name := "dateCivil", fn := fun _ => fun
  | [d1, d2, d3] => { results := [.lit (.bool false)], args := [d1, d2, d3] }
  | _ => none }
def DateCivilWrongFalsely : Prop := dateCivilRow.holds Tryd.pinned (OpenSpec.ofChange dateCivilWrong)

/-- 'certpathlaw05.DateSeconds': WHATEVER THE INPUT: true; the input reads as it did. -/
def dateSecondsSpec : ChangeSpec := { name := "dateSeconds", fn := fun _ => fun
  | [d1, d2, d3, d4, d5, d6, d7] => { results := [.lit (.bool true)], args := [d1, d2, d3, d4, d5, d6, d7] }
  | _ => none }
def dateSecondsRow : OpenClaim := { program := "ytjfbmjegdjpfbaadoor", sum := "4b7326b53a1fb01be3264c207d0efa26c8c64fc729f99449887c651766870fab", func := "certpath/certpathlaw05.DateSeconds", spec := "dateSeconds", unfollowed := true, recurses := true, named := ["certpath/date.lengths"], apart := false, laid := [("certpath/date.lengths", laid_certpath_date_lengths)] }
def DateSecondsSaid : Prop := dateSecondsRow.holds Tryd.pinned (OpenSpec.ofChange dateSecondsSpec)

/-- ITS FALSE NEIGHBOUR: 'it returns false'. Refute it at one input. -/
def dateSecondsWrong : ChangeSpec := { name := "dateSeconds", fn := fun _ => fun
  | [d1, d2, d3, d4, d5, d6, d7] => { results := [.lit (.bool false)], args := [d1, d2, d3, d4, d5, d6, d7] }
  | _ => none }
def DateSecondsWrongFalsely : Prop := dateSecondsRow.holds Tryd.pinned (OpenSpec.ofChange dateSecondsWrong)

/-- 'certpathlaw05.DateDecode': WHATEVER THE INPUT: true; the input reads as it did. -/
def dateDecodeSpec : ChangeSpec := { name := "dateDecode", fn := fun _ => fun
  | [d1, d2, d3, d4, d5, d6, d7, d8] => { results := [.lit (.bool true)], args := [d1, d2, d3, d4, d5, d6, d7, d8] }
  | _ => none }
def dateDecodeRow : OpenClaim := { program := "ytjfbmjegdjpfbaadoor", sum := "4b7326b53a1fb01be3264c207d0efa26c8c64fc729f99449887c651766870fab", func := "certpath/certpathlaw05.DateDecode", spec := "dateDecode", unfollowed := true, recurses := true, named := ["certpath/date.lengths"], apart := false, laid := [("certpath/date.lengths", laid_certpath_date_lengths)] }
def DateDecodeSaid : Prop := dateDecodeRow.holds Tryd.pinned (OpenSpec.ofChange dateDecodeSpec)

/-- ITS FALSE NEIGHBOUR: 'it returns false'. Refute it at one input. -/
def dateDecodeWrong : ChangeSpec := { name := "dateDecode", fn := fun _ => fun
  | [d1, d2, d3, d4, d5, d6, d7, d8] => { results := [.lit (.bool false)], args := [d1, d2, d3, d4, d5, d6, d7, d8] }
  | _ => none }
def DateDecodeWrongFalsely : Prop := dateDecodeRow.holds Tryd.pinned (OpenSpec.ofChange dateDecodeWrong)

/-- 'certpathlaw05.DateOrder': WHATEVER THE INPUT: true; the input reads as it did. -/
def dateOrderSpec : ChangeSpec := { name := "dateOrder", fn := fun _ => fun
  | [d1, d2, d3, d4, d5] => { results := [.lit (.bool true)], args := [d1, d2, d3, d4, d5] }
  | _ => none }
def dateOrderRow : OpenClaim := { program := "ytjfbmjegdjpfbaadoor", sum := "4b7326b53a1fb01be3264c207d0efa26c8c64fc729f99449887c651766870fab", func := "certpath/certpathlaw05.DateOrder", spec := "dateOrder", unfollowed := true, recurses := true, named := ["certpath/date.lengths"], apart := false, laid := [("certpath/date.lengths", laid_certpath_date_lengths)] }
def DateOrderSaid : Prop := dateOrderRow.holds Tryd.pinned (OpenSpec.ofChange dateOrderSpec)

/-- ITS FALSE NEIGHBOUR: 'it returns false'. Refute it at one input. -/
def dateOrderWrong : ChangeSpec := { name := "dateOrder", fn := fun _ => fun
  | [d1, d2, d3, d4, d5] => { results := [.lit (.bool false)], args := [d1, d2, d3, d4, d5] }
  | _ => none }
def DateOrderWrongFalsely : Prop := dateOrderRow.holds Tryd.pinned (OpenSpec.ofChange dateOrderWrong)

/-- 'certpathlaw05.DateText': WHATEVER THE INPUT: true; the input reads as it did. -/
def dateTextSpec : ChangeSpec := { name := "dateText", fn := fun _ => fun
  | [d1, d2, d3, d4, d5, d6] => { results := [.lit (.bool true)], args := [d1, d2, d3, d4, d5, d6] }
  | _ => none }
def dateTextRow : OpenClaim := { program := "ytjfbmjegdjpfbaadoor", sum := "4b7326b53a1fb01be3264c207d0efa26c8c64fc729f99449887c651766870fab", func := "certpath/certpathlaw05.DateText", spec := "dateText", unfollowed := true, recurses := true, named := ["certpath/date.lengths"], apart := false, laid := [("certpath/date.lengths", laid_certpath_date_lengths)] }
def DateTextSaid : Prop := dateTextRow.holds Tryd.pinned (OpenSpec.ofChange dateTextSpec)

/-- ITS FALSE NEIGHBOUR: 'it returns false'. Refute it at one input. -/
def dateTextWrong : ChangeSpec := { name := "dateText", fn := fun _ => fun
  | [d1, d2, d3, d4, d5, d6] => { results := [.lit (.bool false)], args := [d1, d2, d3, d4, d5, d6] }
  | _ => none }
def DateTextWrongFalsely : Prop := dateTextRow.holds Tryd.pinned (OpenSpec.ofChange dateTextWrong)

/-- 'certpathlaw05.DateEncode': WHATEVER THE INPUT: true; the input reads as it did. -/
def dateEncodeSpec : ChangeSpec := { name := "dateEncode", fn := fun _ => fun
  | [d1, d2, d3] => { results := [.lit (.bool true)], args := [d1, d2, d3] }
  | _ => none }
def dateEncodeRow : OpenClaim := { program := "ytjfbmjegdjpfbaadoor", sum := "4b7326b53a1fb01be3264c207d0efa26c8c64fc729f99449887c651766870fab", func := "certpath/certpathlaw05.DateEncode", spec := "dateEncode", inPlace := ["internal/abi.NoEscape", "internal/bytealg.MakeNoZero"], unfollowed := true, recurses := true, named := ["certpath/date.lengths"], apart := false, laid := [("certpath/date.lengths", laid_certpath_date_lengths)] }
def DateEncodeSaid : Prop := dateEncodeRow.holds Tryd.pinned (OpenSpec.ofChange dateEncodeSpec)

/-- ITS FALSE NEIGHBOUR: 'it returns false'. Refute it at one input. -/
def dateEncodeWrong : ChangeSpec := { name := "dateEncode", fn := fun _ => fun
  | [d1, d2, d3] => { results := [.lit (.bool false)], args := [d1, d2, d3] }
  | _ => none }
def DateEncodeWrongFalsely : Prop := dateEncodeRow.holds Tryd.pinned (OpenSpec.ofChange dateEncodeWrong)

/- THE SECOND FORM. 'bulk': how many values and letters a reading holds, each counted each time it is reached (what is shared counts as often as it is met; a slice's spare places count too). A statement '..UptoSaid' is the law's where the arguments, and the package variables that the reading takes, are together of bulk at most 1048576: NARROWER than '..Said'. Prove '..Said' where nothing that the law and all that it calls make is longer than what came in: it says more and counts as full. Else prove '..UptoSaid'. A law counts once. -/
mutual
def uptoBulk {H : Type} : DataW H → Nat
  | .lit (.string bytes) => bytes.length + 1
  | .lit _ => 1
  | .nil => 1
  | .ptr d => uptoBulk d + 1
  | .slice elems spare => uptoBulkAll elems + uptoBulkAll spare + 1
  | .agg parts => uptoBulkAll parts + 1
  | .iface _ d => uptoBulk d + 1
  | .map entries => uptoBulkEntries entries + 1
  | .held _ => 1
def uptoBulkAll {H : Type} : List (DataW H) → Nat
  | [] => 0
  | d :: r => uptoBulk d + uptoBulkAll r
def uptoBulkEntries {H : Type} : List (Lit × DataW H) → Nat
  | [] => 0
  | x :: r => uptoBulkEntry x + uptoBulkEntries r
def uptoBulkEntry {H : Type} : Lit × DataW H → Nat
  | (.string bytes, d) => bytes.length + uptoBulk d + 1
  | (_, d) => uptoBulk d + 1
 end
def uptoSmall : (H : Type) → List (DataW H) → Bool := fun _ ds => decide (uptoBulkAll ds ≤ 1048576)
def OpenSpec.upto (s : _root_.Go.ChangeSpec) : _root_.Go.OpenSpec := { _root_.Go.OpenSpec.ofChange s with cond := some uptoSmall }

/-- 'certpathlaw05.DateCivil', WHERE WHAT IT READS IS OF BULK AT MOST 1048576: true; the input reads as it did. -/
def dateCivilUptoRow : OpenClaim := { program := "ytjfbmjegdjpfbaadoor", sum := "4b7326b53a1fb01be3264c207d0efa26c8c64fc729f99449887c651766870fab", func := "certpath/certpathlaw05.DateCivil", spec := "dateCivil", unfollowed := true, recurses := true, named := ["certpath/date.lengths"], apart := false, laid := [("certpath/date.lengths", laid_certpath_date_lengths)], narrowed := true }
def DateCivilUptoSaid : Prop := dateCivilUptoRow.holds Tryd.pinned (OpenSpec.upto dateCivilSpec)

/-- 'certpathlaw05.DateSeconds', WHERE WHAT IT READS IS OF BULK AT MOST 1048576: true; the input reads as it did. -/
def dateSecondsUptoRow : OpenClaim := { program := "ytjfbmjegdjpfbaadoor", sum := "4b7326b53a1fb01be3264c207d0efa26c8c64fc729f99449887c651766870fab", func := "certpath/certpathlaw05.DateSeconds", spec := "dateSeconds", unfollowed := true, recurses := true, named := ["certpath/date.lengths"], apart := false, laid := [("certpath/date.lengths", laid_certpath_date_lengths)], narrowed := true }
def DateSecondsUptoSaid : Prop := dateSecondsUptoRow.holds Tryd.pinned (OpenSpec.upto dateSecondsSpec)

/-- 'certpathlaw05.DateDecode', WHERE WHAT IT READS IS OF BULK AT MOST 1048576: true; the input reads as it did. -/
def dateDecodeUptoRow : OpenClaim := { program := "ytjfbmjegdjpfbaadoor", sum := "4b7326b53a1fb01be3264c207d0efa26c8c64fc729f99449887c651766870fab", func := "certpath/certpathlaw05.DateDecode", spec := "dateDecode", unfollowed := true, recurses := true, named := ["certpath/date.lengths"], apart := false, laid := [("certpath/date.lengths", laid_certpath_date_lengths)], narrowed := true }
def DateDecodeUptoSaid : Prop := dateDecodeUptoRow.holds Tryd.pinned (OpenSpec.upto dateDecodeSpec)

/-- 'certpathlaw05.DateOrder', WHERE WHAT IT READS IS OF BULK AT MOST 1048576: true; the input reads as it did. -/
def dateOrderUptoRow : OpenClaim := { program := "ytjfbmjegdjpfbaadoor", sum := "4b7326b53a1fb01be3264c207d0efa26c8c64fc729f99449887c651766870fab", func := "certpath/certpathlaw05.DateOrder", spec := "dateOrder", unfollowed := true, recurses := true, named := ["certpath/date.lengths"], apart := false, laid := [("certpath/date.lengths", laid_certpath_date_lengths)], narrowed := true }
def DateOrderUptoSaid : Prop := dateOrderUptoRow.holds Tryd.pinned (OpenSpec.upto dateOrderSpec)

/-- 'certpathlaw05.DateText', WHERE WHAT IT READS IS OF BULK AT MOST 1048576: true; the input reads as it did. -/
def dateTextUptoRow : OpenClaim := { program := "ytjfbmjegdjpfbaadoor", sum := "4b7326b53a1fb01be3264c207d0efa26c8c64fc729f99449887c651766870fab", func := "certpath/certpathlaw05.DateText", spec := "dateText", unfollowed := true, recurses := true, named := ["certpath/date.lengths"], apart := false, laid := [("certpath/date.lengths", laid_certpath_date_lengths)], narrowed := true }
def DateTextUptoSaid : Prop := dateTextUptoRow.holds Tryd.pinned (OpenSpec.upto dateTextSpec)

/-- 'certpathlaw05.DateEncode', WHERE WHAT IT READS IS OF BULK AT MOST 1048576: true; the input reads as it did. -/
def dateEncodeUptoRow : OpenClaim := { program := "ytjfbmjegdjpfbaadoor", sum := "4b7326b53a1fb01be3264c207d0efa26c8c64fc729f99449887c651766870fab", func := "certpath/certpathlaw05.DateEncode", spec := "dateEncode", inPlace := ["internal/abi.NoEscape", "internal/bytealg.MakeNoZero"], unfollowed := true, recurses := true, named := ["certpath/date.lengths"], apart := false, laid := [("certpath/date.lengths", laid_certpath_date_lengths)], narrowed := true }
def DateEncodeUptoSaid : Prop := dateEncodeUptoRow.holds Tryd.pinned (OpenSpec.upto dateEncodeSpec)

end Rows
end Go.Proofs.YtjfbmjegdjpfbaaDoor
