/- What Seconds, Decode and Parse come to, as plain functions; and the contracts of Seconds over them. -/
import Derived.Test.YtjfbmjegdjpfbaaDoorDateParts
import Derived.Test.YtjfbmjegdjpfbaaDoorDateSec
import Derived.Test.YtjfbmjegdjpfbaaDoorDateRefSec
namespace Go.Proofs.YtjfbmjegdjpfbaaDoor
open Go Go.RowKit

open Classical in
/-- The seconds of a date and OK, or 0 and ErrTime. -/
noncomputable def secF (x : DM.D6) : Int × Int := if DM.Valid x then (DM.sec x, 0) else (0, 12)
theorem secF_yes {x : DM.D6} (h : DM.Valid x) : secF x = (DM.sec x, 0) := by unfold secF; rw [if_pos h]
theorem secF_no {x : DM.D6} (h : ¬ DM.Valid x) : secF x = (0, 12) := by unfold secF; rw [if_neg h]
/-- Two numbers as a result. -/
def two (p : Int × Int) : Value := .tuple #[.int .i64 p.1, .int .i64 p.2]

theorem sec_any (x : DM.D6) (w : World) (hL : Lens w) : Calls Tryd.prog 12 #[dval x] w fun e w' => e = .returned (two (secF x)) ∧ Below w.heap.size w w' := by
  by_cases h : DM.Valid x
  · rw [secF_yes h]; exact sec_yes x w hL h
  · rw [secF_no h]; exact sec_no x w hL h
theorem refSec_any (x : DM.D6) (w : World) : Calls Tryd.prog 14 #[dval x] w fun e w' => e = .returned (two (secF x)) ∧ Below w.heap.size w w' := by
  by_cases h : DM.Valid x
  · rw [secF_yes h]; exact refSec_yes x w h
  · rw [secF_no h]; exact refSec_no x w h

/-- The date whose pairs of digits begin at i. -/
def dateAt (year : Int) (l : List UInt8) : DM.D6 := ⟨year, pr l 0, pr l 2, pr l 4, pr l 6, pr l 8⟩
/-- The time that the contents of an element with so many digits of a year come to; year: what the year's digits mean. -/
noncomputable def decN (n : Nat) (year : Int) (l : List UInt8) : Int × Int :=
  if l.length ≠ n + 11 ∨ l.getD (n + 10) 0 ≠ 90 then (0, 12) else
  if numL (l.take n) < 0 ∨ year < 0 then (0, 12) else secF (dateAt year (l.drop n))
noncomputable def decF (tag : Int) (l : List UInt8) : Int × Int :=
  if tag = 23 then decN 2 (if 50 ≤ numL (l.take 2) then numL (l.take 2) + 1900 else numL (l.take 2) + 2000) l
  else if tag = 24 then decN 4 (if numL (l.take 4) < 2050 then -1 else numL (l.take 4)) l
  else (0, 5)
end Go.Proofs.YtjfbmjegdjpfbaaDoor
