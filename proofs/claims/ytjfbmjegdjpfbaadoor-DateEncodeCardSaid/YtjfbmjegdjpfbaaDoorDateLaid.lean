/- The listed table of lengths: what the condition gives the walks; the door's own heap meets it. -/
import Derived.Test.YtjfbmjegdjpfbaaDoorRows
import Derived.Test.YtjfbmjegdjpfbaaDoorDateLeaf
import Derived.ProofKit
import Derived.LaidMore
import Derived.OpenShut
import Derived.Stop.Joined
namespace Go.Proofs.YtjfbmjegdjpfbaaDoor
open Go Go.ChangeShapes Go.WideShapes Go.ChangeAt Go.RowKit

theorem own : ownKnob Tryd.prog.godebug = none := by kernel_rfl
theorem gLens : Tryd.prog.globalNamed "certpath/date.lengths" = some 0 := by kernel_rfl
theorem tLens : (Tryd.prog.globals[0]?).map (·.type) = some 59 := by kernel_rfl
theorem cInt : Tryd.prog.cellsOf 3 = 1 := by kernel_rfl
def laid1 : List (String × DataW Unit) := [("certpath/date.lengths", Rows.laid_certpath_date_lengths)]

/-- The door's own heap meets the condition. -/
theorem door_met (os : Os) (args : Array Value) : laidMetH Tryd.prog laid1 ((World.doorLaid Tryd.prog 14 os).forCall (fun _ _ => 0) ⟨#[], args, []⟩).memory :=
  laidMetH_of_parts3 (fuel := 8) (laidMet_of_run' 8 (by kernel_rfl) (by kernel_rfl)) (by kernel_rfl) (by kernel_rfl)

/-- What the condition gives the walks. -/
theorem lens_of_laid {W : World} (h : laidMetH Tryd.prog laid1 W) : Lens W := by
  rw [MakeChecks.laidMetH_plain _ _ _ (by kernel_rfl)] at h
  obtain ⟨ps, ⟨g0, t0, cs0, f0, p0, q0, hg0, ht0, hv0, hd0, _, _⟩, _, _⟩ := h
  obtain rfl := Option.some.inj (gLens.symm.trans hg0)
  obtain rfl := Option.some.inj (tLens.symm.trans ht0)
  obtain ⟨xs, m1, rfl, hx1, hlen, hn, hel⟩ := DataW.trod_array Tryd.underlying59 hd0
  have hcell : ∀ i : Nat, i < 12 → W.cell? ⟨0, i, none⟩ = some (.int .i64 (DM.tab ((i : Int) + 1))) := by
    intro i hi
    have h0 := hel i hi
    rw [cInt, Nat.mul_one] at h0
    have hxi : i < xs.length := by omega
    rw [List.getElem?_eq_getElem hxi] at h0
    obtain ⟨k, e1, e2, _⟩ := DataW.trod_int Tryd.underlying3 h0
    have hk : k = DM.tab ((i : Int) + 1) := by
      have hm : xs.map (·.1) = [.lit (.int .i64 31), .lit (.int .i64 28), .lit (.int .i64 31), .lit (.int .i64 30), .lit (.int .i64 31), .lit (.int .i64 30), .lit (.int .i64 31), .lit (.int .i64 31), .lit (.int .i64 30), .lit (.int .i64 31), .lit (.int .i64 30), .lit (.int .i64 31)] := by
        have := congrArg Prod.fst hx1
        simp only [Rows.laid_certpath_date_lengths, DataW.agg.injEq] at this
        exact this.symm
      have hi1 : (xs.map (·.1))[i]? = some (.lit (.int .i64 k)) := by rw [List.getElem?_map, List.getElem?_eq_getElem hxi, e2]; rfl
      rw [hm] at hi1
      have h12 : i = 0 ∨ i = 1 ∨ i = 2 ∨ i = 3 ∨ i = 4 ∨ i = 5 ∨ i = 6 ∨ i = 7 ∨ i = 8 ∨ i = 9 ∨ i = 10 ∨ i = 11 := by omega
      rcases h12 with rfl | rfl | rfl | rfl | rfl | rfl | rfl | rfl | rfl | rfl | rfl | rfl <;> (simp at hi1; rw [← hi1]; rfl)
    rw [World.var?_cell hg0 hv0 i, ← hk]
    have h1 : ((cs0.toList.drop i).take 1)[0]? = some (.int .i64 k) := by rw [e1]; rfl
    simpa [List.getElem?_take, List.getElem?_drop] using h1
  exact ⟨World.block_lt_of_cell? W ⟨0, 0, none⟩ (hcell 0 (by omega)), hcell⟩
end Go.Proofs.YtjfbmjegdjpfbaaDoor
