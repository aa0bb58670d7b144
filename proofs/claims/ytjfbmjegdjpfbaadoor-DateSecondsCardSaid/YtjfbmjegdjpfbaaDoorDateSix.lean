/- A date by value among the arguments: opened and shut. -/
import Derived.Test.YtjfbmjegdjpfbaaDoorDateLaid
namespace Go.Proofs.YtjfbmjegdjpfbaaDoor
open Go Go.ChangeShapes Go.WideShapes Go.ChangeAt Go.RowKit

theorem cDate : Tryd.prog.cellsOf 27 = 6 := by kernel_rfl
/-- Each number fits. -/
def WfDate (a b c d e f : Int) : Prop := (Lit.int .i64 a).wf = true ∧ (Lit.int .i64 b).wf = true ∧ (Lit.int .i64 c).wf = true ∧ (Lit.int .i64 d).wf = true ∧ (Lit.int .i64 e).wf = true ∧ (Lit.int .i64 f).wf = true
section
variable {H : Type} {enc : TypeId × Value → H} {w : World} {base : Nat} {spare : Nat → Bool} {held : Bool}

theorem six_list (xs : List (DataW H × List MemPlace)) (h : xs.length = 6) : ∃ a b c d e f, xs = [a, b, c, d, e, f] := by
  match xs, h with
  | [a, b, c, d, e, f], _ => exact ⟨a, b, c, d, e, f, rfl⟩
theorem six_vals (cs : Array Value) (h : cs.size = 6) : ∃ a b c d e f, cs = #[a, b, c, d, e, f] := by
  obtain ⟨l⟩ := cs
  match l, h with
  | [a, b, c, d, e, f], _ => exact ⟨a, b, c, d, e, f, rfl⟩

theorem open_date {r : Reach} {b0 : Nat} {v : Value} {d : DataW H} {p : List MemPlace} (hv : Value.okWide Tryd.prog w r b0 27 v) (h : DataW.Trod enc Tryd.prog w base spare held 27 v d p) :
    ∃ a b c e f g, v = .agg #[.int .i64 a, .int .i64 b, .int .i64 c, .int .i64 e, .int .i64 f, .int .i64 g] ∧ d = .agg [.lit (.int .i64 a), .lit (.int .i64 b), .lit (.int .i64 c), .lit (.int .i64 e), .lit (.int .i64 f), .lit (.int .i64 g)] ∧ p = [] ∧ WfDate a b c e f g := by
  have hu := Tryd.underlying27
  obtain ⟨cs, rfl, hsz⟩ := okWide_struct hu hv
  obtain ⟨z0, z1, z2, z3, z4, z5, rfl⟩ := six_vals cs (hsz.trans cDate)
  obtain ⟨fuel, hf⟩ := h
  obtain ⟨xs, n, rfl, hx, _, hlen, hel⟩ := DataW.trod_struct hu hf
  obtain ⟨x0, x1, x2, x3, x4, x5, rfl⟩ := six_list xs hlen
  have k0 := hel 0 _ rfl
  have k1 := hel 1 _ rfl
  have k2 := hel 2 _ rfl
  have k3 := hel 3 _ rfl
  have k4 := hel 4 _ rfl
  have k5 := hel 5 _ rfl
  obtain ⟨a, e0, rfl, w0⟩ := DataW.trod_int Tryd.underlying3 k0
  obtain ⟨b, e1, rfl, w1⟩ := DataW.trod_int Tryd.underlying3 k1
  obtain ⟨c, e2, rfl, w2⟩ := DataW.trod_int Tryd.underlying3 k2
  obtain ⟨e, e3, rfl, w3⟩ := DataW.trod_int Tryd.underlying3 k3
  obtain ⟨f, e4, rfl, w4⟩ := DataW.trod_int Tryd.underlying3 k4
  obtain ⟨g, e5, rfl, w5⟩ := DataW.trod_int Tryd.underlying3 k5
  simp [Value.cells, cInt] at e0 e1 e2 e3 e4 e5
  subst e0 e1 e2 e3 e4 e5
  simp only [Prod.mk.injEq] at hx
  exact ⟨a, b, c, e, f, g, rfl, hx.1, hx.2, w0, w1, w2, w3, w4, w5⟩

theorem shut_date {a b c e f g : Int} (h : WfDate a b c e f g) : DataW.Trod enc Tryd.prog w base spare held 27 (.agg #[.int .i64 a, .int .i64 b, .int .i64 c, .int .i64 e, .int .i64 f, .int .i64 g]) (.agg [.lit (.int .i64 a), .lit (.int .i64 b), .lit (.int .i64 c), .lit (.int .i64 e), .lit (.int .i64 f), .lit (.int .i64 g)]) [] := by
  obtain ⟨w0, w1, w2, w3, w4, w5⟩ := h
  have hu := Tryd.underlying27
  have hi : ∀ x : Int, (Lit.int .i64 x).wf = true → DataW.trod enc Tryd.prog w base spare held 1 3 [.int .i64 x] = some (.lit (.int .i64 x), []) := fun x hx => by
    simp [DataW.trod, Tryd.underlying3, hx]
  have := trod_struct_mk (enc := enc) (w := w) (base := base) (spare := spare) (held := held) (n := 1) (cs := [.int .i64 a, .int .i64 b, .int .i64 c, .int .i64 e, .int .i64 f, .int .i64 g])
    (xs := [(.lit (.int .i64 a), []), (.lit (.int .i64 b), []), (.lit (.int .i64 c), []), (.lit (.int .i64 e), []), (.lit (.int .i64 f), []), (.lit (.int .i64 g), [])]) hu (by rw [cDate]; rfl)
    (by simp [cInt, hi, w0, w1, w2, w3, w4, w5])
  exact ⟨2, by simpa [Value.cells] using this⟩
end
end Go.Proofs.YtjfbmjegdjpfbaaDoor
