/- A region that draws its order, whose operations read old cells alone and whose callees make memory but change nothing old: one walk in the order of the text. -/
import Derived.Test.YtjfbmjegdjpfbaaDoorProg
import Derived.WalkKit
import Derived.KernelRfl
import Derived.Below
import Derived.Deep.QuietTactic
import Derived.BigQuiet
import Derived.Lib.Hide
namespace Go.Proofs.YtjfbmjegdjpfbaaDoor
open Go Go.RowKit

/-- A later world: what was there is as it was. -/
def Later (w : World) : Type := { u : World // Below w.heap.size w u }
instance (w : World) : Nonempty (Later w) := ⟨⟨w, Below.refl _ _⟩⟩
def Later.v {w : World} (u : Later w) : World := u.1
theorem Later.b {w : World} (u : Later w) : Below w.heap.size w u.v := u.2
theorem Later.cell {w : World} {p : Addr} {x : Value} (hp : p.block < w.heap.size) (h : w.cell? p = some x) : ∀ u : Later w, u.v.cell? p = some x := fun u => (u.b.cell hp).trans h
theorem Later.froz {w : World} {p : Addr} {x : Bool} (hp : p.block < w.heap.size) (h : w.frozen? p = x) : ∀ u : Later w, u.v.frozen? p = x := fun u => (u.b.frozen hp).trans h
theorem Later.size {w : World} (u : Later w) : w.heap.size ≤ u.v.heap.size := u.b.size
theorem Later.out {w w' : World} (h : ∃ u : Later w, w' = u.v) : Below w.heap.size w w' := by
  obtain ⟨u, rfl⟩ := h
  exact u.b
/-- A callee's contract, met in a later world. -/
theorem Later.call {P : Program} {f : FuncId} {args : Array Value} {w : World} {u : Later w} {v : Value}
    (h : Calls P f args u.v fun e w' => e = .returned v ∧ Below u.v.heap.size u.v w') : Calls P f args u.v fun e w' => e = .returned v ∧ ∃ u' : Later w, w' = u'.v :=
  h.mono fun _ w' ⟨he, hb⟩ => ⟨he, ⟨w', u.b.trans (hb.mono u.b.size)⟩, rfl⟩
theorem Later.call_same {P : Program} {f : FuncId} {args : Array Value} {w : World} {u : Later w} {v : Value}
    (h : Calls P f args u.v fun e w' => e = .returned v ∧ u.v = w') : Calls P f args u.v fun e w' => e = .returned v ∧ ∃ u' : Later w, w' = u'.v :=
  h.mono fun _ _ ⟨he, hb⟩ => ⟨he, u, hb.symm⟩
theorem wp_region_later {P : Program} {id : Nat} {Q : Exit → Act → World → Prop} {a : Act} {w : World} {l : List Oper} (hm : P.follows .mixedOrders = true) (hB : Region.lexB .any l.toArray = true)
    (h : wpQuiet P l.toArray (fun w' => ∃ u : Later w, w' = u.v) (fun a' => ∀ w', (∃ u : Later w, w' = u.v) → Q .normal a' w') l a) : (Code.region id l.toArray true).wp P Q a w :=
  wp_region_quiet (C := fun w' => ∃ u : Later w, w' = u.v) hm hB ⟨⟨_, (Below.refl _ _).drew⟩, rfl⟩ (by simpa using h)
end Go.Proofs.YtjfbmjegdjpfbaaDoor
