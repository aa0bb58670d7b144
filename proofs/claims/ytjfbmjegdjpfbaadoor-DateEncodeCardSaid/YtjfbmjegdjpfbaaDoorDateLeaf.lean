/- The leaves: leap, length, before of the program and days, before of the reference return the plain arithmetic's values. -/
import Derived.Test.YtjfbmjegdjpfbaaDoorProg
import Derived.Test.YtjfbmjegdjpfbaaDoorDateMath
import Derived.WalkKit
import Derived.KernelRfl
import Derived.LoopTactic
import Derived.Below
import Derived.Outline
import Derived.BigGuardPart
namespace Go.Proofs.YtjfbmjegdjpfbaaDoor
open Go Go.RowKit

theorem leap_any (y : Int) (w : World) (h0 : 0 ≤ y) (h1 : y ≤ 20000) :
    Calls Tryd.prog 37 #[.int .i64 y] w fun e w' => e = .returned (.bool (DM.leapB y)) ∧ w = w' := by
  by_cases a : y % 4 = 0
  · by_cases b : y % 100 = 0
    · by_cases c : y % 400 = 0
      · go_enter Tryd.func37, Tryd.ntmps37
        go_wp2
        go_ret
        exact ⟨by simp [DM.leapB, a, b, c], rfl⟩
      · go_enter Tryd.func37, Tryd.ntmps37
        go_wp2
        go_ret
        exact ⟨by simp [DM.leapB, a, b, c], rfl⟩
    · go_enter Tryd.func37, Tryd.ntmps37
      go_wp2
      go_ret
      exact ⟨by simp [DM.leapB, a, b], rfl⟩
  · go_enter Tryd.func37, Tryd.ntmps37
    go_wp2
    go_ret
    exact ⟨by simp [DM.leapB, a], rfl⟩

theorem befClo_any (y : Int) (w : World) (h0 : 0 ≤ y) (h1 : y ≤ 20000) :
    Calls Tryd.prog 36 #[.int .i64 y] w fun e w' => e = .returned (.int .i64 (y / 4 - y / 100 + y / 400)) ∧ w = w' := by
  go_enter Tryd.func36, Tryd.ntmps36
  go_wp2
  go_ret
  exact ⟨rfl, rfl⟩

theorem before_any (y : Int) (w : World) (h0 : 1 ≤ y) (h1 : y ≤ 20000) :
    Calls Tryd.prog 24 #[.int .i64 y] w fun e w' => e = .returned (.int .i64 (DM.bef y)) ∧ w = w' := by
  go_enter Tryd.func24, Tryd.ntmps24
  go_wp2_with fail
  refine (befClo_any _ _ (by omega) (by omega)).mono ?_
  rintro e w' ⟨rfl, rfl⟩
  go_wp2_with fail
  refine (befClo_any _ _ (by omega) (by omega)).mono ?_
  rintro e w' ⟨rfl, rfl⟩
  go_wp2_with fail
  go_ret
  exact ⟨by unfold DM.bef; congr 2, rfl⟩

theorem refBefore_any (y : Int) (w : World) (h0 : 1 ≤ y) (h1 : y ≤ 20000) :
    Calls Tryd.prog 26 #[.int .i64 y] w fun e w' => e = .returned (.int .i64 (DM.bef y)) ∧ w = w' := by
  go_enter Tryd.func26, Tryd.ntmps26
  go_wp2
  go_ret
  exact ⟨by unfold DM.bef; congr 2, rfl⟩

/-- What the walk is told of the global table of lengths. -/
def Lens (w : World) : Prop := 0 < w.heap.size ∧ ∀ i : Nat, i < 12 → w.cell? ⟨0, i, none⟩ = some (.int .i64 (DM.tab ((i : Int) + 1)))

theorem length_any (y m : Int) (w : World) (h0 : 0 ≤ y) (h1 : y ≤ 20000) (m0 : 1 ≤ m) (m1 : m ≤ 12) (hL : Lens w) :
    Calls Tryd.prog 25 #[.int .i64 y, .int .i64 m] w fun e w' => e = .returned (.int .i64 (DM.dim y m)) ∧ w = w' := by
  have hc := hL.2 (m.toNat - 1) (by omega)
  have e1 : (((m.toNat - 1 : Nat)) : Int) + 1 = m := by omega
  rw [e1] at hc
  have h2 : w.cell? ⟨0, 1, none⟩ = some (.int .i64 28) := hL.2 1 (by omega)
  clear hL e1
  by_cases a : m = 2
  · subst a
    clear hc
    by_cases b : DM.leapB y = true
    · go_enter Tryd.func25, Tryd.ntmps25
      go_wp2_with fail
      refine (leap_any _ _ (by omega) (by omega)).mono ?_
      rintro e w' ⟨rfl, rfl⟩
      go_wp2_with fail
      go_ret
      exact ⟨by simp [DM.dim, b], rfl⟩
    · have b' : DM.leapB y = false := by simpa using b
      clear b
      go_enter Tryd.func25, Tryd.ntmps25
      go_wp2_with fail
      refine (leap_any _ _ (by omega) (by omega)).mono ?_
      rintro e w' ⟨rfl, rfl⟩
      go_wp2_with fail
      go_ret
      exact ⟨by simp [DM.dim, b', DM.tab], rfl⟩
  · have a' : (m == 2) = false := by simpa using a
    go_enter Tryd.func25, Tryd.ntmps25
    go_wp2_with fail
    go_ret
    exact ⟨by simp [DM.dim, a], rfl⟩

set_option maxHeartbeats 2000000 in
theorem days_any (y m : Int) (w : World) (h0 : 0 ≤ y) (h1 : y ≤ 20000) (m0 : 1 ≤ m) (m1 : m ≤ 12) :
    Calls Tryd.prog 27 #[.int .i64 y, .int .i64 m] w fun e w' => e = .returned (.int .i64 (DM.dim y m)) ∧ Below w.heap.size w w' := by
  by_cases a : m = 2
  · subst a
    by_cases b4 : y % 4 = 0
    · by_cases b100 : y % 100 = 0
      · by_cases b400 : y % 400 = 0
        · go_enter Tryd.func27, Tryd.ntmps27
          go_wp2_with fail
          go_ret
          exact ⟨by simp [DM.dim, DM.leapB, b4, b400], Below.refl _ _⟩
        · go_enter Tryd.func27, Tryd.ntmps27
          go_wp2_with fail
          go_ret
          exact ⟨by simp [DM.dim, DM.leapB, b4, b100, b400, DM.tab], (Below.refl _ _).alloc (Nat.le_refl _) _⟩
      · go_enter Tryd.func27, Tryd.ntmps27
        go_wp2_with fail
        go_ret
        exact ⟨by simp [DM.dim, DM.leapB, b4, b100], Below.refl _ _⟩
    · go_enter Tryd.func27, Tryd.ntmps27
      go_wp2_with fail
      go_ret
      exact ⟨by simp [DM.dim, DM.leapB, b4, DM.tab], (Below.refl _ _).alloc (Nat.le_refl _) _⟩
  · have hm : m = 1 ∨ m = 3 ∨ m = 4 ∨ m = 5 ∨ m = 6 ∨ m = 7 ∨ m = 8 ∨ m = 9 ∨ m = 10 ∨ m = 11 ∨ m = 12 := by omega
    rcases hm with rfl | rfl | rfl | rfl | rfl | rfl | rfl | rfl | rfl | rfl | rfl
    all_goals
      go_enter Tryd.func27, Tryd.ntmps27
      go_wp2_with fail
      go_ret
      exact ⟨by simp [DM.dim, DM.tab], (Below.refl _ _).alloc (Nat.le_refl _) _⟩
end Go.Proofs.YtjfbmjegdjpfbaaDoor
