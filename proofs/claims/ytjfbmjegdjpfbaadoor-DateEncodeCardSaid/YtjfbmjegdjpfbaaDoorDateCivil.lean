/- Civil of the program and of the reference return the date of a time, or a zero date and the error's number. -/
import Derived.Test.YtjfbmjegdjpfbaaDoorDateLeaf
import Derived.Lib.Hide
namespace Go.Proofs.YtjfbmjegdjpfbaaDoor
open Go Go.RowKit

/-- A date as a value. -/
def dval (x : DM.D6) : Value := .agg #[.int .i64 x.y, .int .i64 x.m, .int .i64 x.d, .int .i64 x.h, .int .i64 x.mi, .int .i64 x.s]

theorem Lens.alloc {w : World} (h : Lens w) (o : Obj) : Lens (w.alloc o) :=
  ⟨by simp, fun i hi => (World.cell?_alloc_lt w o _ h.1).trans (h.2 i hi)⟩
theorem Lens.below {w w' : World} (h : Lens w) (hb : Below w.heap.size w w') : Lens w' :=
  ⟨Nat.lt_of_lt_of_le h.1 hb.size, fun i hi => (hb.cell (p := ⟨0, i, none⟩) h.1).trans (h.2 i hi)⟩

theorem civil_no (t : Int) (w : World) (h : t < 0 ∨ 254033452799 < t) :
    Calls Tryd.prog 10 #[.int .i64 t] w fun e w' => e = .returned (.tuple #[dval ⟨0, 0, 0, 0, 0, 0⟩, .int .i64 1]) ∧ Below w.heap.size w w' := by
  rcases h with h | h
  · go_enter Tryd.func10, Tryd.ntmps10
    go_wp2
    exact bodyPost_ret (v := .tuple #[dval ⟨0, 0, 0, 0, 0, 0⟩, .int .i64 1]) (by simp [results, Tryd.results10, go_sem, dval]) rfl ⟨rfl, (Below.refl _ _).alloc (Nat.le_refl _) _⟩
  · have h' : ¬ t < 0 := by omega
    go_enter Tryd.func10, Tryd.ntmps10
    go_wp2
    exact bodyPost_ret (v := .tuple #[dval ⟨0, 0, 0, 0, 0, 0⟩, .int .i64 1]) (by simp [results, Tryd.results10, go_sem, dval]) rfl ⟨rfl, (Below.refl _ _).alloc (Nat.le_refl _) _⟩

/-- What a call that gives the date of t comes to. -/
def CivilOf (t : Int) (w : World) (e : Ending) (w' : World) : Prop :=
  e = .returned (.tuple #[dval (DM.civ t), .int .i64 0]) ∧ DM.Valid (DM.civ t) ∧ DM.sec (DM.civ t) = t ∧ Below w.heap.size w w'

theorem civil_fin {t y m : Int} {w w' : World} (hy0 : 1950 ≤ y) (hy1 : y ≤ 9999) (hm0 : 1 ≤ m) (hm1 : m ≤ 12)
    (hr0 : 0 ≤ t / 86400 - DM.bef y - DM.cum y m) (hr1 : t / 86400 - DM.bef y - DM.cum y m < DM.dim y m) (hb : Below w.heap.size w w') :
    CivilOf t w (.returned (.tuple #[.agg #[.int .i64 y, .int .i64 m, .int .i64 (t / 86400 - DM.bef y - DM.cum y m + 1), .int .i64 (t % 86400 / 3600), .int .i64 (t % 86400 / 60 % 60), .int .i64 (t % 86400 % 60)], .int .i64 0])) w' := by
  have hv : DM.Valid ⟨y, m, t / 86400 - DM.bef y - DM.cum y m + 1, t % 86400 / 3600, t % 86400 / 60 % 60, t % 86400 % 60⟩ := by
    simp only [DM.Valid]; omega
  have hs : DM.sec ⟨y, m, t / 86400 - DM.bef y - DM.cum y m + 1, t % 86400 / 3600, t % 86400 / 60 % 60, t % 86400 % 60⟩ = t := by
    simp only [DM.sec]; omega
  have hc := DM.civ_eq hv hs
  unfold CivilOf
  rw [hc]
  exact ⟨rfl, hv, hs, hb⟩

set_option maxHeartbeats 2000000 in
theorem civil_yes (t : Int) (w : World) (h0 : 0 ≤ t) (h1 : t ≤ 254033452799) (hL : Lens w) :
    Calls Tryd.prog 10 #[.int .i64 t] w (CivilOf t w) := by
  have g0 := DM.bef_guess (n := t / 86400) (by omega)
  have n0 : 0 ≤ t / 86400 := by omega
  have n1 : t / 86400 ≤ 2940201 := by omega
  have hL1 := hL.alloc (.cells #[.int .i64 0, .int .i64 0, .int .i64 0, .int .i64 0, .int .i64 0, .int .i64 0] 27)
  have HL := Lib.hid hL1
  clear hL hL1
  go_enter Tryd.func10, Tryd.ntmps10
  go_wp2
  go_loop [6] (fun v => ∃ y : Int, 1950 ≤ y ∧ y ≤ 9999 ∧ DM.bef y ≤ t / 86400 ∧ v = .int .i64 y) (fun v => (9999 - intOf v).toNat)
  case atStart => exact ⟨_, by omega, by omega, g0, rfl⟩
  case round =>
    obtain ⟨y, hy1, hy2, hy3, rfl⟩ := hrel
    by_cases hc : DM.bef (y + 1) ≤ t / 86400
    · have hlt : y < 9999 := by
        by_cases e : y = 9999
        · rw [e, show (9999 : Int) + 1 = 10000 from rfl, DM.bef_top] at hc; omega
        · omega
      go_wp2_with (go_at_call 24; refine (before_any _ _ (by omega) (by omega)).mono ?_; rintro e w' ⟨rfl, rfl⟩)
      go_round
      case rel => exact ⟨y + 1, by omega, by omega, hc, rfl⟩
      case measure => simp [intOf]; omega
    · have hb := DM.bef_bd hy1 (by omega)
      have hs := DM.bef_succ y
      have hl := DM.lp_01 y
      have HS := Lib.hid hs
      clear g0 hs
      go_wp2_with (go_at_call 24; refine (before_any _ _ (by omega) (by omega)).mono ?_; rintro e w' ⟨rfl, rfl⟩)
      go_loop [4, 7] (fun r k => ∃ m : Int, 1 ≤ m ∧ m ≤ 12 ∧ k = .int .i64 m ∧ 0 ≤ t / 86400 - DM.bef y - DM.cum y m ∧ r = .int .i64 (t / 86400 - DM.bef y - DM.cum y m)) (fun _ k => (12 - intOf k).toNat)
      case atStart => exact ⟨1, by omega, by omega, rfl, by rw [DM.cum_one]; omega, by rw [DM.cum_one]; simp⟩
      case round =>
        obtain ⟨m, hm1, hm2, rfl, hr, rfl⟩ := hrel
        have cb := DM.cum_bd y m
        have db := DM.dim_bd y m
        have cs := Lib.hid (DM.cum_succ y m hm1 hm2)
        by_cases hd : DM.dim y m ≤ t / 86400 - DM.bef y - DM.cum y m
        · have hm : m < 12 := by
            by_cases e : m = 12
            · subst e
              have := cs.out; rw [show (12 : Int) + 1 = 13 from rfl, DM.cum_last] at this
              have := HS.out
              omega
            · omega
          go_wp2_with (go_at_call 25; refine (length_any _ _ _ (by omega) (by omega) (by omega) (by omega) HL.out).mono ?_; rintro e w' ⟨rfl, rfl⟩)
          go_round
          case rel => exact ⟨m + 1, by omega, by omega, rfl, by rw [cs.out]; omega, by rw [cs.out]; go_num⟩
          case measure => simp [intOf]; omega
        · go_wp2_with (go_at_call 25; refine (length_any _ _ _ (by omega) (by omega) (by omega) (by omega) HL.out).mono ?_; rintro e w' ⟨rfl, rfl⟩)
          refine bodyPost_ret (by simp [results, Tryd.results10, go_sem]) rfl (civil_fin hy1 hy2 hm1 hm2 hr (by omega) ?_)
          exact ((Below.refl _ _).alloc (Nat.le_refl _) _)
end Go.Proofs.YtjfbmjegdjpfbaaDoor
