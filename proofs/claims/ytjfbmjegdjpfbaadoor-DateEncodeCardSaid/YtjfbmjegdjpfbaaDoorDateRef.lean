/- Civil and Seconds of the reference: the date of a time; the seconds of a date. -/
import Derived.Test.YtjfbmjegdjpfbaaDoorDateCivil
namespace Go.Proofs.YtjfbmjegdjpfbaaDoor
open Go Go.RowKit

theorem refCivil_no (t : Int) (w : World) (h : t < 0 ∨ 254033452799 < t) :
    Calls Tryd.prog 11 #[.int .i64 t] w fun e w' => e = .returned (.tuple #[dval ⟨0, 0, 0, 0, 0, 0⟩, .int .i64 1]) ∧ Below w.heap.size w w' := by
  rcases h with h | h
  · go_enter Tryd.func11, Tryd.ntmps11
    go_wp2
    exact bodyPost_ret (v := .tuple #[dval ⟨0, 0, 0, 0, 0, 0⟩, .int .i64 1]) (by simp [results, Tryd.results11, go_sem, dval]) rfl ⟨rfl, (Below.refl _ _).alloc (Nat.le_refl _) _⟩
  · have h' : ¬ t < 0 := by omega
    go_enter Tryd.func11, Tryd.ntmps11
    go_wp2
    exact bodyPost_ret (v := .tuple #[dval ⟨0, 0, 0, 0, 0, 0⟩, .int .i64 1]) (by simp [results, Tryd.results11, go_sem, dval]) rfl ⟨rfl, (Below.refl _ _).alloc (Nat.le_refl _) _⟩

theorem refCivil_fin {t y m : Int} {w w' : World} (hy0 : 1950 ≤ y) (hy1 : y ≤ 9999) (hm0 : 1 ≤ m) (hm1 : m ≤ 12)
    (hr0 : 0 ≤ t / 86400 - DM.bef y - DM.cum y m) (hr1 : t / 86400 - DM.bef y - DM.cum y m < DM.dim y m) (hb : Below w.heap.size w w') :
    CivilOf t w (.returned (.tuple #[.agg #[.int .i64 y, .int .i64 m, .int .i64 (t / 86400 - DM.bef y - DM.cum y m + 1), .int .i64 (t / 3600 % 24), .int .i64 (t / 60 % 60), .int .i64 (t % 60)], .int .i64 0])) w' := by
  have hv : DM.Valid ⟨y, m, t / 86400 - DM.bef y - DM.cum y m + 1, t / 3600 % 24, t / 60 % 60, t % 60⟩ := by
    simp only [DM.Valid]; omega
  have hs : DM.sec ⟨y, m, t / 86400 - DM.bef y - DM.cum y m + 1, t / 3600 % 24, t / 60 % 60, t % 60⟩ = t := by
    simp only [DM.sec]; omega
  have hc := DM.civ_eq hv hs
  unfold CivilOf
  rw [hc]
  exact ⟨rfl, hv, hs, hb⟩

/-- Cells 0 to 5 of a new block, in a later world. -/
theorem six_later {w wr : World} {a b c d e f : Value} {T : TypeId} (hb : Below (w.heap.size + 1) (w.alloc (.cells #[a, b, c, d, e, f] T)) wr) :
    (wr.cell? ⟨w.heap.size, 0, none⟩ = some a ∧ wr.cell? ⟨w.heap.size, 1, none⟩ = some b ∧ wr.cell? ⟨w.heap.size, 2, none⟩ = some c ∧ wr.cell? ⟨w.heap.size, 3, none⟩ = some d ∧ wr.cell? ⟨w.heap.size, 4, none⟩ = some e ∧ wr.cell? ⟨w.heap.size, 5, none⟩ = some f) ∧
    (∀ i, wr.frozen? ⟨w.heap.size, i, none⟩ = false) ∧ w.heap.size < wr.heap.size := by
  have hc : ∀ i, wr.cell? ⟨w.heap.size, i, none⟩ = (w.alloc (.cells #[a, b, c, d, e, f] T)).cell? ⟨w.heap.size, i, none⟩ := fun i => hb.cell (p := ⟨w.heap.size, i, none⟩) (by simp)
  refine ⟨⟨?_, ?_, ?_, ?_, ?_, ?_⟩, fun i => ?_, ?_⟩
  iterate 6 (rw [hc]; simp [go_sem])
  · rw [hb.frozen (p := ⟨w.heap.size, i, none⟩) (by simp)]; simp [go_sem]
  · have := hb.size; simp at this; omega

set_option maxHeartbeats 2000000 in
theorem refCivil_yes (t : Int) (w : World) (h0 : 0 ≤ t) (h1 : t ≤ 254033452799) :
    Calls Tryd.prog 11 #[.int .i64 t] w (CivilOf t w) := by
  have g0 := DM.bef_guess (n := t / 86400) (by omega)
  have n0 : 0 ≤ t / 86400 := by omega
  have n1 : t / 86400 ≤ 2940201 := by omega
  go_enter Tryd.func11, Tryd.ntmps11
  go_wp2
  go_loop [5] (fun v => ∃ y : Int, 1950 ≤ y ∧ y ≤ 9999 ∧ DM.bef y ≤ t / 86400 ∧ v = .int .i64 y) (fun v => (9999 - intOf v).toNat)
  case atStart => exact ⟨_, by omega, by omega, g0, rfl⟩
  case round =>
    obtain ⟨y, hy1, hy2, hy3, rfl⟩ := hrel
    by_cases hc : DM.bef (y + 1) ≤ t / 86400
    · have hlt : y < 9999 := by
        by_cases e : y = 9999
        · rw [e, show (9999 : Int) + 1 = 10000 from rfl, DM.bef_top] at hc; omega
        · omega
      go_wp2_with (go_at_call 26; refine (refBefore_any _ _ (by omega) (by omega)).mono ?_; rintro e w' ⟨rfl, rfl⟩)
      go_round
      case rel => exact ⟨y + 1, by omega, by omega, hc, rfl⟩
      case measure => simp [intOf]; omega
    · have hb := DM.bef_bd hy1 (by omega)
      have hs := DM.bef_succ y
      have hl := DM.lp_01 y
      have HS := Lib.hid hs
      clear g0 hs
      go_wp2_with (go_at_call 26; refine (refBefore_any _ _ (by omega) (by omega)).mono ?_; rintro e w' ⟨rfl, rfl⟩)
      go_loopw [4, 6] (fun r k wr => ∃ m : Int, 1 ≤ m ∧ m ≤ 12 ∧ k = .int .i64 m ∧ 0 ≤ t / 86400 - DM.bef y - DM.cum y m ∧ r = .int .i64 (t / 86400 - DM.bef y - DM.cum y m) ∧
          Below (w.heap.size + 1) (w.alloc (.cells #[.int .i64 0, .int .i64 0, .int .i64 0, .int .i64 0, .int .i64 0, .int .i64 0] 27)) wr) (fun _ k _ => (12 - intOf k).toNat)
      case atStart => exact ⟨1, by omega, by omega, rfl, by rw [DM.cum_one]; omega, by rw [DM.cum_one]; simp, Below.refl _ _⟩
      case round =>
        obtain ⟨m, hm1, hm2, rfl, hr, rfl, hbel⟩ := hrel
        have cb := DM.cum_bd y m
        have db := DM.dim_bd y m
        have cs := Lib.hid (DM.cum_succ y m hm1 hm2)
        by_cases hd : DM.dim y m ≤ t / 86400 - DM.bef y - DM.cum y m
        · have hm : m < 12 := by
            by_cases e : m = 12
            · subst e
              have := cs.out; rw [show (12 : Int) + 1 = 13 from rfl, DM.cum_last] at this
              have := HS.out
              omega
            · omega
          go_wp2_with fail
          have hz := hbel.size
          simp only [World.size_alloc] at hz
          refine (days_any _ _ _ (by omega) (by omega) (by omega) (by omega)).mono ?_
          rintro e w1 ⟨rfl, hb1⟩
          go_wp2_with fail
          have hz1 := hb1.size
          refine (days_any _ _ _ (by omega) (by omega) (by omega) (by omega)).mono ?_
          rintro e w2 ⟨rfl, hb2⟩
          go_wp2_with fail
          go_roundw
          case rel => exact ⟨m + 1, by omega, by omega, rfl, by rw [cs.out]; omega, by rw [cs.out]; go_num, (hbel.trans (hb1.mono hz)).trans (hb2.mono (by omega))⟩
          case measure => simp [intOf]; omega
        · go_wp2_with fail
          have hz := hbel.size
          simp only [World.size_alloc] at hz
          refine (days_any _ _ _ (by omega) (by omega) (by omega) (by omega)).mono ?_
          rintro e w1 ⟨rfl, hb1⟩
          have hbel1 := hbel.trans (hb1.mono hz)
          obtain ⟨⟨c0, c1, c2, c3, c4, c5⟩, hf, hlt⟩ := six_later hbel1
          go_wp2_with fail
          refine bodyPost_ret (by simp [results, Tryd.results11, go_sem, c0, c1, c2, c3, c4, c5]) rfl (refCivil_fin hy1 hy2 hm1 hm2 hr (by omega) ?_)
          have hbel2 : Below w.heap.size w w1 := ((Below.refl _ _).alloc (Nat.le_refl _) _).trans (hbel1.mono (by omega))
          iterate 6 refine Below.setCell ?_ (by simp) _
          exact hbel2
end Go.Proofs.YtjfbmjegdjpfbaaDoor
