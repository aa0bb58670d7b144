/- Seconds of the program: the seconds of a valid date, else 0 and the error's number. -/
import Derived.Test.YtjfbmjegdjpfbaaDoorDateCivil
import Derived.Test.YtjfbmjegdjpfbaaDoorLater
namespace Go.Proofs.YtjfbmjegdjpfbaaDoor
open Go Go.RowKit

theorem ret_two' {k k' : IntKind} {a b : Int} {c d : Int} (h : a = b) (h' : c = d) : Ending.returned (.tuple #[.int k a, .int k' c]) = Ending.returned (.tuple #[.int k b, .int k' d]) := by rw [h, h']

set_option maxRecDepth 100000 in
set_option maxHeartbeats 4000000 in
theorem sec_yes (x : DM.D6) (w : World) (hL : Lens w) (hv : DM.Valid x) :
    Calls Tryd.prog 12 #[dval x] w fun e w' => e = .returned (.tuple #[.int .i64 (DM.sec x), .int .i64 0]) ∧ Below w.heap.size w w' := by
  obtain ⟨y, m, d, h, mi, s⟩ := x
  obtain ⟨v1, v2, v3, v4, v5, v6, v7, v8, v9, v10, v11, v12⟩ := hv
  simp only at v1 v2 v3 v4 v5 v6 v7 v8 v9 v10 v11 v12
  have db := DM.dim_bd y m
  have bb := DM.bef_bd v1 (by omega)
  have k1 : decide (y < 1950) = false := by simp; omega
  have k2 : decide (9999 < y) = false := by simp; omega
  have k3 : decide (m < 1) = false := by simp; omega
  have k4 : decide (12 < m) = false := by simp; omega
  have k5 : decide (d < 1) = false := by simp; omega
  have k6 : decide (DM.dim y m < d) = false := by simp; omega
  have k7 : decide (h < 0) = false := by simp; omega
  have k8 : decide (23 < h) = false := by simp; omega
  have k9 : decide (mi < 0) = false := by simp; omega
  have k10 : decide (59 < mi) = false := by simp; omega
  have k11 : decide (s < 0) = false := by simp; omega
  have k12 : decide (59 < s) = false := by simp; omega
  obtain ⟨W, hW⟩ : ∃ W, W = w.alloc (.cells #[.int .i64 y, .int .i64 m, .int .i64 d, .int .i64 h, .int .i64 mi, .int .i64 s] 27) := ⟨_, rfl⟩
  have hlt : w.heap.size < W.heap.size := by rw [hW]; simp
  have c0 : ∀ u : Later W, u.v.cell? ⟨w.heap.size, 0, none⟩ = some (.int .i64 y) := Later.cell hlt (by rw [hW]; simp [go_sem])
  have c1 : ∀ u : Later W, u.v.cell? ⟨w.heap.size, 1, none⟩ = some (.int .i64 m) := Later.cell hlt (by rw [hW]; simp [go_sem])
  have c2 : ∀ u : Later W, u.v.cell? ⟨w.heap.size, 2, none⟩ = some (.int .i64 d) := Later.cell hlt (by rw [hW]; simp [go_sem])
  have c3 : ∀ u : Later W, u.v.cell? ⟨w.heap.size, 3, none⟩ = some (.int .i64 h) := Later.cell hlt (by rw [hW]; simp [go_sem])
  have c4 : ∀ u : Later W, u.v.cell? ⟨w.heap.size, 4, none⟩ = some (.int .i64 mi) := Later.cell hlt (by rw [hW]; simp [go_sem])
  have c5 : ∀ u : Later W, u.v.cell? ⟨w.heap.size, 5, none⟩ = some (.int .i64 s) := Later.cell hlt (by rw [hW]; simp [go_sem])
  have hbW : Below w.heap.size w W := by rw [hW]; exact (Below.refl _ _).alloc (Nat.le_refl _) _
  have HL : Hid (Lens W) := Lib.hid (by rw [hW]; exact hL.alloc _)
  clear hL
  unfold dval
  go_enter Tryd.func12, Tryd.ntmps12
  go_wp2_with fail
  rw [← hW]
  clear hW
  refine wp_region_later (by kernel_rfl) (by kernel_rfl) ?_
  repeat (first | go_big_quiet_skip | (go_big_quiet_want; go_big_quiet_op; first | go_big_quiet_on | go_big_quiet_call ((go_at_call 25; exact Later.call_same (length_any _ _ _ (by omega) (by omega) (by omega) (by omega) (HL.out.below (Later.b _)))))))
  refine wpQuiet_nil ?_
  intro w1 hu1
  have hb1 := Later.out hu1
  clear hu1
  have q0 := c0 ⟨w1, hb1⟩
  have q1 := c1 ⟨w1, hb1⟩
  have q2 := c2 ⟨w1, hb1⟩
  have q3 := c3 ⟨w1, hb1⟩
  have q4 := c4 ⟨w1, hb1⟩
  have q5 := c5 ⟨w1, hb1⟩
  dsimp only [Later.v] at q0 q1 q2 q3 q4 q5
  have HB1 := Lib.hid hb1
  have HC := Lib.hid (And.intro c0 (And.intro c1 (And.intro c2 (And.intro c3 (And.intro c4 c5)))))
  clear hb1 c0 c1 c2 c3 c4 c5
  go_wp2_with fail
  obtain ⟨c0, c1, c2, c3, c4, c5⟩ := HC.out
  have hb1 := HB1.out
  clear q0 q1 q2 q3 q4 q5
  clear k1 k2 k3 k4 k5 k6 k7 k8 k9 k10 k11 k12
  have e0 : ∀ u : Later w1, u.v.cell? ⟨w.heap.size, 0, none⟩ = some (.int .i64 y) := fun u => c0 ⟨u.v, hb1.trans (u.b.mono hb1.size)⟩
  have e2 : ∀ u : Later w1, u.v.cell? ⟨w.heap.size, 2, none⟩ = some (.int .i64 d) := fun u => c2 ⟨u.v, hb1.trans (u.b.mono hb1.size)⟩
  have HC := Lib.hid (And.intro c0 (And.intro c1 (And.intro c2 (And.intro c3 (And.intro c4 c5)))))
  have HB1 := Lib.hid hb1
  clear hb1 c0 c1 c2 c3 c4 c5
  refine wp_region_later (by kernel_rfl) (by kernel_rfl) ?_
  repeat (first | go_big_quiet_skip | (go_big_quiet_want; go_big_quiet_op; first | go_big_quiet_on | go_big_quiet_call ((go_at_call 24; exact Later.call_same (before_any _ _ (by omega) (by omega))))))
  refine wpQuiet_nil ?_
  intro w2 hu2
  have hb2 := Later.out hu2
  clear hu2
  obtain ⟨c0, c1, c2, c3, c4, c5⟩ := HC.out
  have hb3 := HB1.out.trans (hb2.mono HB1.out.size)
  have q0 := c0 ⟨w2, hb3⟩
  have q1 := c1 ⟨w2, hb3⟩
  have q2 := c2 ⟨w2, hb3⟩
  have q3 := c3 ⟨w2, hb3⟩
  have q4 := c4 ⟨w2, hb3⟩
  have q5 := c5 ⟨w2, hb3⟩
  dsimp only [Later.v] at q0 q1 q2 q3 q4 q5
  clear c0 c1 c2 c3 c4 c5 e0 e2 HC HB1 hb2
  have HL2 : Hid (Lens w2) := Lib.hid (HL.out.below hb3)
  have HB := Lib.hid hb3
  clear hb3
  go_wp2_with fail
  go_loop [4, 5] (fun r k => ∃ i : Int, 1 ≤ i ∧ i ≤ m ∧ k = .int .i64 i ∧ r = .int .i64 (DM.bef y + d - 1 + DM.cum y i)) (fun _ k => (m - intOf k).toNat)
  case atStart => exact ⟨1, by omega, by omega, rfl, by rw [DM.cum_one]; simp⟩
  case round =>
    obtain ⟨i, hi1, hi2, rfl, rfl⟩ := hrel
    have cb := DM.cum_bd y i
    by_cases hd : i < m
    · have dbi := DM.dim_bd y i
      go_wp2_with fail
      refine (length_any _ _ _ (by omega) (by omega) (by omega) (by omega) HL2.out).mono ?_
      rintro e w' ⟨rfl, rfl⟩
      go_wp2_with fail
      go_round
      case rel => exact ⟨i + 1, by omega, by omega, rfl, by rw [DM.cum_succ y i hi1 (by omega), ← Int.add_assoc]⟩
      case measure => simp [intOf]; omega
    · obtain rfl : i = m := by omega
      go_wp2_with fail
      go_ret2
      refine ⟨ret_two' ?_ rfl, hbW.trans (HB.out.mono (by omega))⟩
      simp only [DM.sec]
      omega

set_option maxRecDepth 100000 in
set_option maxHeartbeats 4000000 in
theorem sec_no_1 (y m d h mi s : Int) (w : World) (v1 : y < 1950) :
    Calls Tryd.prog 12 #[.agg #[.int .i64 y, .int .i64 m, .int .i64 d, .int .i64 h, .int .i64 mi, .int .i64 s]] w fun e w' => e = .returned (.tuple #[.int .i64 0, .int .i64 12]) ∧ Below w.heap.size w w' := by
  have k1 : decide (y < 1950) = true := by simp; omega
  obtain ⟨W, hW⟩ : ∃ W, W = w.alloc (.cells #[.int .i64 y, .int .i64 m, .int .i64 d, .int .i64 h, .int .i64 mi, .int .i64 s] 27) := ⟨_, rfl⟩
  have hlt : w.heap.size < W.heap.size := by rw [hW]; simp
  have c0 : ∀ u : Later W, u.v.cell? ⟨w.heap.size, 0, none⟩ = some (.int .i64 y) := Later.cell hlt (by rw [hW]; simp [go_sem])
  have c1 : ∀ u : Later W, u.v.cell? ⟨w.heap.size, 1, none⟩ = some (.int .i64 m) := Later.cell hlt (by rw [hW]; simp [go_sem])
  have c2 : ∀ u : Later W, u.v.cell? ⟨w.heap.size, 2, none⟩ = some (.int .i64 d) := Later.cell hlt (by rw [hW]; simp [go_sem])
  have c3 : ∀ u : Later W, u.v.cell? ⟨w.heap.size, 3, none⟩ = some (.int .i64 h) := Later.cell hlt (by rw [hW]; simp [go_sem])
  have c4 : ∀ u : Later W, u.v.cell? ⟨w.heap.size, 4, none⟩ = some (.int .i64 mi) := Later.cell hlt (by rw [hW]; simp [go_sem])
  have c5 : ∀ u : Later W, u.v.cell? ⟨w.heap.size, 5, none⟩ = some (.int .i64 s) := Later.cell hlt (by rw [hW]; simp [go_sem])
  have hbW : Below w.heap.size w W := by rw [hW]; exact (Below.refl _ _).alloc (Nat.le_refl _) _
  go_enter Tryd.func12, Tryd.ntmps12
  go_wp2_with fail
  rw [← hW]
  clear hW
  refine wp_region_later (by kernel_rfl) (by kernel_rfl) ?_
  repeat (first | go_big_quiet_skip | (go_big_quiet_want; go_big_quiet_op; first | go_big_quiet_on | go_big_quiet_call ((fail))))
  refine wpQuiet_nil ?_
  intro w1 hu1
  have hb1 := Later.out hu1
  clear hu1
  have hb2 := hbW.trans (hb1.mono (by omega))
  have q0 := c0 ⟨w1, hb1⟩
  have q1 := c1 ⟨w1, hb1⟩
  have q2 := c2 ⟨w1, hb1⟩
  have q3 := c3 ⟨w1, hb1⟩
  have q4 := c4 ⟨w1, hb1⟩
  have q5 := c5 ⟨w1, hb1⟩
  dsimp only [Later.v] at q0 q1 q2 q3 q4 q5
  clear c0 c1 c2 c3 c4 c5
  have HB := Lib.hid hb2
  clear hb1 hb2
  go_wp2_with fail
  go_ret2
  exact ⟨rfl, HB.out⟩

set_option maxRecDepth 100000 in
set_option maxHeartbeats 4000000 in
theorem sec_no_2 (y m d h mi s : Int) (w : World) (v1 : 1950 ≤ y) (v2 : 9999 < y) :
    Calls Tryd.prog 12 #[.agg #[.int .i64 y, .int .i64 m, .int .i64 d, .int .i64 h, .int .i64 mi, .int .i64 s]] w fun e w' => e = .returned (.tuple #[.int .i64 0, .int .i64 12]) ∧ Below w.heap.size w w' := by
  have k1 : decide (y < 1950) = false := by simp; omega
  have k2 : decide (9999 < y) = true := by simp; omega
  obtain ⟨W, hW⟩ : ∃ W, W = w.alloc (.cells #[.int .i64 y, .int .i64 m, .int .i64 d, .int .i64 h, .int .i64 mi, .int .i64 s] 27) := ⟨_, rfl⟩
  have hlt : w.heap.size < W.heap.size := by rw [hW]; simp
  have c0 : ∀ u : Later W, u.v.cell? ⟨w.heap.size, 0, none⟩ = some (.int .i64 y) := Later.cell hlt (by rw [hW]; simp [go_sem])
  have c1 : ∀ u : Later W, u.v.cell? ⟨w.heap.size, 1, none⟩ = some (.int .i64 m) := Later.cell hlt (by rw [hW]; simp [go_sem])
  have c2 : ∀ u : Later W, u.v.cell? ⟨w.heap.size, 2, none⟩ = some (.int .i64 d) := Later.cell hlt (by rw [hW]; simp [go_sem])
  have c3 : ∀ u : Later W, u.v.cell? ⟨w.heap.size, 3, none⟩ = some (.int .i64 h) := Later.cell hlt (by rw [hW]; simp [go_sem])
  have c4 : ∀ u : Later W, u.v.cell? ⟨w.heap.size, 4, none⟩ = some (.int .i64 mi) := Later.cell hlt (by rw [hW]; simp [go_sem])
  have c5 : ∀ u : Later W, u.v.cell? ⟨w.heap.size, 5, none⟩ = some (.int .i64 s) := Later.cell hlt (by rw [hW]; simp [go_sem])
  have hbW : Below w.heap.size w W := by rw [hW]; exact (Below.refl _ _).alloc (Nat.le_refl _) _
  go_enter Tryd.func12, Tryd.ntmps12
  go_wp2_with fail
  rw [← hW]
  clear hW
  refine wp_region_later (by kernel_rfl) (by kernel_rfl) ?_
  repeat (first | go_big_quiet_skip | (go_big_quiet_want; go_big_quiet_op; first | go_big_quiet_on | go_big_quiet_call ((fail))))
  refine wpQuiet_nil ?_
  intro w1 hu1
  have hb1 := Later.out hu1
  clear hu1
  have hb2 := hbW.trans (hb1.mono (by omega))
  have q0 := c0 ⟨w1, hb1⟩
  have q1 := c1 ⟨w1, hb1⟩
  have q2 := c2 ⟨w1, hb1⟩
  have q3 := c3 ⟨w1, hb1⟩
  have q4 := c4 ⟨w1, hb1⟩
  have q5 := c5 ⟨w1, hb1⟩
  dsimp only [Later.v] at q0 q1 q2 q3 q4 q5
  clear c0 c1 c2 c3 c4 c5
  have HB := Lib.hid hb2
  clear hb1 hb2
  go_wp2_with fail
  go_ret2
  exact ⟨rfl, HB.out⟩

set_option maxRecDepth 100000 in
set_option maxHeartbeats 4000000 in
theorem sec_no_3 (y m d h mi s : Int) (w : World) (v1 : 1950 ≤ y) (v2 : y ≤ 9999) (v3 : m < 1) :
    Calls Tryd.prog 12 #[.agg #[.int .i64 y, .int .i64 m, .int .i64 d, .int .i64 h, .int .i64 mi, .int .i64 s]] w fun e w' => e = .returned (.tuple #[.int .i64 0, .int .i64 12]) ∧ Below w.heap.size w w' := by
  have k1 : decide (y < 1950) = false := by simp; omega
  have k2 : decide (9999 < y) = false := by simp; omega
  have k3 : decide (m < 1) = true := by simp; omega
  obtain ⟨W, hW⟩ : ∃ W, W = w.alloc (.cells #[.int .i64 y, .int .i64 m, .int .i64 d, .int .i64 h, .int .i64 mi, .int .i64 s] 27) := ⟨_, rfl⟩
  have hlt : w.heap.size < W.heap.size := by rw [hW]; simp
  have c0 : ∀ u : Later W, u.v.cell? ⟨w.heap.size, 0, none⟩ = some (.int .i64 y) := Later.cell hlt (by rw [hW]; simp [go_sem])
  have c1 : ∀ u : Later W, u.v.cell? ⟨w.heap.size, 1, none⟩ = some (.int .i64 m) := Later.cell hlt (by rw [hW]; simp [go_sem])
  have c2 : ∀ u : Later W, u.v.cell? ⟨w.heap.size, 2, none⟩ = some (.int .i64 d) := Later.cell hlt (by rw [hW]; simp [go_sem])
  have c3 : ∀ u : Later W, u.v.cell? ⟨w.heap.size, 3, none⟩ = some (.int .i64 h) := Later.cell hlt (by rw [hW]; simp [go_sem])
  have c4 : ∀ u : Later W, u.v.cell? ⟨w.heap.size, 4, none⟩ = some (.int .i64 mi) := Later.cell hlt (by rw [hW]; simp [go_sem])
  have c5 : ∀ u : Later W, u.v.cell? ⟨w.heap.size, 5, none⟩ = some (.int .i64 s) := Later.cell hlt (by rw [hW]; simp [go_sem])
  have hbW : Below w.heap.size w W := by rw [hW]; exact (Below.refl _ _).alloc (Nat.le_refl _) _
  go_enter Tryd.func12, Tryd.ntmps12
  go_wp2_with fail
  rw [← hW]
  clear hW
  refine wp_region_later (by kernel_rfl) (by kernel_rfl) ?_
  repeat (first | go_big_quiet_skip | (go_big_quiet_want; go_big_quiet_op; first | go_big_quiet_on | go_big_quiet_call ((fail))))
  refine wpQuiet_nil ?_
  intro w1 hu1
  have hb1 := Later.out hu1
  clear hu1
  have hb2 := hbW.trans (hb1.mono (by omega))
  have q0 := c0 ⟨w1, hb1⟩
  have q1 := c1 ⟨w1, hb1⟩
  have q2 := c2 ⟨w1, hb1⟩
  have q3 := c3 ⟨w1, hb1⟩
  have q4 := c4 ⟨w1, hb1⟩
  have q5 := c5 ⟨w1, hb1⟩
  dsimp only [Later.v] at q0 q1 q2 q3 q4 q5
  clear c0 c1 c2 c3 c4 c5
  have HB := Lib.hid hb2
  clear hb1 hb2
  go_wp2_with fail
  go_ret2
  exact ⟨rfl, HB.out⟩

set_option maxRecDepth 100000 in
set_option maxHeartbeats 4000000 in
theorem sec_no_4 (y m d h mi s : Int) (w : World) (v1 : 1950 ≤ y) (v2 : y ≤ 9999) (v3 : 1 ≤ m) (v4 : 12 < m) :
    Calls Tryd.prog 12 #[.agg #[.int .i64 y, .int .i64 m, .int .i64 d, .int .i64 h, .int .i64 mi, .int .i64 s]] w fun e w' => e = .returned (.tuple #[.int .i64 0, .int .i64 12]) ∧ Below w.heap.size w w' := by
  have k1 : decide (y < 1950) = false := by simp; omega
  have k2 : decide (9999 < y) = false := by simp; omega
  have k3 : decide (m < 1) = false := by simp; omega
  have k4 : decide (12 < m) = true := by simp; omega
  obtain ⟨W, hW⟩ : ∃ W, W = w.alloc (.cells #[.int .i64 y, .int .i64 m, .int .i64 d, .int .i64 h, .int .i64 mi, .int .i64 s] 27) := ⟨_, rfl⟩
  have hlt : w.heap.size < W.heap.size := by rw [hW]; simp
  have c0 : ∀ u : Later W, u.v.cell? ⟨w.heap.size, 0, none⟩ = some (.int .i64 y) := Later.cell hlt (by rw [hW]; simp [go_sem])
  have c1 : ∀ u : Later W, u.v.cell? ⟨w.heap.size, 1, none⟩ = some (.int .i64 m) := Later.cell hlt (by rw [hW]; simp [go_sem])
  have c2 : ∀ u : Later W, u.v.cell? ⟨w.heap.size, 2, none⟩ = some (.int .i64 d) := Later.cell hlt (by rw [hW]; simp [go_sem])
  have c3 : ∀ u : Later W, u.v.cell? ⟨w.heap.size, 3, none⟩ = some (.int .i64 h) := Later.cell hlt (by rw [hW]; simp [go_sem])
  have c4 : ∀ u : Later W, u.v.cell? ⟨w.heap.size, 4, none⟩ = some (.int .i64 mi) := Later.cell hlt (by rw [hW]; simp [go_sem])
  have c5 : ∀ u : Later W, u.v.cell? ⟨w.heap.size, 5, none⟩ = some (.int .i64 s) := Later.cell hlt (by rw [hW]; simp [go_sem])
  have hbW : Below w.heap.size w W := by rw [hW]; exact (Below.refl _ _).alloc (Nat.le_refl _) _
  go_enter Tryd.func12, Tryd.ntmps12
  go_wp2_with fail
  rw [← hW]
  clear hW
  refine wp_region_later (by kernel_rfl) (by kernel_rfl) ?_
  repeat (first | go_big_quiet_skip | (go_big_quiet_want; go_big_quiet_op; first | go_big_quiet_on | go_big_quiet_call ((fail))))
  refine wpQuiet_nil ?_
  intro w1 hu1
  have hb1 := Later.out hu1
  clear hu1
  have hb2 := hbW.trans (hb1.mono (by omega))
  have q0 := c0 ⟨w1, hb1⟩
  have q1 := c1 ⟨w1, hb1⟩
  have q2 := c2 ⟨w1, hb1⟩
  have q3 := c3 ⟨w1, hb1⟩
  have q4 := c4 ⟨w1, hb1⟩
  have q5 := c5 ⟨w1, hb1⟩
  dsimp only [Later.v] at q0 q1 q2 q3 q4 q5
  clear c0 c1 c2 c3 c4 c5
  have HB := Lib.hid hb2
  clear hb1 hb2
  go_wp2_with fail
  go_ret2
  exact ⟨rfl, HB.out⟩

set_option maxRecDepth 100000 in
set_option maxHeartbeats 4000000 in
theorem sec_no_5 (y m d h mi s : Int) (w : World) (v1 : 1950 ≤ y) (v2 : y ≤ 9999) (v3 : 1 ≤ m) (v4 : m ≤ 12) (v5 : d < 1) :
    Calls Tryd.prog 12 #[.agg #[.int .i64 y, .int .i64 m, .int .i64 d, .int .i64 h, .int .i64 mi, .int .i64 s]] w fun e w' => e = .returned (.tuple #[.int .i64 0, .int .i64 12]) ∧ Below w.heap.size w w' := by
  have k1 : decide (y < 1950) = false := by simp; omega
  have k2 : decide (9999 < y) = false := by simp; omega
  have k3 : decide (m < 1) = false := by simp; omega
  have k4 : decide (12 < m) = false := by simp; omega
  have k5 : decide (d < 1) = true := by simp; omega
  obtain ⟨W, hW⟩ : ∃ W, W = w.alloc (.cells #[.int .i64 y, .int .i64 m, .int .i64 d, .int .i64 h, .int .i64 mi, .int .i64 s] 27) := ⟨_, rfl⟩
  have hlt : w.heap.size < W.heap.size := by rw [hW]; simp
  have c0 : ∀ u : Later W, u.v.cell? ⟨w.heap.size, 0, none⟩ = some (.int .i64 y) := Later.cell hlt (by rw [hW]; simp [go_sem])
  have c1 : ∀ u : Later W, u.v.cell? ⟨w.heap.size, 1, none⟩ = some (.int .i64 m) := Later.cell hlt (by rw [hW]; simp [go_sem])
  have c2 : ∀ u : Later W, u.v.cell? ⟨w.heap.size, 2, none⟩ = some (.int .i64 d) := Later.cell hlt (by rw [hW]; simp [go_sem])
  have c3 : ∀ u : Later W, u.v.cell? ⟨w.heap.size, 3, none⟩ = some (.int .i64 h) := Later.cell hlt (by rw [hW]; simp [go_sem])
  have c4 : ∀ u : Later W, u.v.cell? ⟨w.heap.size, 4, none⟩ = some (.int .i64 mi) := Later.cell hlt (by rw [hW]; simp [go_sem])
  have c5 : ∀ u : Later W, u.v.cell? ⟨w.heap.size, 5, none⟩ = some (.int .i64 s) := Later.cell hlt (by rw [hW]; simp [go_sem])
  have hbW : Below w.heap.size w W := by rw [hW]; exact (Below.refl _ _).alloc (Nat.le_refl _) _
  go_enter Tryd.func12, Tryd.ntmps12
  go_wp2_with fail
  rw [← hW]
  clear hW
  refine wp_region_later (by kernel_rfl) (by kernel_rfl) ?_
  repeat (first | go_big_quiet_skip | (go_big_quiet_want; go_big_quiet_op; first | go_big_quiet_on | go_big_quiet_call ((fail))))
  refine wpQuiet_nil ?_
  intro w1 hu1
  have hb1 := Later.out hu1
  clear hu1
  have hb2 := hbW.trans (hb1.mono (by omega))
  have q0 := c0 ⟨w1, hb1⟩
  have q1 := c1 ⟨w1, hb1⟩
  have q2 := c2 ⟨w1, hb1⟩
  have q3 := c3 ⟨w1, hb1⟩
  have q4 := c4 ⟨w1, hb1⟩
  have q5 := c5 ⟨w1, hb1⟩
  dsimp only [Later.v] at q0 q1 q2 q3 q4 q5
  clear c0 c1 c2 c3 c4 c5
  have HB := Lib.hid hb2
  clear hb1 hb2
  go_wp2_with fail
  go_ret2
  exact ⟨rfl, HB.out⟩

set_option maxRecDepth 100000 in
set_option maxHeartbeats 4000000 in
theorem sec_no_6 (y m d h mi s : Int) (w : World) (hL : Lens w) (v1 : 1950 ≤ y) (v2 : y ≤ 9999) (v3 : 1 ≤ m) (v4 : m ≤ 12) (v5 : 1 ≤ d) (v6 : DM.dim y m < d) :
    Calls Tryd.prog 12 #[.agg #[.int .i64 y, .int .i64 m, .int .i64 d, .int .i64 h, .int .i64 mi, .int .i64 s]] w fun e w' => e = .returned (.tuple #[.int .i64 0, .int .i64 12]) ∧ Below w.heap.size w w' := by
  have db := DM.dim_bd y m
  have k1 : decide (y < 1950) = false := by simp; omega
  have k2 : decide (9999 < y) = false := by simp; omega
  have k3 : decide (m < 1) = false := by simp; omega
  have k4 : decide (12 < m) = false := by simp; omega
  have k5 : decide (d < 1) = false := by simp; omega
  have k6 : decide (DM.dim y m < d) = true := by simp; omega
  obtain ⟨W, hW⟩ : ∃ W, W = w.alloc (.cells #[.int .i64 y, .int .i64 m, .int .i64 d, .int .i64 h, .int .i64 mi, .int .i64 s] 27) := ⟨_, rfl⟩
  have hlt : w.heap.size < W.heap.size := by rw [hW]; simp
  have c0 : ∀ u : Later W, u.v.cell? ⟨w.heap.size, 0, none⟩ = some (.int .i64 y) := Later.cell hlt (by rw [hW]; simp [go_sem])
  have c1 : ∀ u : Later W, u.v.cell? ⟨w.heap.size, 1, none⟩ = some (.int .i64 m) := Later.cell hlt (by rw [hW]; simp [go_sem])
  have c2 : ∀ u : Later W, u.v.cell? ⟨w.heap.size, 2, none⟩ = some (.int .i64 d) := Later.cell hlt (by rw [hW]; simp [go_sem])
  have c3 : ∀ u : Later W, u.v.cell? ⟨w.heap.size, 3, none⟩ = some (.int .i64 h) := Later.cell hlt (by rw [hW]; simp [go_sem])
  have c4 : ∀ u : Later W, u.v.cell? ⟨w.heap.size, 4, none⟩ = some (.int .i64 mi) := Later.cell hlt (by rw [hW]; simp [go_sem])
  have c5 : ∀ u : Later W, u.v.cell? ⟨w.heap.size, 5, none⟩ = some (.int .i64 s) := Later.cell hlt (by rw [hW]; simp [go_sem])
  have hbW : Below w.heap.size w W := by rw [hW]; exact (Below.refl _ _).alloc (Nat.le_refl _) _
  have HL : Hid (Lens W) := Lib.hid (by rw [hW]; exact hL.alloc _)
  clear hL
  go_enter Tryd.func12, Tryd.ntmps12
  go_wp2_with fail
  rw [← hW]
  clear hW
  refine wp_region_later (by kernel_rfl) (by kernel_rfl) ?_
  repeat (first | go_big_quiet_skip | (go_big_quiet_want; go_big_quiet_op; first | go_big_quiet_on | go_big_quiet_call ((go_at_call 25; exact Later.call_same (length_any _ _ _ (by omega) (by omega) (by omega) (by omega) (HL.out.below (Later.b _)))))))
  refine wpQuiet_nil ?_
  intro w1 hu1
  have hb1 := Later.out hu1
  clear hu1
  have hb2 := hbW.trans (hb1.mono (by omega))
  have q0 := c0 ⟨w1, hb1⟩
  have q1 := c1 ⟨w1, hb1⟩
  have q2 := c2 ⟨w1, hb1⟩
  have q3 := c3 ⟨w1, hb1⟩
  have q4 := c4 ⟨w1, hb1⟩
  have q5 := c5 ⟨w1, hb1⟩
  dsimp only [Later.v] at q0 q1 q2 q3 q4 q5
  clear c0 c1 c2 c3 c4 c5
  have HB := Lib.hid hb2
  clear hb1 hb2
  go_wp2_with fail
  go_ret2
  exact ⟨rfl, HB.out⟩

set_option maxRecDepth 100000 in
set_option maxHeartbeats 4000000 in
theorem sec_no_7 (y m d h mi s : Int) (w : World) (hL : Lens w) (v1 : 1950 ≤ y) (v2 : y ≤ 9999) (v3 : 1 ≤ m) (v4 : m ≤ 12) (v5 : 1 ≤ d) (v6 : d ≤ DM.dim y m) (v7 : h < 0) :
    Calls Tryd.prog 12 #[.agg #[.int .i64 y, .int .i64 m, .int .i64 d, .int .i64 h, .int .i64 mi, .int .i64 s]] w fun e w' => e = .returned (.tuple #[.int .i64 0, .int .i64 12]) ∧ Below w.heap.size w w' := by
  have db := DM.dim_bd y m
  have k1 : decide (y < 1950) = false := by simp; omega
  have k2 : decide (9999 < y) = false := by simp; omega
  have k3 : decide (m < 1) = false := by simp; omega
  have k4 : decide (12 < m) = false := by simp; omega
  have k5 : decide (d < 1) = false := by simp; omega
  have k6 : decide (DM.dim y m < d) = false := by simp; omega
  have k7 : decide (h < 0) = true := by simp; omega
  obtain ⟨W, hW⟩ : ∃ W, W = w.alloc (.cells #[.int .i64 y, .int .i64 m, .int .i64 d, .int .i64 h, .int .i64 mi, .int .i64 s] 27) := ⟨_, rfl⟩
  have hlt : w.heap.size < W.heap.size := by rw [hW]; simp
  have c0 : ∀ u : Later W, u.v.cell? ⟨w.heap.size, 0, none⟩ = some (.int .i64 y) := Later.cell hlt (by rw [hW]; simp [go_sem])
  have c1 : ∀ u : Later W, u.v.cell? ⟨w.heap.size, 1, none⟩ = some (.int .i64 m) := Later.cell hlt (by rw [hW]; simp [go_sem])
  have c2 : ∀ u : Later W, u.v.cell? ⟨w.heap.size, 2, none⟩ = some (.int .i64 d) := Later.cell hlt (by rw [hW]; simp [go_sem])
  have c3 : ∀ u : Later W, u.v.cell? ⟨w.heap.size, 3, none⟩ = some (.int .i64 h) := Later.cell hlt (by rw [hW]; simp [go_sem])
  have c4 : ∀ u : Later W, u.v.cell? ⟨w.heap.size, 4, none⟩ = some (.int .i64 mi) := Later.cell hlt (by rw [hW]; simp [go_sem])
  have c5 : ∀ u : Later W, u.v.cell? ⟨w.heap.size, 5, none⟩ = some (.int .i64 s) := Later.cell hlt (by rw [hW]; simp [go_sem])
  have hbW : Below w.heap.size w W := by rw [hW]; exact (Below.refl _ _).alloc (Nat.le_refl _) _
  have HL : Hid (Lens W) := Lib.hid (by rw [hW]; exact hL.alloc _)
  clear hL
  go_enter Tryd.func12, Tryd.ntmps12
  go_wp2_with fail
  rw [← hW]
  clear hW
  refine wp_region_later (by kernel_rfl) (by kernel_rfl) ?_
  repeat (first | go_big_quiet_skip | (go_big_quiet_want; go_big_quiet_op; first | go_big_quiet_on | go_big_quiet_call ((go_at_call 25; exact Later.call_same (length_any _ _ _ (by omega) (by omega) (by omega) (by omega) (HL.out.below (Later.b _)))))))
  refine wpQuiet_nil ?_
  intro w1 hu1
  have hb1 := Later.out hu1
  clear hu1
  have hb2 := hbW.trans (hb1.mono (by omega))
  have q0 := c0 ⟨w1, hb1⟩
  have q1 := c1 ⟨w1, hb1⟩
  have q2 := c2 ⟨w1, hb1⟩
  have q3 := c3 ⟨w1, hb1⟩
  have q4 := c4 ⟨w1, hb1⟩
  have q5 := c5 ⟨w1, hb1⟩
  dsimp only [Later.v] at q0 q1 q2 q3 q4 q5
  clear c0 c1 c2 c3 c4 c5
  have HB := Lib.hid hb2
  clear hb1 hb2
  go_wp2_with fail
  go_ret2
  exact ⟨rfl, HB.out⟩

set_option maxRecDepth 100000 in
set_option maxHeartbeats 4000000 in
theorem sec_no_8 (y m d h mi s : Int) (w : World) (hL : Lens w) (v1 : 1950 ≤ y) (v2 : y ≤ 9999) (v3 : 1 ≤ m) (v4 : m ≤ 12) (v5 : 1 ≤ d) (v6 : d ≤ DM.dim y m) (v7 : 0 ≤ h) (v8 : 23 < h) :
    Calls Tryd.prog 12 #[.agg #[.int .i64 y, .int .i64 m, .int .i64 d, .int .i64 h, .int .i64 mi, .int .i64 s]] w fun e w' => e = .returned (.tuple #[.int .i64 0, .int .i64 12]) ∧ Below w.heap.size w w' := by
  have db := DM.dim_bd y m
  have k1 : decide (y < 1950) = false := by simp; omega
  have k2 : decide (9999 < y) = false := by simp; omega
  have k3 : decide (m < 1) = false := by simp; omega
  have k4 : decide (12 < m) = false := by simp; omega
  have k5 : decide (d < 1) = false := by simp; omega
  have k6 : decide (DM.dim y m < d) = false := by simp; omega
  have k7 : decide (h < 0) = false := by simp; omega
  have k8 : decide (23 < h) = true := by simp; omega
  obtain ⟨W, hW⟩ : ∃ W, W = w.alloc (.cells #[.int .i64 y, .int .i64 m, .int .i64 d, .int .i64 h, .int .i64 mi, .int .i64 s] 27) := ⟨_, rfl⟩
  have hlt : w.heap.size < W.heap.size := by rw [hW]; simp
  have c0 : ∀ u : Later W, u.v.cell? ⟨w.heap.size, 0, none⟩ = some (.int .i64 y) := Later.cell hlt (by rw [hW]; simp [go_sem])
  have c1 : ∀ u : Later W, u.v.cell? ⟨w.heap.size, 1, none⟩ = some (.int .i64 m) := Later.cell hlt (by rw [hW]; simp [go_sem])
  have c2 : ∀ u : Later W, u.v.cell? ⟨w.heap.size, 2, none⟩ = some (.int .i64 d) := Later.cell hlt (by rw [hW]; simp [go_sem])
  have c3 : ∀ u : Later W, u.v.cell? ⟨w.heap.size, 3, none⟩ = some (.int .i64 h) := Later.cell hlt (by rw [hW]; simp [go_sem])
  have c4 : ∀ u : Later W, u.v.cell? ⟨w.heap.size, 4, none⟩ = some (.int .i64 mi) := Later.cell hlt (by rw [hW]; simp [go_sem])
  have c5 : ∀ u : Later W, u.v.cell? ⟨w.heap.size, 5, none⟩ = some (.int .i64 s) := Later.cell hlt (by rw [hW]; simp [go_sem])
  have hbW : Below w.heap.size w W := by rw [hW]; exact (Below.refl _ _).alloc (Nat.le_refl _) _
  have HL : Hid (Lens W) := Lib.hid (by rw [hW]; exact hL.alloc _)
  clear hL
  go_enter Tryd.func12, Tryd.ntmps12
  go_wp2_with fail
  rw [← hW]
  clear hW
  refine wp_region_later (by kernel_rfl) (by kernel_rfl) ?_
  repeat (first | go_big_quiet_skip | (go_big_quiet_want; go_big_quiet_op; first | go_big_quiet_on | go_big_quiet_call ((go_at_call 25; exact Later.call_same (length_any _ _ _ (by omega) (by omega) (by omega) (by omega) (HL.out.below (Later.b _)))))))
  refine wpQuiet_nil ?_
  intro w1 hu1
  have hb1 := Later.out hu1
  clear hu1
  have hb2 := hbW.trans (hb1.mono (by omega))
  have q0 := c0 ⟨w1, hb1⟩
  have q1 := c1 ⟨w1, hb1⟩
  have q2 := c2 ⟨w1, hb1⟩
  have q3 := c3 ⟨w1, hb1⟩
  have q4 := c4 ⟨w1, hb1⟩
  have q5 := c5 ⟨w1, hb1⟩
  dsimp only [Later.v] at q0 q1 q2 q3 q4 q5
  clear c0 c1 c2 c3 c4 c5
  have HB := Lib.hid hb2
  clear hb1 hb2
  go_wp2_with fail
  go_ret2
  exact ⟨rfl, HB.out⟩

set_option maxRecDepth 100000 in
set_option maxHeartbeats 4000000 in
theorem sec_no_9 (y m d h mi s : Int) (w : World) (hL : Lens w) (v1 : 1950 ≤ y) (v2 : y ≤ 9999) (v3 : 1 ≤ m) (v4 : m ≤ 12) (v5 : 1 ≤ d) (v6 : d ≤ DM.dim y m) (v7 : 0 ≤ h) (v8 : h ≤ 23) (v9 : mi < 0) :
    Calls Tryd.prog 12 #[.agg #[.int .i64 y, .int .i64 m, .int .i64 d, .int .i64 h, .int .i64 mi, .int .i64 s]] w fun e w' => e = .returned (.tuple #[.int .i64 0, .int .i64 12]) ∧ Below w.heap.size w w' := by
  have db := DM.dim_bd y m
  have k1 : decide (y < 1950) = false := by simp; omega
  have k2 : decide (9999 < y) = false := by simp; omega
  have k3 : decide (m < 1) = false := by simp; omega
  have k4 : decide (12 < m) = false := by simp; omega
  have k5 : decide (d < 1) = false := by simp; omega
  have k6 : decide (DM.dim y m < d) = false := by simp; omega
  have k7 : decide (h < 0) = false := by simp; omega
  have k8 : decide (23 < h) = false := by simp; omega
  have k9 : decide (mi < 0) = true := by simp; omega
  obtain ⟨W, hW⟩ : ∃ W, W = w.alloc (.cells #[.int .i64 y, .int .i64 m, .int .i64 d, .int .i64 h, .int .i64 mi, .int .i64 s] 27) := ⟨_, rfl⟩
  have hlt : w.heap.size < W.heap.size := by rw [hW]; simp
  have c0 : ∀ u : Later W, u.v.cell? ⟨w.heap.size, 0, none⟩ = some (.int .i64 y) := Later.cell hlt (by rw [hW]; simp [go_sem])
  have c1 : ∀ u : Later W, u.v.cell? ⟨w.heap.size, 1, none⟩ = some (.int .i64 m) := Later.cell hlt (by rw [hW]; simp [go_sem])
  have c2 : ∀ u : Later W, u.v.cell? ⟨w.heap.size, 2, none⟩ = some (.int .i64 d) := Later.cell hlt (by rw [hW]; simp [go_sem])
  have c3 : ∀ u : Later W, u.v.cell? ⟨w.heap.size, 3, none⟩ = some (.int .i64 h) := Later.cell hlt (by rw [hW]; simp [go_sem])
  have c4 : ∀ u : Later W, u.v.cell? ⟨w.heap.size, 4, none⟩ = some (.int .i64 mi) := Later.cell hlt (by rw [hW]; simp [go_sem])
  have c5 : ∀ u : Later W, u.v.cell? ⟨w.heap.size, 5, none⟩ = some (.int .i64 s) := Later.cell hlt (by rw [hW]; simp [go_sem])
  have hbW : Below w.heap.size w W := by rw [hW]; exact (Below.refl _ _).alloc (Nat.le_refl _) _
  have HL : Hid (Lens W) := Lib.hid (by rw [hW]; exact hL.alloc _)
  clear hL
  go_enter Tryd.func12, Tryd.ntmps12
  go_wp2_with fail
  rw [← hW]
  clear hW
  refine wp_region_later (by kernel_rfl) (by kernel_rfl) ?_
  repeat (first | go_big_quiet_skip | (go_big_quiet_want; go_big_quiet_op; first | go_big_quiet_on | go_big_quiet_call ((go_at_call 25; exact Later.call_same (length_any _ _ _ (by omega) (by omega) (by omega) (by omega) (HL.out.below (Later.b _)))))))
  refine wpQuiet_nil ?_
  intro w1 hu1
  have hb1 := Later.out hu1
  clear hu1
  have hb2 := hbW.trans (hb1.mono (by omega))
  have q0 := c0 ⟨w1, hb1⟩
  have q1 := c1 ⟨w1, hb1⟩
  have q2 := c2 ⟨w1, hb1⟩
  have q3 := c3 ⟨w1, hb1⟩
  have q4 := c4 ⟨w1, hb1⟩
  have q5 := c5 ⟨w1, hb1⟩
  dsimp only [Later.v] at q0 q1 q2 q3 q4 q5
  clear c0 c1 c2 c3 c4 c5
  have HB := Lib.hid hb2
  clear hb1 hb2
  go_wp2_with fail
  go_ret2
  exact ⟨rfl, HB.out⟩

set_option maxRecDepth 100000 in
set_option maxHeartbeats 4000000 in
theorem sec_no_10 (y m d h mi s : Int) (w : World) (hL : Lens w) (v1 : 1950 ≤ y) (v2 : y ≤ 9999) (v3 : 1 ≤ m) (v4 : m ≤ 12) (v5 : 1 ≤ d) (v6 : d ≤ DM.dim y m) (v7 : 0 ≤ h) (v8 : h ≤ 23) (v9 : 0 ≤ mi) (v10 : 59 < mi) :
    Calls Tryd.prog 12 #[.agg #[.int .i64 y, .int .i64 m, .int .i64 d, .int .i64 h, .int .i64 mi, .int .i64 s]] w fun e w' => e = .returned (.tuple #[.int .i64 0, .int .i64 12]) ∧ Below w.heap.size w w' := by
  have db := DM.dim_bd y m
  have k1 : decide (y < 1950) = false := by simp; omega
  have k2 : decide (9999 < y) = false := by simp; omega
  have k3 : decide (m < 1) = false := by simp; omega
  have k4 : decide (12 < m) = false := by simp; omega
  have k5 : decide (d < 1) = false := by simp; omega
  have k6 : decide (DM.dim y m < d) = false := by simp; omega
  have k7 : decide (h < 0) = false := by simp; omega
  have k8 : decide (23 < h) = false := by simp; omega
  have k9 : decide (mi < 0) = false := by simp; omega
  have k10 : decide (59 < mi) = true := by simp; omega
  obtain ⟨W, hW⟩ : ∃ W, W = w.alloc (.cells #[.int .i64 y, .int .i64 m, .int .i64 d, .int .i64 h, .int .i64 mi, .int .i64 s] 27) := ⟨_, rfl⟩
  have hlt : w.heap.size < W.heap.size := by rw [hW]; simp
  have c0 : ∀ u : Later W, u.v.cell? ⟨w.heap.size, 0, none⟩ = some (.int .i64 y) := Later.cell hlt (by rw [hW]; simp [go_sem])
  have c1 : ∀ u : Later W, u.v.cell? ⟨w.heap.size, 1, none⟩ = some (.int .i64 m) := Later.cell hlt (by rw [hW]; simp [go_sem])
  have c2 : ∀ u : Later W, u.v.cell? ⟨w.heap.size, 2, none⟩ = some (.int .i64 d) := Later.cell hlt (by rw [hW]; simp [go_sem])
  have c3 : ∀ u : Later W, u.v.cell? ⟨w.heap.size, 3, none⟩ = some (.int .i64 h) := Later.cell hlt (by rw [hW]; simp [go_sem])
  have c4 : ∀ u : Later W, u.v.cell? ⟨w.heap.size, 4, none⟩ = some (.int .i64 mi) := Later.cell hlt (by rw [hW]; simp [go_sem])
  have c5 : ∀ u : Later W, u.v.cell? ⟨w.heap.size, 5, none⟩ = some (.int .i64 s) := Later.cell hlt (by rw [hW]; simp [go_sem])
  have hbW : Below w.heap.size w W := by rw [hW]; exact (Below.refl _ _).alloc (Nat.le_refl _) _
  have HL : Hid (Lens W) := Lib.hid (by rw [hW]; exact hL.alloc _)
  clear hL
  go_enter Tryd.func12, Tryd.ntmps12
  go_wp2_with fail
  rw [← hW]
  clear hW
  refine wp_region_later (by kernel_rfl) (by kernel_rfl) ?_
  repeat (first | go_big_quiet_skip | (go_big_quiet_want; go_big_quiet_op; first | go_big_quiet_on | go_big_quiet_call ((go_at_call 25; exact Later.call_same (length_any _ _ _ (by omega) (by omega) (by omega) (by omega) (HL.out.below (Later.b _)))))))
  refine wpQuiet_nil ?_
  intro w1 hu1
  have hb1 := Later.out hu1
  clear hu1
  have hb2 := hbW.trans (hb1.mono (by omega))
  have q0 := c0 ⟨w1, hb1⟩
  have q1 := c1 ⟨w1, hb1⟩
  have q2 := c2 ⟨w1, hb1⟩
  have q3 := c3 ⟨w1, hb1⟩
  have q4 := c4 ⟨w1, hb1⟩
  have q5 := c5 ⟨w1, hb1⟩
  dsimp only [Later.v] at q0 q1 q2 q3 q4 q5
  clear c0 c1 c2 c3 c4 c5
  have HB := Lib.hid hb2
  clear hb1 hb2
  go_wp2_with fail
  go_ret2
  exact ⟨rfl, HB.out⟩

set_option maxRecDepth 100000 in
set_option maxHeartbeats 4000000 in
theorem sec_no_11 (y m d h mi s : Int) (w : World) (hL : Lens w) (v1 : 1950 ≤ y) (v2 : y ≤ 9999) (v3 : 1 ≤ m) (v4 : m ≤ 12) (v5 : 1 ≤ d) (v6 : d ≤ DM.dim y m) (v7 : 0 ≤ h) (v8 : h ≤ 23) (v9 : 0 ≤ mi) (v10 : mi ≤ 59) (v11 : s < 0) :
    Calls Tryd.prog 12 #[.agg #[.int .i64 y, .int .i64 m, .int .i64 d, .int .i64 h, .int .i64 mi, .int .i64 s]] w fun e w' => e = .returned (.tuple #[.int .i64 0, .int .i64 12]) ∧ Below w.heap.size w w' := by
  have db := DM.dim_bd y m
  have k1 : decide (y < 1950) = false := by simp; omega
  have k2 : decide (9999 < y) = false := by simp; omega
  have k3 : decide (m < 1) = false := by simp; omega
  have k4 : decide (12 < m) = false := by simp; omega
  have k5 : decide (d < 1) = false := by simp; omega
  have k6 : decide (DM.dim y m < d) = false := by simp; omega
  have k7 : decide (h < 0) = false := by simp; omega
  have k8 : decide (23 < h) = false := by simp; omega
  have k9 : decide (mi < 0) = false := by simp; omega
  have k10 : decide (59 < mi) = false := by simp; omega
  have k11 : decide (s < 0) = true := by simp; omega
  obtain ⟨W, hW⟩ : ∃ W, W = w.alloc (.cells #[.int .i64 y, .int .i64 m, .int .i64 d, .int .i64 h, .int .i64 mi, .int .i64 s] 27) := ⟨_, rfl⟩
  have hlt : w.heap.size < W.heap.size := by rw [hW]; simp
  have c0 : ∀ u : Later W, u.v.cell? ⟨w.heap.size, 0, none⟩ = some (.int .i64 y) := Later.cell hlt (by rw [hW]; simp [go_sem])
  have c1 : ∀ u : Later W, u.v.cell? ⟨w.heap.size, 1, none⟩ = some (.int .i64 m) := Later.cell hlt (by rw [hW]; simp [go_sem])
  have c2 : ∀ u : Later W, u.v.cell? ⟨w.heap.size, 2, none⟩ = some (.int .i64 d) := Later.cell hlt (by rw [hW]; simp [go_sem])
  have c3 : ∀ u : Later W, u.v.cell? ⟨w.heap.size, 3, none⟩ = some (.int .i64 h) := Later.cell hlt (by rw [hW]; simp [go_sem])
  have c4 : ∀ u : Later W, u.v.cell? ⟨w.heap.size, 4, none⟩ = some (.int .i64 mi) := Later.cell hlt (by rw [hW]; simp [go_sem])
  have c5 : ∀ u : Later W, u.v.cell? ⟨w.heap.size, 5, none⟩ = some (.int .i64 s) := Later.cell hlt (by rw [hW]; simp [go_sem])
  have hbW : Below w.heap.size w W := by rw [hW]; exact (Below.refl _ _).alloc (Nat.le_refl _) _
  have HL : Hid (Lens W) := Lib.hid (by rw [hW]; exact hL.alloc _)
  clear hL
  go_enter Tryd.func12, Tryd.ntmps12
  go_wp2_with fail
  rw [← hW]
  clear hW
  refine wp_region_later (by kernel_rfl) (by kernel_rfl) ?_
  repeat (first | go_big_quiet_skip | (go_big_quiet_want; go_big_quiet_op; first | go_big_quiet_on | go_big_quiet_call ((go_at_call 25; exact Later.call_same (length_any _ _ _ (by omega) (by omega) (by omega) (by omega) (HL.out.below (Later.b _)))))))
  refine wpQuiet_nil ?_
  intro w1 hu1
  have hb1 := Later.out hu1
  clear hu1
  have hb2 := hbW.trans (hb1.mono (by omega))
  have q0 := c0 ⟨w1, hb1⟩
  have q1 := c1 ⟨w1, hb1⟩
  have q2 := c2 ⟨w1, hb1⟩
  have q3 := c3 ⟨w1, hb1⟩
  have q4 := c4 ⟨w1, hb1⟩
  have q5 := c5 ⟨w1, hb1⟩
  dsimp only [Later.v] at q0 q1 q2 q3 q4 q5
  clear c0 c1 c2 c3 c4 c5
  have HB := Lib.hid hb2
  clear hb1 hb2
  go_wp2_with fail
  go_ret2
  exact ⟨rfl, HB.out⟩

set_option maxRecDepth 100000 in
set_option maxHeartbeats 4000000 in
theorem sec_no_12 (y m d h mi s : Int) (w : World) (hL : Lens w) (v1 : 1950 ≤ y) (v2 : y ≤ 9999) (v3 : 1 ≤ m) (v4 : m ≤ 12) (v5 : 1 ≤ d) (v6 : d ≤ DM.dim y m) (v7 : 0 ≤ h) (v8 : h ≤ 23) (v9 : 0 ≤ mi) (v10 : mi ≤ 59) (v11 : 0 ≤ s) (v12 : 59 < s) :
    Calls Tryd.prog 12 #[.agg #[.int .i64 y, .int .i64 m, .int .i64 d, .int .i64 h, .int .i64 mi, .int .i64 s]] w fun e w' => e = .returned (.tuple #[.int .i64 0, .int .i64 12]) ∧ Below w.heap.size w w' := by
  have db := DM.dim_bd y m
  have k1 : decide (y < 1950) = false := by simp; omega
  have k2 : decide (9999 < y) = false := by simp; omega
  have k3 : decide (m < 1) = false := by simp; omega
  have k4 : decide (12 < m) = false := by simp; omega
  have k5 : decide (d < 1) = false := by simp; omega
  have k6 : decide (DM.dim y m < d) = false := by simp; omega
  have k7 : decide (h < 0) = false := by simp; omega
  have k8 : decide (23 < h) = false := by simp; omega
  have k9 : decide (mi < 0) = false := by simp; omega
  have k10 : decide (59 < mi) = false := by simp; omega
  have k11 : decide (s < 0) = false := by simp; omega
  have k12 : decide (59 < s) = true := by simp; omega
  obtain ⟨W, hW⟩ : ∃ W, W = w.alloc (.cells #[.int .i64 y, .int .i64 m, .int .i64 d, .int .i64 h, .int .i64 mi, .int .i64 s] 27) := ⟨_, rfl⟩
  have hlt : w.heap.size < W.heap.size := by rw [hW]; simp
  have c0 : ∀ u : Later W, u.v.cell? ⟨w.heap.size, 0, none⟩ = some (.int .i64 y) := Later.cell hlt (by rw [hW]; simp [go_sem])
  have c1 : ∀ u : Later W, u.v.cell? ⟨w.heap.size, 1, none⟩ = some (.int .i64 m) := Later.cell hlt (by rw [hW]; simp [go_sem])
  have c2 : ∀ u : Later W, u.v.cell? ⟨w.heap.size, 2, none⟩ = some (.int .i64 d) := Later.cell hlt (by rw [hW]; simp [go_sem])
  have c3 : ∀ u : Later W, u.v.cell? ⟨w.heap.size, 3, none⟩ = some (.int .i64 h) := Later.cell hlt (by rw [hW]; simp [go_sem])
  have c4 : ∀ u : Later W, u.v.cell? ⟨w.heap.size, 4, none⟩ = some (.int .i64 mi) := Later.cell hlt (by rw [hW]; simp [go_sem])
  have c5 : ∀ u : Later W, u.v.cell? ⟨w.heap.size, 5, none⟩ = some (.int .i64 s) := Later.cell hlt (by rw [hW]; simp [go_sem])
  have hbW : Below w.heap.size w W := by rw [hW]; exact (Below.refl _ _).alloc (Nat.le_refl _) _
  have HL : Hid (Lens W) := Lib.hid (by rw [hW]; exact hL.alloc _)
  clear hL
  go_enter Tryd.func12, Tryd.ntmps12
  go_wp2_with fail
  rw [← hW]
  clear hW
  refine wp_region_later (by kernel_rfl) (by kernel_rfl) ?_
  repeat (first | go_big_quiet_skip | (go_big_quiet_want; go_big_quiet_op; first | go_big_quiet_on | go_big_quiet_call ((go_at_call 25; exact Later.call_same (length_any _ _ _ (by omega) (by omega) (by omega) (by omega) (HL.out.below (Later.b _)))))))
  refine wpQuiet_nil ?_
  intro w1 hu1
  have hb1 := Later.out hu1
  clear hu1
  have hb2 := hbW.trans (hb1.mono (by omega))
  have q0 := c0 ⟨w1, hb1⟩
  have q1 := c1 ⟨w1, hb1⟩
  have q2 := c2 ⟨w1, hb1⟩
  have q3 := c3 ⟨w1, hb1⟩
  have q4 := c4 ⟨w1, hb1⟩
  have q5 := c5 ⟨w1, hb1⟩
  dsimp only [Later.v] at q0 q1 q2 q3 q4 q5
  clear c0 c1 c2 c3 c4 c5
  have HB := Lib.hid hb2
  clear hb1 hb2
  go_wp2_with fail
  go_ret2
  exact ⟨rfl, HB.out⟩

theorem sec_no (x : DM.D6) (w : World) (hL : Lens w) (hv : ¬ DM.Valid x) :
    Calls Tryd.prog 12 #[dval x] w fun e w' => e = .returned (.tuple #[.int .i64 0, .int .i64 12]) ∧ Below w.heap.size w w' := by
  obtain ⟨y, m, d, h, mi, s⟩ := x
  unfold dval
  simp only [DM.Valid] at hv
  by_cases v1 : 1950 ≤ y
  rotate_left
  · exact sec_no_1 y m d h mi s w  (by omega)
  by_cases v2 : y ≤ 9999
  rotate_left
  · exact sec_no_2 y m d h mi s w v1 (by omega)
  by_cases v3 : 1 ≤ m
  rotate_left
  · exact sec_no_3 y m d h mi s w v1 v2 (by omega)
  by_cases v4 : m ≤ 12
  rotate_left
  · exact sec_no_4 y m d h mi s w v1 v2 v3 (by omega)
  by_cases v5 : 1 ≤ d
  rotate_left
  · exact sec_no_5 y m d h mi s w v1 v2 v3 v4 (by omega)
  by_cases v6 : d ≤ DM.dim y m
  rotate_left
  · exact sec_no_6 y m d h mi s w hL v1 v2 v3 v4 v5 (by omega)
  by_cases v7 : 0 ≤ h
  rotate_left
  · exact sec_no_7 y m d h mi s w hL v1 v2 v3 v4 v5 v6 (by omega)
  by_cases v8 : h ≤ 23
  rotate_left
  · exact sec_no_8 y m d h mi s w hL v1 v2 v3 v4 v5 v6 v7 (by omega)
  by_cases v9 : 0 ≤ mi
  rotate_left
  · exact sec_no_9 y m d h mi s w hL v1 v2 v3 v4 v5 v6 v7 v8 (by omega)
  by_cases v10 : mi ≤ 59
  rotate_left
  · exact sec_no_10 y m d h mi s w hL v1 v2 v3 v4 v5 v6 v7 v8 v9 (by omega)
  by_cases v11 : 0 ≤ s
  rotate_left
  · exact sec_no_11 y m d h mi s w hL v1 v2 v3 v4 v5 v6 v7 v8 v9 v10 (by omega)
  by_cases v12 : s ≤ 59
  rotate_left
  · exact sec_no_12 y m d h mi s w hL v1 v2 v3 v4 v5 v6 v7 v8 v9 v10 v11 (by omega)
  exact absurd ⟨v1, v2, v3, v4, v5, v6, v7, v8, v9, v10, v11, v12⟩ hv

end Go.Proofs.YtjfbmjegdjpfbaaDoor
