/- The law DateSeconds returns true. -/
import Derived.Test.YtjfbmjegdjpfbaaDoorDateCivilLaw
namespace Go.Proofs.YtjfbmjegdjpfbaaDoor
open Go Go.RowKit

theorem sec_no_tup (x : DM.D6) (w : World) (hL : Lens w) (hv : ¬ DM.Valid x) : Calls Tryd.prog 12 #[.agg #[.int .i64 x.y, .int .i64 x.m, .int .i64 x.d, .int .i64 x.h, .int .i64 x.mi, .int .i64 x.s]] w fun e w' => e = .returned (.tuple #[.int .i64 0, .int .i64 12]) ∧ Below w.heap.size w w' := sec_no x w hL hv
theorem refSec_yes_tup (x : DM.D6) (w : World) (hv : DM.Valid x) : Calls Tryd.prog 14 #[.agg #[.int .i64 x.y, .int .i64 x.m, .int .i64 x.d, .int .i64 x.h, .int .i64 x.mi, .int .i64 x.s]] w fun e w' => e = .returned (.tuple #[.int .i64 (DM.sec x), .int .i64 0]) ∧ Below w.heap.size w w' := refSec_yes x w hv
theorem refSec_no_tup (x : DM.D6) (w : World) (hv : ¬ DM.Valid x) : Calls Tryd.prog 14 #[.agg #[.int .i64 x.y, .int .i64 x.m, .int .i64 x.d, .int .i64 x.h, .int .i64 x.mi, .int .i64 x.s]] w fun e w' => e = .returned (.tuple #[.int .i64 0, .int .i64 12]) ∧ Below w.heap.size w w' := refSec_no x w hv
theorem civil_sec_tup (x : DM.D6) (w : World) (hL : Lens w) (hv : DM.Valid x) : Calls Tryd.prog 10 #[.int .i64 (DM.sec x)] w fun e w' => e = .returned (.tuple #[.agg #[.int .i64 x.y, .int .i64 x.m, .int .i64 x.d, .int .i64 x.h, .int .i64 x.mi, .int .i64 x.s], .int .i64 0]) ∧ Below w.heap.size w w' :=
  (civil_yes (DM.sec x) w (DM.sec_bd hv).1 (DM.sec_bd hv).2 hL).mono fun e w' h => by
    have h1 := h.1
    rw [DM.civ_eq hv rfl] at h1
    exact ⟨h1, h.2.2.2⟩

/-- A date lies at offset o of block g. -/
def DateAt (w : World) (g o : Nat) (x : DM.D6) : Prop :=
  w.cell? ⟨g, o, none⟩ = some (.int .i64 x.y) ∧ w.cell? ⟨g, o + 1, none⟩ = some (.int .i64 x.m) ∧ w.cell? ⟨g, o + 2, none⟩ = some (.int .i64 x.d) ∧ w.cell? ⟨g, o + 3, none⟩ = some (.int .i64 x.h) ∧ w.cell? ⟨g, o + 4, none⟩ = some (.int .i64 x.mi) ∧ w.cell? ⟨g, o + 5, none⟩ = some (.int .i64 x.s)
theorem DateAt.below {w w' : World} {g o : Nat} {x : DM.D6} (h : DateAt w g o x) (hg : g < w.heap.size) (hb : Below w.heap.size w w') : DateAt w' g o x := by
  have k : ∀ i, w'.cell? ⟨g, i, none⟩ = w.cell? ⟨g, i, none⟩ := fun i => hb.cell (p := ⟨g, i, none⟩) hg
  unfold DateAt at *
  rw [k, k, k, k, k, k]
  exact h

set_option maxRecDepth 100000 in
set_option maxHeartbeats 8000000 in
theorem dateSeconds_walk (ry rm rd rh ri rs y m d h n s : Int) (w : World) (y0 : 0 ≤ y) (y1 : y ≤ 65535) (m0 : 0 ≤ m) (m1 : m ≤ 255) (d0 : 0 ≤ d) (d1 : d ≤ 255) (h0 : 0 ≤ h) (h1 : h ≤ 255) (n0 : 0 ≤ n) (n1 : n ≤ 255) (s0 : 0 ≤ s) (s1 : s ≤ 255) (hL : Lens w) :
    Calls Tryd.prog 4 #[.agg #[.int .i64 ry, .int .i64 rm, .int .i64 rd, .int .i64 rh, .int .i64 ri, .int .i64 rs], .int .u16 y, .int .u8 m, .int .u8 d, .int .u8 h, .int .u8 n, .int .u8 s] w fun e w' => e = .returned (.bool true) ∧ Below w.heap.size w w' := by
  have HL := Lib.hid hL
  clear hL
  obtain ⟨W, hW⟩ : ∃ W, W = (w.alloc (.cells #[.int .i64 ry, .int .i64 rm, .int .i64 rd, .int .i64 rh, .int .i64 ri, .int .i64 rs] 27)).alloc (.cells #[.int .i64 ry, .int .i64 rm, .int .i64 rd, .int .i64 rh, .int .i64 ri, .int .i64 rs, .int .i64 (1948 + y % 8055), .int .i64 (m % 14), .int .i64 (26 + d % 8), .int .i64 (h % 25), .int .i64 (n % 61), .int .i64 (s % 61), .int .i64 (1900 + y % 500), .int .i64 2, .int .i64 (28 + d % 3), .int .i64 0, .int .i64 0, .int .i64 0] 27) := ⟨_, rfl⟩
  have hcl : ∀ i, i < 3 → ∃ x : DM.D6, DateAt W (w.heap.size + 1) (i * 6) x := by
    intro i hi
    have : i = 0 ∨ i = 1 ∨ i = 2 := by omega
    rcases this with rfl | rfl | rfl
    · exact ⟨⟨ry, rm, rd, rh, ri, rs⟩, by rw [hW]; simp [DateAt, go_sem]⟩
    · exact ⟨⟨1948 + y % 8055, m % 14, 26 + d % 8, h % 25, n % 61, s % 61⟩, by rw [hW]; simp [DateAt, go_sem]⟩
    · exact ⟨⟨1900 + y % 500, 2, 28 + d % 3, 0, 0, 0⟩, by rw [hW]; simp [DateAt, go_sem]⟩
  have HCL := Lib.hid hcl
  have HBW : Hid (Below w.heap.size w W) := Lib.hid (by rw [hW]; exact ((Below.refl _ _).alloc (Nat.le_refl _) _).alloc (by simp) _)
  have hlt1 : w.heap.size + 1 < W.heap.size := by rw [hW]; simp
  clear hcl
  go_enter Tryd.func4, Tryd.ntmps4
  go_wp2_with fail
  rw [← hW]
  clear hW
  go_loopw [56] (fun j wr => ∃ i : Nat, i ≤ 3 ∧ j = .int .i64 i ∧ Hid (Below W.heap.size W wr)) (fun j _ => 3 - (intOf j).toNat)
  case atStart => exact ⟨0, by omega, rfl, Lib.hid (Below.refl _ _)⟩
  case round =>
    obtain ⟨i, hi3, rfl, hb⟩ := hrel
    obtain ⟨W1, rfl⟩ : ∃ W : World, W = wr := ⟨_, rfl⟩
    by_cases hlt : i < 3
    · obtain ⟨x, hx0⟩ := HCL.out i hlt
      obtain ⟨c0, c1, c2, c3, c4, c5⟩ := hx0.below hlt1 hb.out
      clear hx0
      have HLW : Hid (Lens W1) := Lib.hid ((HL.out.below HBW.out).below hb.out)
      have hs1 := hb.out.size
      by_cases hv : DM.Valid x
      · have HV := Lib.hid hv
        clear hv
        have hb1 := (Below.refl W.heap.size W1).alloc hs1 (.cells #[.int .i64 x.y, .int .i64 x.m, .int .i64 x.d, .int .i64 x.h, .int .i64 x.mi, .int .i64 x.s] 27)
        have HBX := Lib.hid (hb.out.trans hb1)
        have HL1 : Hid (Lens (W1.alloc (.cells #[.int .i64 x.y, .int .i64 x.m, .int .i64 x.d, .int .i64 x.h, .int .i64 x.mi, .int .i64 x.s] 27))) := Lib.hid (HLW.out.alloc _)
        clear hb1
        go_wp2_with fail
        refine (sec_tup x _ HL1.out HV.out).mono ?_
        rintro e w3 ⟨rfl, hb3⟩
        have HL3 := Lib.hid (HL1.out.below hb3)
        rw [World.size_alloc] at hb3
        have HB3 := Lib.hid hb3
        obtain ⟨p0, p1, p2, p3, p4, p5⟩ := six_later' hb3
        have hs3 := hb3.size
        rw [World.size_alloc] at hs3
        clear hb3
        go_wp2_with fail
        refine (refSec_yes_tup x _ HV.out).mono ?_
        rintro e w4 ⟨rfl, hb4⟩
        have HL4 := Lib.hid (HL3.out.below hb4)
        have HB4 := Lib.hid (HB3.out.trans (hb4.mono hs3))
        clear hb4 p0 p1 p2 p3 p4 p5
        go_wp2_with fail
        refine (civil_sec_tup x _ HL4.out HV.out).mono ?_
        rintro e w5 ⟨rfl, hb5⟩
        have hb6 := HB4.out.trans (hb5.mono (by have := HB4.out.size; rw [World.size_alloc] at this; exact this))
        obtain ⟨p0, p1, p2, p3, p4, p5⟩ := six_later' hb6
        have hs6 : W1.heap.size < w5.heap.size := by have := hb6.size; rw [World.size_alloc] at this; omega
        have HB6 := Lib.hid (HBX.out.trans (hb6.mono (by omega)))
        clear hb5 hb6
        go_wp2_with fail
        go_roundw
        case rel => exact ⟨i + 1, by omega, by go_num, Lib.hid (HB6.out.alloc HB6.out.size _)⟩
        case measure => simp [intOf]; omega
      · have HV := Lib.hid hv
        clear hv
        have hb1 := (Below.refl W.heap.size W1).alloc hs1 (.cells #[.int .i64 x.y, .int .i64 x.m, .int .i64 x.d, .int .i64 x.h, .int .i64 x.mi, .int .i64 x.s] 27)
        have HBX := Lib.hid (hb.out.trans hb1)
        have HL1 : Hid (Lens (W1.alloc (.cells #[.int .i64 x.y, .int .i64 x.m, .int .i64 x.d, .int .i64 x.h, .int .i64 x.mi, .int .i64 x.s] 27))) := Lib.hid (HLW.out.alloc _)
        clear hb1
        go_wp2_with fail
        refine (sec_no_tup x _ HL1.out HV.out).mono ?_
        rintro e w3 ⟨rfl, hb3⟩
        rw [World.size_alloc] at hb3
        have HB3 := Lib.hid hb3
        obtain ⟨p0, p1, p2, p3, p4, p5⟩ := six_later' hb3
        have hs3 := hb3.size
        rw [World.size_alloc] at hs3
        clear hb3
        go_wp2_with fail
        refine (refSec_no_tup x _ HV.out).mono ?_
        rintro e w4 ⟨rfl, hb4⟩
        have HB4 := Lib.hid (HB3.out.trans (hb4.mono hs3))
        have HB6 := Lib.hid (HBX.out.trans (HB4.out.mono (by omega)))
        clear hb4 p0 p1 p2 p3 p4 p5
        go_wp2_with fail
        go_roundw
        case rel => exact ⟨i + 1, by omega, by go_num, HB6⟩
        case measure => simp [intOf]; omega
    · obtain rfl : i = 3 := by omega
      go_wp2_with fail
      refine (awake_any _ ((HL.out.below HBW.out).below hb.out)).mono ?_
      rintro e w7 ⟨rfl, hb7⟩
      have HB7 := Lib.hid ((HBW.out.trans (hb.out.mono HBW.out.size)).trans (hb7.mono (by have := HBW.out.size; have := hb.out.size; omega)))
      clear hb7
      go_wp2_with fail
      go_ret
      exact ⟨rfl, HB7.out⟩
end Go.Proofs.YtjfbmjegdjpfbaaDoor
