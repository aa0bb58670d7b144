/- The law DateCivil returns true. -/
import Derived.Test.YtjfbmjegdjpfbaaDoorDateAwake
namespace Go.Proofs.YtjfbmjegdjpfbaaDoor
open Go Go.RowKit

theorem sec_tup (x : DM.D6) (w : World) (hL : Lens w) (hv : DM.Valid x) : Calls Tryd.prog 12 #[.agg #[.int .i64 x.y, .int .i64 x.m, .int .i64 x.d, .int .i64 x.h, .int .i64 x.mi, .int .i64 x.s]] w fun e w' => e = .returned (.tuple #[.int .i64 (DM.sec x), .int .i64 0]) ∧ Below w.heap.size w w' := sec_yes x w hL hv
theorem refCivil_tup (t : Int) (w : World) (h0 : 0 ≤ t) (h1 : t ≤ 254033452799) :
    Calls Tryd.prog 11 #[.int .i64 t] w fun e w' => e = .returned (.tuple #[.agg #[.int .i64 (DM.civ t).y, .int .i64 (DM.civ t).m, .int .i64 (DM.civ t).d, .int .i64 (DM.civ t).h, .int .i64 (DM.civ t).mi, .int .i64 (DM.civ t).s], .int .i64 0]) ∧
      DM.Valid (DM.civ t) ∧ DM.sec (DM.civ t) = t ∧ Below w.heap.size w w' := refCivil_yes t w h0 h1
theorem civil_no_tup (t : Int) (w : World) (h : t < 0 ∨ 254033452799 < t) :
    Calls Tryd.prog 10 #[.int .i64 t] w fun e w' => e = .returned (.tuple #[.agg #[.int .i64 0, .int .i64 0, .int .i64 0, .int .i64 0, .int .i64 0, .int .i64 0], .int .i64 1]) ∧ Below w.heap.size w w' := civil_no t w h
theorem refCivil_no_tup (t : Int) (w : World) (h : t < 0 ∨ 254033452799 < t) :
    Calls Tryd.prog 11 #[.int .i64 t] w fun e w' => e = .returned (.tuple #[.agg #[.int .i64 0, .int .i64 0, .int .i64 0, .int .i64 0, .int .i64 0, .int .i64 0], .int .i64 1]) ∧ Below w.heap.size w w' := refCivil_no t w h

set_option maxHeartbeats 8000000 in
theorem dateCivil_walk (t k d : Int) (w : World) (k0 : 0 ≤ k) (k1 : k ≤ 65535) (d0 : -128 ≤ d) (d1 : d ≤ 127) (hL : Lens w) :
    Calls Tryd.prog 3 #[.int .i64 t, .int .u16 k, .int .i8 d] w fun e w' => e = .returned (.bool true) ∧ Below w.heap.size w w' := by
  have HL := Lib.hid hL
  clear hL
  go_enter Tryd.func3, Tryd.ntmps3
  go_wp2_with fail
  refine (near_any t k d _ k0 k1 d0 d1).mono ?_
  rintro e w1 ⟨y, rfl, hb1⟩
  have HB1 := Lib.hid hb1
  clear hb1
  obtain ⟨W, hW⟩ : ∃ W, W = w1.alloc (.cells #[.int .i64 t, .int .i64 y, .int .i64 (254033452799 + d)] 3) := ⟨_, rfl⟩
  have hcl : ∀ i, i < 3 → ∃ x : Int, W.cell? ⟨w1.heap.size, i, none⟩ = some (.int .i64 x) := by
    intro i hi
    have : i = 0 ∨ i = 1 ∨ i = 2 := by omega
    rcases this with rfl | rfl | rfl
    · exact ⟨t, by rw [hW]; simp [go_sem]⟩
    · exact ⟨y, by rw [hW]; simp [go_sem]⟩
    · exact ⟨254033452799 + d, by rw [hW]; simp [go_sem]⟩
  have HCL := Lib.hid hcl
  have HBW : Hid (Below w.heap.size w W) := Lib.hid (by rw [hW]; exact HB1.out.alloc HB1.out.size _)
  have hlt1 : w1.heap.size < W.heap.size := by rw [hW]; simp
  clear hcl
  go_wp2_with fail
  rw [← hW]
  clear hW
  go_loopw [25] (fun j wr => ∃ i : Nat, i ≤ 3 ∧ j = .int .i64 i ∧ Hid (Below W.heap.size W wr)) (fun j _ => 3 - (intOf j).toNat)
  case atStart => exact ⟨0, by omega, rfl, Lib.hid (Below.refl _ _)⟩
  case round =>
    obtain ⟨i, hi3, rfl, hb⟩ := hrel
    obtain ⟨W1, rfl⟩ : ∃ W : World, W = wr := ⟨_, rfl⟩
    by_cases hlt : i < 3
    · obtain ⟨x, hx0⟩ := HCL.out i hlt
      have hx := (hb.out.cell (p := ⟨w1.heap.size, i, none⟩) hlt1).trans hx0
      clear hx0
      have HLW : Hid (Lens W1) := Lib.hid ((HL.out.below HBW.out).below hb.out)
      by_cases hr : 0 ≤ x ∧ x ≤ 254033452799
      · obtain ⟨r0, r1⟩ := hr
        go_wp2_with fail
        refine (civil_tup x _ r0 r1 HLW.out).mono ?_
        rintro e w3 ⟨rfl, hv, hs, hb3⟩
        have HV := Lib.hid hv
        have HS := Lib.hid hs
        have HB3 := Lib.hid (hb.out.trans (hb3.mono hb.out.size))
        clear hv hs hb3
        go_wp2_with fail
        refine (refCivil_tup x _ r0 r1).mono ?_
        rintro e w4 ⟨rfl, _, _, hb4⟩
        rw [World.size_alloc] at hb4
        obtain ⟨c0, c1, c2, c3, c4, c5⟩ := six_later' hb4
        have hb5 := (Below.refl W.heap.size w3).alloc HB3.out.size (.cells #[.int .i64 (DM.civ x).y, .int .i64 (DM.civ x).m, .int .i64 (DM.civ x).d, .int .i64 (DM.civ x).h, .int .i64 (DM.civ x).mi, .int .i64 (DM.civ x).s] 27)
        have hs3 := HB3.out.size
        have HB4 := Lib.hid ((HB3.out.trans hb5).trans (hb4.mono (by omega)))
        have hlt4 : w3.heap.size < w4.heap.size := by have := hb4.size; simp at this; omega
        clear hb4 hb5
        go_wp2_with fail
        have HL5 : Hid (Lens (w4.alloc (.cells #[.int .i64 (DM.civ x).y, .int .i64 (DM.civ x).m, .int .i64 (DM.civ x).d, .int .i64 (DM.civ x).h, .int .i64 (DM.civ x).mi, .int .i64 (DM.civ x).s] 27))) := Lib.hid (((HL.out.below HBW.out).below HB4.out).alloc _)
        refine (sec_tup (DM.civ x) _ HL5.out HV.out).mono ?_
        rintro e w6 ⟨rfl, hb6⟩
        rw [HS.out]
        have HB6 := Lib.hid ((HB4.out.alloc HB4.out.size _).trans (hb6.mono (by have := HB4.out.size; simp; omega)))
        clear hb6
        go_wp2_with fail
        go_roundw
        case rel => exact ⟨i + 1, by omega, by go_num, HB6⟩
        case measure => simp [intOf]; omega
      · have hr2 : x < 0 ∨ 254033452799 < x := by omega
        go_wp2_with fail
        refine (civil_no_tup x _ hr2).mono ?_
        rintro e w3 ⟨rfl, hb3⟩
        have HB3 := Lib.hid (hb.out.trans (hb3.mono hb.out.size))
        clear hb3
        go_wp2_with fail
        refine (refCivil_no_tup x _ hr2).mono ?_
        rintro e w4 ⟨rfl, hb4⟩
        rw [World.size_alloc] at hb4
        obtain ⟨c0, c1, c2, c3, c4, c5⟩ := six_later' hb4
        have hb5 := (Below.refl W.heap.size w3).alloc HB3.out.size (.cells #[.int .i64 0, .int .i64 0, .int .i64 0, .int .i64 0, .int .i64 0, .int .i64 0] 27)
        have hs3 := HB3.out.size
        have HB4 := Lib.hid ((HB3.out.trans hb5).trans (hb4.mono (by omega)))
        have hlt4 : w3.heap.size < w4.heap.size := by have := hb4.size; simp at this; omega
        clear hb4 hb5 hr2 hr
        go_wp2_with fail
        go_roundw
        case rel => exact ⟨i + 1, by omega, by go_num, Lib.hid (HB4.out.alloc HB4.out.size _)⟩
        case measure => simp [intOf]; omega
    · obtain rfl : i = 3 := by omega
      go_wp2_with fail
      refine (awake_any _ ((HL.out.below HBW.out).below hb.out)).mono ?_
      rintro e w7 ⟨rfl, hb7⟩
      have HB7 := Lib.hid ((HBW.out.trans (hb.out.mono HBW.out.size)).trans (hb7.mono (by have := HBW.out.size; have := hb.out.size; omega)))
      clear hb7
      go_wp2_with fail
      go_ret
      exact ⟨rfl, HB7.out⟩
end Go.Proofs.YtjfbmjegdjpfbaaDoor
