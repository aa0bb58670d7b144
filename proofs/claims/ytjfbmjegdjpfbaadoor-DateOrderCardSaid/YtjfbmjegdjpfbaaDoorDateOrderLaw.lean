/- The law DateOrder returns true. -/
import Derived.Test.YtjfbmjegdjpfbaaDoorDateOrd
import Derived.Test.YtjfbmjegdjpfbaaDoorDateAwake
import Derived.WalkLawsBesides
namespace Go.Proofs.YtjfbmjegdjpfbaaDoor
open Go Go.RowKit

theorem format_txt (t : Int) (w : World) (h0 : 0 ≤ t) (h1 : t ≤ 254033452799) (hL : Lens w) :
    Calls Tryd.prog 18 #[.int .i64 t] w fun e w' => e = .returned (.tuple #[.string (txt t), .int .i64 0]) ∧ Below w.heap.size w w' := format_yes t w h0 h1 hL

theorem txt_ne (t : Int) : (txt t).toList.isEmpty = false := by
  rw [txt, str_list]
  have := pre_len (DM.civ t) 5
  cases h : fmtL (DM.civ t) with
  | nil => rw [fmtL] at h; rw [h] at this; cases this
  | cons a l => rfl

set_option maxHeartbeats 8000000 in
theorem dateOrder_walk (t u k j d : Int) (w : World) (k0 : 0 ≤ k) (k1 : k ≤ 65535) (j0 : 0 ≤ j) (j1 : j ≤ 65535) (d0 : -128 ≤ d) (d1 : d ≤ 127) (hL : Lens w) :
    Calls Tryd.prog 6 #[.int .i64 t, .int .i64 u, .int .u16 k, .int .u16 j, .int .i8 d] w fun e w' => e = .returned (.bool true) ∧ Below w.heap.size w w' := by
  have HL := Lib.hid hL
  clear hL
  go_enter Tryd.func6, Tryd.ntmps6
  go_wp2_with fail
  refine (near_any t k d _ k0 k1 d0 d1).mono ?_
  rintro e w1 ⟨x, rfl, hb1⟩
  have HB1 := Lib.hid hb1
  clear hb1
  go_wp2_with fail
  refine (near_any u j d _ j0 j1 d0 d1).mono ?_
  rintro e w2 ⟨y, rfl, hb2⟩
  have HB2 := Lib.hid (HB1.out.trans (hb2.mono HB1.out.size))
  clear hb2 HB1
  have HL2 := Lib.hid (HL.out.below HB2.out)
  by_cases hx : 0 ≤ x ∧ x ≤ 254033452799
  · obtain ⟨x0, x1⟩ := hx
    have ex := txt_ne x
    by_cases hy : 0 ≤ y ∧ y ≤ 254033452799
    · obtain ⟨y0, y1⟩ := hy
      have el := txt_less x0 x1 y0 y1
      have ee := txt_eq x0 x1 y0 y1
      have hf1 := Lib.hid (fun w hL => format_txt x w x0 x1 hL)
      have hf2 := Lib.hid (fun w hL => format_txt y w y0 y1 hL)
      generalize txt x = A at *
      generalize txt y = B at *
      have EL := Lib.hid el
      have EE := Lib.hid ee
      clear el ee ex x0 x1 y0 y1
      go_wp2_with fail
      refine (hf1.out _ HL2.out).mono ?_
      rintro e w3 ⟨rfl, hb3⟩
      have HB3 := Lib.hid (HB2.out.trans (hb3.mono HB2.out.size))
      clear hb3
      go_wp2_with fail
      refine (hf2.out _ (HL.out.below HB3.out)).mono ?_
      rintro e w4 ⟨rfl, hb4⟩
      have HB4 := Lib.hid (HB3.out.trans (hb4.mono HB3.out.size))
      clear hb4
      have el := EL.out
      have ee := EE.out
      rcases Int.lt_trichotomy x y with h | h | h
      · rw [show decide (x < y) = true by simp; omega] at el
        rw [show decide (x = y) = false by simp; omega] at ee
        have d3 : decide (x < y) = true := by simp; omega
        have d4 : (x == y) = false := by simp; omega
        clear EL EE
        go_wp2_with fail
        refine (awake_any _ (HL.out.below HB4.out)).mono ?_
        rintro e w5 ⟨rfl, hb5⟩
        have HB5 := Lib.hid (HB4.out.trans (hb5.mono HB4.out.size))
        clear hb5
        go_wp2_with fail
        go_ret
        exact ⟨rfl, HB5.out⟩
      · rw [show decide (x < y) = false by simp; omega] at el
        rw [show decide (x = y) = true by simp; omega] at ee
        have d3 : decide (x < y) = false := by simp; omega
        have d4 : (x == y) = true := by simp; omega
        clear EL EE h
        go_wp2_with fail
        refine (awake_any _ (HL.out.below HB4.out)).mono ?_
        rintro e w5 ⟨rfl, hb5⟩
        have HB5 := Lib.hid (HB4.out.trans (hb5.mono HB4.out.size))
        clear hb5
        go_wp2_with fail
        go_ret
        exact ⟨rfl, HB5.out⟩
      · rw [show decide (x < y) = false by simp; omega] at el
        rw [show decide (x = y) = false by simp; omega] at ee
        have d3 : decide (x < y) = false := by simp; omega
        have d4 : (x == y) = false := by simp; omega
        clear EL EE
        go_wp2_with fail
        refine (awake_any _ (HL.out.below HB4.out)).mono ?_
        rintro e w5 ⟨rfl, hb5⟩
        have HB5 := Lib.hid (HB4.out.trans (hb5.mono HB4.out.size))
        clear hb5
        go_wp2_with fail
        go_ret
        exact ⟨rfl, HB5.out⟩
    · have hy2 : y < 0 ∨ 254033452799 < y := by omega
      have hf1 := Lib.hid (fun w hL => format_txt x w x0 x1 hL)
      have HY := Lib.hid hy2
      generalize txt x = A at *
      clear x0 x1 hy hy2
      go_wp2_with fail
      refine (hf1.out _ HL2.out).mono ?_
      rintro e w3 ⟨rfl, hb3⟩
      have HB3 := Lib.hid (HB2.out.trans (hb3.mono HB2.out.size))
      clear hb3
      go_wp2_with fail
      refine (format_no y _ HY.out).mono ?_
      rintro e w4 ⟨rfl, hb4⟩
      have HB4 := Lib.hid (HB3.out.trans (hb4.mono HB3.out.size))
      clear hb4
      go_wp2_with fail
      refine (awake_any _ (HL.out.below HB4.out)).mono ?_
      rintro e w5 ⟨rfl, hb5⟩
      have HB5 := Lib.hid (HB4.out.trans (hb5.mono HB4.out.size))
      clear hb5
      go_wp2_with fail
      go_ret
      exact ⟨rfl, HB5.out⟩
  · have hx2 : x < 0 ∨ 254033452799 < x := by omega
    have HX := Lib.hid hx2
    clear hx hx2
    go_wp2_with fail
    refine (format_no x _ HX.out).mono ?_
    rintro e w3 ⟨rfl, hb3⟩
    have HB3 := Lib.hid (HB2.out.trans (hb3.mono HB2.out.size))
    clear hb3
    by_cases hy : 0 ≤ y ∧ y ≤ 254033452799
    · obtain ⟨y0, y1⟩ := hy
      have hf2 := Lib.hid (fun w hL => format_txt y w y0 y1 hL)
      generalize txt y = B at *
      clear y0 y1
      go_wp2_with fail
      refine (hf2.out _ (HL.out.below HB3.out)).mono ?_
      rintro e w4 ⟨rfl, hb4⟩
      have HB4 := Lib.hid (HB3.out.trans (hb4.mono HB3.out.size))
      clear hb4
      go_wp2_with fail
      refine (awake_any _ (HL.out.below HB4.out)).mono ?_
      rintro e w5 ⟨rfl, hb5⟩
      have HB5 := Lib.hid (HB4.out.trans (hb5.mono HB4.out.size))
      clear hb5
      go_wp2_with fail
      go_ret
      exact ⟨rfl, HB5.out⟩
    · have HY : Hid (y < 0 ∨ 254033452799 < y) := Lib.hid (by omega)
      clear hy
      go_wp2_with fail
      refine (format_no y _ HY.out).mono ?_
      rintro e w4 ⟨rfl, hb4⟩
      have HB4 := Lib.hid (HB3.out.trans (hb4.mono HB3.out.size))
      clear hb4
      go_wp2_with fail
      refine (awake_any _ (HL.out.below HB4.out)).mono ?_
      rintro e w5 ⟨rfl, hb5⟩
      have HB5 := Lib.hid (HB4.out.trans (hb5.mono HB4.out.size))
      clear hb5
      go_wp2_with fail
      go_ret
      exact ⟨rfl, HB5.out⟩
end Go.Proofs.YtjfbmjegdjpfbaaDoor
