/- The law DateEncode returns true. -/
import Derived.Test.YtjfbmjegdjpfbaaDoorDateEnc
import Derived.Test.YtjfbmjegdjpfbaaDoorDateEncLaw
import Derived.Test.YtjfbmjegdjpfbaaDoorDateAwake
import Derived.WalkLawsBesides
namespace Go.Proofs.YtjfbmjegdjpfbaaDoor
open Go Go.RowKit

theorem decode_at (x : Int) (tag : Int) (s : ByteArray) (w : World) (hL : Lens w) (h : decF tag s.data.toList = (x, 0)) :
    Calls Tryd.prog 16 #[.int .i64 tag, .string s] w fun e w' => e = .returned (.tuple #[.int .i64 x, .int .i64 0]) ∧ Below w.heap.size w w' := by
  have := decode_any tag s w hL
  rw [h] at this
  exact this
set_option maxRecDepth 100000 in
set_option maxHeartbeats 8000000 in
theorem dateEncode_walk (t k d : Int) (w : World) (k0 : 0 ≤ k) (k1 : k ≤ 65535) (d0 : -128 ≤ d) (d1 : d ≤ 127) (hL : Lens w) :
    Calls Tryd.prog 8 #[.int .i64 t, .int .u16 k, .int .i8 d] w fun e w' => e = .returned (.bool true) ∧ Below w.heap.size w w' := by
  have HL := Lib.hid hL
  clear hL
  have dw : IntKind.i64.wrap (3155760000 + d) = 3155760000 + d := by rw [IntKind.wrap_i64]; omega
  go_enter Tryd.func8, Tryd.ntmps8
  go_wp2_with fail
  refine (near_any t k d _ k0 k1 d0 d1).mono ?_
  rintro e w1 ⟨x, rfl, hb1⟩
  have HB1 := Lib.hid hb1
  clear hb1
  obtain ⟨W, hW⟩ : ∃ W, W = w1.alloc (.cells #[.int .i64 t, .int .i64 x, .int .i64 (3155760000 + d)] 3) := ⟨_, rfl⟩
  have hcl : ∀ i, i < 3 → ∃ x : Int, W.cell? ⟨w1.heap.size, i, none⟩ = some (.int .i64 x) := by
    intro i hi
    have : i = 0 ∨ i = 1 ∨ i = 2 := by omega
    rcases this with rfl | rfl | rfl
    · exact ⟨t, by rw [hW]; simp [go_sem]⟩
    · exact ⟨x, by rw [hW]; simp [go_sem]⟩
    · exact ⟨3155760000 + d, by rw [hW]; simp [go_sem]⟩
  have HCL := Lib.hid hcl
  have HBW : Hid (Below w.heap.size w W) := Lib.hid (by rw [hW]; exact HB1.out.alloc HB1.out.size _)
  have hlt1 : w1.heap.size < W.heap.size := by rw [hW]; simp
  clear hcl
  go_wp2_with fail
  rw [← hW]
  clear hW
  go_loopw [25] (fun j wr => ∃ i : Nat, i ≤ 3 ∧ j = .int .i64 i ∧ Hid (Below W.heap.size W wr)) (fun j _ => 3 - (intOf j).toNat)
  case atStart => exact ⟨0, by omega, rfl, Lib.hid (Below.refl _ _)⟩
  case round =>
    obtain ⟨i, hi3, rfl, hb⟩ := hrel
    obtain ⟨W1, rfl⟩ : ∃ W : World, W = wr := ⟨_, rfl⟩
    by_cases hlt : i < 3
    · obtain ⟨z, hz0⟩ := HCL.out i hlt
      have hz := (hb.out.cell (p := ⟨w1.heap.size, i, none⟩) hlt1).trans hz0
      clear hz0
      have HLW : Hid (Lens W1) := Lib.hid ((HL.out.below HBW.out).below hb.out)
      by_cases hr : 0 ≤ z ∧ z ≤ 254033452799
      · obtain ⟨r0, r1⟩ := hr
        have he1 := Lib.hid (fun w hL => encode_yes z w r0 r1 hL)
        have he2 := Lib.hid (fun w => encodeTime_yes z w r0 r1)
        obtain ⟨tag, f1, f2, f3, f4⟩ := der_facts r0 r1
        generalize der z = T at *
        have HF := Lib.hid (And.intro f1 f4)
        clear f1 f4 r0 r1
        go_wp2_with fail
        refine (he1.out _ HLW.out).mono ?_
        rintro e w3 ⟨rfl, hb3⟩
        have HB3 := Lib.hid (hb.out.trans (hb3.mono hb.out.size))
        clear hb3
        go_wp2_with fail
        refine (he2.out _).mono ?_
        rintro e w4 ⟨rfl, hb4⟩
        have HB4 := Lib.hid (HB3.out.trans (hb4.mono HB3.out.size))
        clear hb4
        have t1 : (2 : Int) ≤ (T.size : Int) := by omega
        have t2 : (0 : Int) < (T.size : Int) := by omega
        have t3 : 2 ≤ T.size := by omega
        have t4 : 0 < T.size := by omega
        go_upto_region 11 with (fail)
        have HL4 := Lib.hid ((HL.out.below HBW.out).below HB4.out)
        have hT : ∀ h : 0 < T.size, ((T[0]'h).toNat : Int) = tag := HF.out.1
        have hw := Lib.hid (show wrap64 tag = tag from by have e0 := hT t4; have e1 := UInt8.toNat_lt (T[0]'t4); exact w64 (by omega))
        have hd : ∀ u : Later w4, Calls Tryd.prog 16 #[.int .i64 (wrap64 tag), .string (T.extract 2 T.size)] u.v fun e w' => e = .returned (.tuple #[.int .i64 z, .int .i64 0]) ∧ Below u.v.heap.size u.v w' := fun u => by rw [hw.out]; exact decode_at z tag _ u.v (HL4.out.below u.b) HF.out.2
        refine wp_region_later (by kernel_rfl) (by kernel_rfl) ?_
        repeat (first | go_big_quiet_skip | (go_big_quiet_want; go_big_quiet_op; first | go_big_quiet_on | go_big_quiet_call ((go_at_call 16; exact Later.call (hd _)))))
        refine wpQuiet_nil ?_
        intro w5 hu5
        have HB5 := Lib.hid (HB4.out.trans ((Later.out hu5).mono HB4.out.size))
        clear hu5 hd hT
        go_wp2_with fail
        go_roundw
        case rel => exact ⟨i + 1, by omega, by go_num, HB5⟩
        case measure => simp [intOf]; omega
      · have hr2 : z < 0 ∨ 254033452799 < z := by omega
        have HR := Lib.hid hr2
        clear hr hr2
        go_wp2_with fail
        refine (encode_no z _ HR.out).mono ?_
        rintro e w3 ⟨rfl, hb3⟩
        have HB3 := Lib.hid (hb.out.trans (hb3.mono hb.out.size))
        clear hb3
        go_wp2_with fail
        refine (encodeTime_no z _ HR.out).mono ?_
        rintro e w4 ⟨rfl, hb4⟩
        have HB4 := Lib.hid (HB3.out.trans (hb4.mono HB3.out.size))
        clear hb4
        go_wp2_with fail
        go_roundw
        case rel => exact ⟨i + 1, by omega, by go_num, HB4⟩
        case measure => simp [intOf]; omega
    · obtain rfl : i = 3 := by omega
      go_wp2_with fail
      refine (awake_any _ ((HL.out.below HBW.out).below hb.out)).mono ?_
      rintro e w7 ⟨rfl, hb7⟩
      have HB7 := Lib.hid ((HBW.out.trans (hb.out.mono HBW.out.size)).trans (hb7.mono (by have := HBW.out.size; have := hb.out.size; omega)))
      clear hb7
      go_wp2_with fail
      go_ret
      exact ⟨rfl, HB7.out⟩
end Go.Proofs.YtjfbmjegdjpfbaaDoor
