/- The law DateDecode returns true. -/
import Derived.Test.YtjfbmjegdjpfbaaDoorDateTxt
import Derived.Test.YtjfbmjegdjpfbaaDoorDateDec
import Derived.Test.YtjfbmjegdjpfbaaDoorDateDect
import Derived.Test.YtjfbmjegdjpfbaaDoorDateAwake
import Derived.WalkLawsBesides
namespace Go.Proofs.YtjfbmjegdjpfbaaDoor
open Go Go.RowKit

theorem decode_tup (tag : Int) (s : ByteArray) (w : World) (hL : Lens w) :
    Calls Tryd.prog 16 #[.int .i64 tag, .string s] w fun e w' => e = .returned (.tuple #[.int .i64 (decF tag s.data.toList).1, .int .i64 (decF tag s.data.toList).2]) ∧ Below w.heap.size w w' := decode_any tag s w hL
theorem dect_tup (tag : Int) (s : ByteArray) (w : World) :
    Calls Tryd.prog 17 #[.int .i64 tag, .string s] w fun e w' => e = .returned (.tuple #[.int .i64 (decF tag s.data.toList).1, .int .i64 (decF tag s.data.toList).2]) ∧ Below w.heap.size w w' := dect_any tag s w
set_option maxRecDepth 100000 in
set_option maxHeartbeats 8000000 in
theorem dateDecode_walk (tag : Int) (s : ByteArray) (t k d at_ c how : Int) (w : World) (k0 : 0 ≤ k) (k1 : k ≤ 65535) (d0 : -128 ≤ d) (d1 : d ≤ 127) (a0 : 0 ≤ at_) (a1 : at_ ≤ 255) (c0 : 0 ≤ c) (_c1 : c ≤ 255) (g0 : 0 ≤ how) (g1 : how ≤ 255) (hL : Lens w) :
    Calls Tryd.prog 5 #[.int .i64 tag, .string s, .int .i64 t, .int .u16 k, .int .i8 d, .int .u8 at_, .int .u8 c, .int .u8 how] w fun e w' => e = .returned (.bool true) ∧ Below w.heap.size w w' := by
  have HL := Lib.hid hL
  clear hL
  by_cases h60 : s.size ≤ 60
  · have h60' : (s.size : Int) ≤ 60 := by omega
    obtain ⟨W, hW⟩ : ∃ W, W = w.alloc (.cells #[.int .i64 tag, .int .i64 23, .int .i64 24] 3) := ⟨_, rfl⟩
    have hcl : ∀ i, i < 3 → ∃ x : Int, W.cell? ⟨w.heap.size, i, none⟩ = some (.int .i64 x) := by
      intro i hi
      have : i = 0 ∨ i = 1 ∨ i = 2 := by omega
      rcases this with rfl | rfl | rfl
      · exact ⟨tag, by rw [hW]; simp [go_sem]⟩
      · exact ⟨23, by rw [hW]; simp [go_sem]⟩
      · exact ⟨24, by rw [hW]; simp [go_sem]⟩
    have HCL := Lib.hid hcl
    have HBW : Hid (Below w.heap.size w W) := Lib.hid (by rw [hW]; exact (Below.refl _ w).alloc (Nat.le_refl _) _)
    have hlt1 : w.heap.size < W.heap.size := by rw [hW]; simp
    clear hcl
    go_enter Tryd.func5, Tryd.ntmps5
    go_wp2_with fail
    rw [← hW]
    clear hW
    go_loopw [32] (fun j wr => ∃ i : Nat, i ≤ 3 ∧ j = .int .i64 i ∧ Hid (Below W.heap.size W wr)) (fun j _ => 3 - (intOf j).toNat)
    case atStart => exact ⟨0, by omega, rfl, Lib.hid (Below.refl _ _)⟩
    case round =>
      obtain ⟨i, hi3, rfl, hb⟩ := hrel
      obtain ⟨W1, rfl⟩ : ∃ W : World, W = wr := ⟨_, rfl⟩
      by_cases hlt : i < 3
      · obtain ⟨z, hz0⟩ := HCL.out i hlt
        have hz := (hb.out.cell (p := ⟨w.heap.size, i, none⟩) hlt1).trans hz0
        clear hz0
        go_wp2_with fail
        refine (near_any t k d _ k0 k1 d0 d1).mono ?_
        rintro e w2 ⟨x, rfl, hb2⟩
        have HB2 := Lib.hid (hb.out.trans (hb2.mono hb.out.size))
        clear hb2
        go_wp2_with fail
        refine (text_any x z at_ c how _ a0 a1 c0 g0 g1).mono ?_
        rintro e w3 ⟨⟨D, rfl⟩, hb3⟩
        have HB3 := Lib.hid (HB2.out.trans (hb3.mono HB2.out.size))
        clear hb3
        obtain ⟨W4, hW4⟩ : ∃ W4, W4 = w3.alloc (.cells #[.string s, .string D] 9) := ⟨_, rfl⟩
        have hcl2 : ∀ i, i < 2 → ∃ x : ByteArray, W4.cell? ⟨w3.heap.size, i, none⟩ = some (.string x) := by
          intro i hi
          have : i = 0 ∨ i = 1 := by omega
          rcases this with rfl | rfl
          · exact ⟨s, by rw [hW4]; simp [go_sem]⟩
          · exact ⟨D, by rw [hW4]; simp [go_sem]⟩
        have HCL2 := Lib.hid hcl2
        have HBW4 : Hid (Below W.heap.size W W4) := Lib.hid (by rw [hW4]; exact HB3.out.alloc HB3.out.size _)
        have hlt4 : w3.heap.size < W4.heap.size := by rw [hW4]; simp
        clear hcl2
        go_wp2_with fail
        rw [← hW4]
        clear hW4 hz
        go_loopw [48] (fun j wr => ∃ i2 : Nat, i2 ≤ 2 ∧ j = .int .i64 i2 ∧ Hid (Below W4.heap.size W4 wr)) (fun j _ => 2 - (intOf j).toNat)
        case atStart => exact ⟨0, by omega, rfl, Lib.hid (Below.refl _ _)⟩
        case round =>
          obtain ⟨i2, hi2, rfl, hbb⟩ := hrel
          obtain ⟨W5, rfl⟩ : ∃ W : World, W = wr := ⟨_, rfl⟩
          by_cases hlt2 : i2 < 2
          · obtain ⟨y, hy0⟩ := HCL2.out i2 hlt2
            have hy := (hbb.out.cell (p := ⟨w3.heap.size, i2, none⟩) hlt4).trans hy0
            clear hy0
            have HLW : Hid (Lens W5) := Lib.hid (((HL.out.below HBW.out).below HBW4.out).below hbb.out)
            go_wp2_with fail
            refine (decode_tup z y _ HLW.out).mono ?_
            rintro e w6 ⟨rfl, hb6⟩
            have HB6 := Lib.hid (hbb.out.trans (hb6.mono hbb.out.size))
            clear hb6
            go_wp2_with fail
            refine (dect_tup z y _).mono ?_
            rintro e w7 ⟨rfl, hb7⟩
            have HB7 := Lib.hid (HB6.out.trans (hb7.mono HB6.out.size))
            clear hb7
            generalize decF z y.data.toList = pz
            go_wp2_with fail
            go_roundw
            case rel => exact ⟨i2 + 1, by omega, by go_num, HB7⟩
            case measure => simp [intOf]; omega
          · obtain rfl : i2 = 2 := by omega
            have HB8 : Hid (Below W.heap.size W W5) := Lib.hid (HBW4.out.trans (hbb.out.mono HBW4.out.size))
            go_wp2_with fail
            go_roundw
            case rel => exact ⟨i + 1, by omega, by go_num, HB8⟩
            case measure => simp [intOf]; omega
      · obtain rfl : i = 3 := by omega
        go_wp2_with fail
        refine (awake_any _ ((HL.out.below HBW.out).below hb.out)).mono ?_
        rintro e w7 ⟨rfl, hb7⟩
        have HB7 := Lib.hid ((HBW.out.trans (hb.out.mono HBW.out.size)).trans (hb7.mono (by have := HBW.out.size; have := hb.out.size; omega)))
        clear hb7
        go_wp2_with fail
        go_ret
        exact ⟨rfl, HB7.out⟩
  · have h60' : (60 : Int) < (s.size : Int) := by omega
    go_enter Tryd.func5, Tryd.ntmps5
    go_wp2_with fail
    refine (awake_any _ HL.out).mono ?_
    rintro e w7 ⟨rfl, hb7⟩
    have HB7 := Lib.hid hb7
    clear hb7
    go_wp2_with fail
    go_ret
    exact ⟨rfl, HB7.out⟩
end Go.Proofs.YtjfbmjegdjpfbaaDoor
