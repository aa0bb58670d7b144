/- Decode of the program comes to decF. -/
import Derived.Test.YtjfbmjegdjpfbaaDoorDateSpec
namespace Go.Proofs.YtjfbmjegdjpfbaaDoor
open Go Go.RowKit

theorem two_eq {a b c d : Int} (h : a = c) (h' : b = d) : Ending.returned (.tuple #[.int .i64 a, .int .i64 b]) = Ending.returned (two (c, d)) := by rw [h, h']; rfl
theorem decF_other {tag : Int} {l : List UInt8} (h1 : tag ≠ 23) (h2 : tag ≠ 24) : decF tag l = (0, 5) := by simp [decF, h1, h2]
theorem decN_len {n : Nat} {y : Int} {l : List UInt8} (h : l.length ≠ n + 11) : decN n y l = (0, 12) := by simp [decN, h]
theorem decN_z {n : Nat} {y : Int} {l : List UInt8} (h : l.getD (n + 10) 0 ≠ 90) : decN n y l = (0, 12) := by simp only [decN]; rw [if_pos (Or.inr h)]
theorem decN_neg {n : Nat} {y : Int} {l : List UInt8} (h : numL (l.take n) < 0 ∨ y < 0) : decN n y l = (0, 12) := by
  simp [decN, h]
theorem decN_sec {n : Nat} {y : Int} {l : List UInt8} (h1 : l.length = n + 11) (h2 : l.getD (n + 10) 0 = 90) (h : ¬ (numL (l.take n) < 0 ∨ y < 0)) : decN n y l = secF (dateAt y (l.drop n)) := by
  simp only [decN]; rw [if_neg (fun h' => h'.elim (fun k => k h1) (fun k => k h2)), if_neg h]
theorem decF_23 {l : List UInt8} : decF 23 l = decN 2 (if 50 ≤ numL (l.take 2) then numL (l.take 2) + 1900 else numL (l.take 2) + 2000) l := by simp [decF]
theorem decF_24 {l : List UInt8} : decF 24 l = decN 4 (if numL (l.take 4) < 2050 then -1 else numL (l.take 4)) l := by simp [decF]

theorem numL_lo (l : List UInt8) : -1 ≤ numL l := by
  unfold numL; split
  · rename_i h; have := valL_bd l h; omega
  · omega
theorem numL_hi (l : List UInt8) (hl : l.length ≤ 4) : numL l ≤ 9999 := by
  unfold numL; split
  · rename_i h
    have h1 := valL_bd l h
    have h2 : (10 : Nat) ^ l.length ≤ 10 ^ 4 := Nat.pow_le_pow_right (by omega) hl
    have e : (10 : Int) ^ l.length = ((10 ^ l.length : Nat) : Int) := by rw [Int.natCast_pow]; rfl
    rw [e] at h1
    omega
  · omega

set_option maxHeartbeats 4000000 in
theorem decode_other (tag : Int) (s : ByteArray) (w : World) (h1 : tag ≠ 23) (h2 : tag ≠ 24) :
    Calls Tryd.prog 16 #[.int .i64 tag, .string s] w fun e w' => e = .returned (two (decF tag s.data.toList)) ∧ Below w.heap.size w w' := by
  have k1 : (tag == 23) = false := by simpa using h1
  have k2 : (tag == 24) = false := by simpa using h2
  go_enter Tryd.func16, Tryd.ntmps16
  go_wp2_with fail
  go_ret2
  refine ⟨?_, Below.refl _ _⟩
  rw [decF_other h1 h2]; rfl

set_option maxHeartbeats 4000000 in
theorem decode_23 (s : ByteArray) (w : World) (hL : Lens w) :
    Calls Tryd.prog 16 #[.int .i64 23, .string s] w fun e w' => e = .returned (two (decF 23 s.data.toList)) ∧ Below w.heap.size w w' := by
  have HL := Lib.hid hL
  clear hL
  by_cases hlen : s.size = 13
  · have hsz : s.data.toList.length = 13 := by simpa using hlen
    have l1 : ((s.size : Int) != 13) = false := by simp; omega
    have i12 : (12 : Int) < (s.size : Int) := by omega
    have n12 : 12 < s.size := by omega
    have hg : s.data.toList.getD 12 0 = s[12] := by simp [List.getD, n12]; rfl
    by_cases hz : s[12] = 90
    · have z1 : ((s[12].toNat : Int) != 90) = false := by rw [hz]; rfl
      have hz2 := Lib.hid hz
      have hlo := numL_lo (s.data.toList.take 2)
      have hhi := numL_hi (s.data.toList.take 2) (by rw [List.length_take]; omega)
      have hfin : s.data.toList.getD 12 0 = 90 := by rw [hg, hz]
      have HF := Lib.hid hfin
      have HSZ := Lib.hid hsz
      have HLEN := Lib.hid hlen
      clear hfin hg hz hsz
      have e1 : (s.extract 0 2).data.toList = s.data.toList.take 2 := by simp
      have e2 : List.take (s.size - 2) (List.drop 2 s.data.toList) = s.data.toList.drop 2 := List.take_of_length_le (by simp)
      have e3 : (s.extract 2 s.size).size = 11 := by simp [ByteArray.size_extract]; omega
      have E1 := Lib.hid e1
      have E2 := Lib.hid e2
      have E3 := Lib.hid e3
      clear e1 e2 e3 hlen
      go_enter Tryd.func16, Tryd.ntmps16
      go_wp2_with fail
      refine (number_any _ _ (by simp [ByteArray.size_extract]; omega)).mono ?_
      rintro e w1 ⟨rfl, hb1⟩
      have HB1 := Lib.hid hb1
      clear hb1
      rw [E1.out]
      generalize hY : numL (s.data.toList.take 2) = Y at hlo hhi ⊢
      have HY := Lib.hid hY
      clear hY
      by_cases y1 : Y < 0
      · go_wp2_with fail
        go_ret2
        refine ⟨?_, HB1.out⟩
        rw [decF_23, decN_neg (.inl (by rw [HY.out]; exact y1))]; rfl
      · have y0 : 0 ≤ Y := by omega
        by_cases y2 : 50 ≤ Y
        · go_wp2_with fail
          refine (parts_any _ _ _ (by rw [E3.out]; omega) (by rw [E3.out]; omega)).mono ?_
          rintro e w2 ⟨rfl, hb2⟩
          have HB2 := Lib.hid (HB1.out.trans (hb2.mono HB1.out.size))
          clear hb2
          go_wp2_with fail
          refine (sec_any _ _ (HL.out.below HB2.out)).mono ?_
          rintro e w3 ⟨rfl, hb3⟩
          have HB3 := Lib.hid (HB2.out.trans (hb3.mono HB2.out.size))
          clear hb3
          rw [E2.out]
          unfold two
          go_wp2_with fail
          go_ret2
          refine ⟨?_, HB3.out⟩
          rw [decF_23, HY.out, if_pos y2, decN_sec HSZ.out HF.out (by rw [HY.out]; omega)]; rfl
        · have y3 : Y < 50 := by omega
          have d0 : decide (Y < 0) = false := by simp; omega
          have d2 : decide (50 ≤ Y) = false := by simp; omega
          go_wp2_with fail
          refine (parts_any _ _ _ (by rw [E3.out]; omega) (by rw [E3.out]; omega)).mono ?_
          rintro e w2 ⟨rfl, hb2⟩
          have HB2 := Lib.hid (HB1.out.trans (hb2.mono HB1.out.size))
          clear hb2
          go_wp2_with fail
          refine (sec_any _ _ (HL.out.below HB2.out)).mono ?_
          rintro e w3 ⟨rfl, hb3⟩
          have HB3 := Lib.hid (HB2.out.trans (hb3.mono HB2.out.size))
          clear hb3
          rw [E2.out]
          unfold two
          go_wp2_with fail
          go_ret2
          refine ⟨?_, HB3.out⟩
          rw [decF_23, HY.out, if_neg (by omega), decN_sec HSZ.out HF.out (by rw [HY.out]; omega)]; rfl
    · have z1 : ((s[12].toNat : Int) != 90) = true := by
        rw [bne_iff_ne]; intro h; apply hz
        exact UInt8.toNat_inj.1 (by rw [show (90 : UInt8).toNat = 90 from rfl]; omega)
      go_enter Tryd.func16, Tryd.ntmps16
      go_wp2_with fail
      go_ret2
      refine ⟨?_, Below.refl _ _⟩
      rw [decF_23, decN_z (by rw [hg]; exact hz)]; rfl
  · have l1 : ((s.size : Int) != 13) = true := by rw [bne_iff_ne]; omega
    have hsz : s.data.toList.length ≠ 2 + 11 := by simpa using hlen
    go_enter Tryd.func16, Tryd.ntmps16
    go_wp2_with fail
    go_ret2
    refine ⟨?_, Below.refl _ _⟩
    rw [decF_23, decN_len hsz]; rfl
set_option maxHeartbeats 4000000 in
theorem decode_24 (s : ByteArray) (w : World) (hL : Lens w) :
    Calls Tryd.prog 16 #[.int .i64 24, .string s] w fun e w' => e = .returned (two (decF 24 s.data.toList)) ∧ Below w.heap.size w w' := by
  have HL := Lib.hid hL
  clear hL
  by_cases hlen : s.size = 15
  · have hsz : s.data.toList.length = 15 := by simpa using hlen
    have l1 : ((s.size : Int) != 15) = false := by simp; omega
    have i14 : (14 : Int) < (s.size : Int) := by omega
    have n12 : 14 < s.size := by omega
    have hg : s.data.toList.getD 14 0 = s[14] := by simp [List.getD, n12]; rfl
    by_cases hz : s[14] = 90
    · have z1 : ((s[14].toNat : Int) != 90) = false := by rw [hz]; rfl
      have hz2 := Lib.hid hz
      have hlo := numL_lo (s.data.toList.take 4)
      have hhi := numL_hi (s.data.toList.take 4) (by rw [List.length_take]; omega)
      have hfin : s.data.toList.getD 14 0 = 90 := by rw [hg, hz]
      have HF := Lib.hid hfin
      have HSZ := Lib.hid hsz
      have HLEN := Lib.hid hlen
      clear hfin hg hz hsz
      have e1 : (s.extract 0 4).data.toList = s.data.toList.take 4 := by simp
      have e2 : List.take (s.size - 4) (List.drop 4 s.data.toList) = s.data.toList.drop 4 := List.take_of_length_le (by simp)
      have e3 : (s.extract 4 s.size).size = 11 := by simp [ByteArray.size_extract]; omega
      have E1 := Lib.hid e1
      have E2 := Lib.hid e2
      have E3 := Lib.hid e3
      clear e1 e2 e3 hlen
      go_enter Tryd.func16, Tryd.ntmps16
      go_wp2_with fail
      refine (number_any _ _ (by simp [ByteArray.size_extract]; omega)).mono ?_
      rintro e w1 ⟨rfl, hb1⟩
      have HB1 := Lib.hid hb1
      clear hb1
      rw [E1.out]
      generalize hY : numL (s.data.toList.take 4) = Y at hlo hhi ⊢
      have HY := Lib.hid hY
      clear hY
      by_cases y1 : Y < 0
      · go_wp2_with fail
        go_ret2
        refine ⟨?_, HB1.out⟩
        rw [decF_24, decN_neg (.inl (by rw [HY.out]; exact y1))]; rfl
      · have y0 : 0 ≤ Y := by omega
        have d0 : decide (Y < 0) = false := by simp; omega
        by_cases y2 : Y < 2050
        · have d2 : decide (Y < 2050) = true := by simp; omega
          go_wp2_with fail
          go_ret2
          refine ⟨?_, HB1.out⟩
          rw [decF_24, HY.out, if_pos y2, decN_neg (.inr (by omega))]; rfl
        · have y3 : 2050 ≤ Y := by omega
          have d2 : decide (Y < 2050) = false := by simp; omega
          go_wp2_with fail
          refine (parts_any _ _ _ (by rw [E3.out]; omega) (by rw [E3.out]; omega)).mono ?_
          rintro e w2 ⟨rfl, hb2⟩
          have HB2 := Lib.hid (HB1.out.trans (hb2.mono HB1.out.size))
          clear hb2
          go_wp2_with fail
          refine (sec_any _ _ (HL.out.below HB2.out)).mono ?_
          rintro e w3 ⟨rfl, hb3⟩
          have HB3 := Lib.hid (HB2.out.trans (hb3.mono HB2.out.size))
          clear hb3
          rw [E2.out]
          unfold two
          go_wp2_with fail
          go_ret2
          refine ⟨?_, HB3.out⟩
          rw [decF_24, HY.out, if_neg (by omega), decN_sec HSZ.out HF.out (by rw [HY.out]; omega)]; rfl
    · have z1 : ((s[14].toNat : Int) != 90) = true := by
        rw [bne_iff_ne]; intro h; apply hz
        exact UInt8.toNat_inj.1 (by rw [show (90 : UInt8).toNat = 90 from rfl]; omega)
      go_enter Tryd.func16, Tryd.ntmps16
      go_wp2_with fail
      go_ret2
      refine ⟨?_, Below.refl _ _⟩
      rw [decF_24, decN_z (by rw [hg]; exact hz)]; rfl
  · have l1 : ((s.size : Int) != 15) = true := by rw [bne_iff_ne]; omega
    have hsz : s.data.toList.length ≠ 4 + 11 := by simpa using hlen
    go_enter Tryd.func16, Tryd.ntmps16
    go_wp2_with fail
    go_ret2
    refine ⟨?_, Below.refl _ _⟩
    rw [decF_24, decN_len hsz]; rfl

theorem decode_any (tag : Int) (s : ByteArray) (w : World) (hL : Lens w) :
    Calls Tryd.prog 16 #[.int .i64 tag, .string s] w fun e w' => e = .returned (two (decF tag s.data.toList)) ∧ Below w.heap.size w w' := by
  by_cases h1 : tag = 23
  · subst h1; exact decode_23 s w hL
  · by_cases h2 : tag = 24
    · subst h2; exact decode_24 s w hL
    · exact decode_other tag s w h1 h2
end Go.Proofs.YtjfbmjegdjpfbaaDoor
