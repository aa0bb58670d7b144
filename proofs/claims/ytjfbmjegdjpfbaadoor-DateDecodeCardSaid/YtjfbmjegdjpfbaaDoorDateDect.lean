/- DecodeTime of the reference comes to decF. -/
import Derived.Test.YtjfbmjegdjpfbaaDoorDateDec
namespace Go.Proofs.YtjfbmjegdjpfbaaDoor
open Go Go.RowKit

theorem extract_le (s : ByteArray) (i j : Nat) (h : s.size ≤ 17) : (s.extract i j).size ≤ 17 := by rw [ByteArray.size_extract]; omega
theorem dateAt_drop (y : Int) (l : List UInt8) (n : Nat) : dateAt y (l.drop n) = ⟨y, numL ((l.drop n).take 2), numL ((l.drop (n + 2)).take 2), numL ((l.drop (n + 4)).take 2), numL ((l.drop (n + 6)).take 2), numL ((l.drop (n + 8)).take 2)⟩ := by
  simp [dateAt, pr, List.drop_drop]
theorem numL_all {l : List UInt8} (h : 0 ≤ numL l) : l.all isDig = true := by
  unfold numL at h
  split at h
  · assumption
  · omega
theorem numL_nn {l : List UInt8} (h : l.all isDig = true) : 0 ≤ numL l := by rw [numL_some h]; exact (valL_bd l h).1
theorem pairs_all {l : List UInt8} (h0 : 0 ≤ pr l 0) (h2 : 0 ≤ pr l 2) (h4 : 0 ≤ pr l 4) (h6 : 0 ≤ pr l 6) (h8 : 0 ≤ pr l 8) : (l.take 10).all isDig = true := by
  have e : l.take 10 = (((l.drop 0).take 2 ++ (l.drop 2).take 2) ++ (l.drop 4).take 2 ++ (l.drop 6).take 2) ++ (l.drop 8).take 2 := by
    rw [show (10 : Nat) = 8 + 2 from rfl, List.take_add, show (8 : Nat) = 6 + 2 from rfl, List.take_add, show (6 : Nat) = 4 + 2 from rfl, List.take_add, show (4 : Nat) = 2 + 2 from rfl, List.take_add, List.drop_zero]
  rw [e]
  simp only [List.all_append, numL_all h0, numL_all h2, numL_all h4, numL_all h6, numL_all h8, Bool.and_self]
theorem decN_bad {n : Nat} {y : Int} {l : List UInt8} (h : numL (l.take (n + 10)) < 0) : decN n y l = (0, 12) := by
  simp only [decN]
  split
  · rfl
  · split
    · rfl
    · rename_i h1 h2
      refine secF_no fun hv => ?_
      simp only [DM.Valid, dateAt] at hv
      obtain ⟨_, _, v3, _, v5, _, v7, _, v9, _, v11, _⟩ := hv
      have hp := pairs_all (l := l.drop n) (by omega) (by omega) (by omega) (by omega) (by omega)
      have hy := numL_all (l := l.take n) (by omega)
      have : (l.take (n + 10)).all isDig = true := by rw [List.take_add, List.all_append, hy, hp]; rfl
      have := numL_nn this
      omega

theorem refSec_tup (x : DM.D6) (w : World) : Calls Tryd.prog 14 #[dval x] w fun e w' => e = .returned (.tuple #[.int .i64 (secF x).1, .int .i64 (secF x).2]) ∧ Below w.heap.size w w' := refSec_any x w

set_option maxHeartbeats 4000000 in
theorem dect_other (tag : Int) (s : ByteArray) (w : World) (h1 : tag ≠ 23) (h2 : tag ≠ 24) :
    Calls Tryd.prog 17 #[.int .i64 tag, .string s] w fun e w' => e = .returned (two (decF tag s.data.toList)) ∧ Below w.heap.size w w' := by
  have k1 : (tag != 23) = true := by simpa using h1
  have k2 : (tag != 24) = true := by simpa using h2
  go_enter Tryd.func17, Tryd.ntmps17
  go_wp2_with fail
  go_ret2
  refine ⟨?_, Below.refl _ _⟩
  rw [decF_other h1 h2]; rfl

set_option maxRecDepth 100000 in
set_option maxHeartbeats 8000000 in
theorem dect_23 (s : ByteArray) (w : World) :
    Calls Tryd.prog 17 #[.int .i64 23, .string s] w fun e w' => e = .returned (two (decF 23 s.data.toList)) ∧ Below w.heap.size w w' := by
  by_cases hlen : s.size = 13
  · have hsz : s.data.toList.length = 13 := by simpa using hlen
    have l1 : ((s.size : Int) != 13) = false := by simp; omega
    have i12 : (12 : Int) < (s.size : Int) := by omega
    have n12 : 12 < s.size := by omega
    have n13 : s.size - 1 = 12 := by omega
    have hg : s.data.toList.getD 12 0 = s[12] := by simp [List.getD, n12]; rfl
    by_cases hz : s[12] = 90
    · have z1 : ((s[12].toNat : Int) != 90) = false := by rw [hz]; rfl
      have hfin : s.data.toList.getD 12 0 = 90 := by rw [hg, hz]
      have HF := Lib.hid hfin
      have HSZ := Lib.hid hsz
      have HN13 := Lib.hid n13
      clear hfin hg hsz hz n13
      have e0 : (s.extract 0 12).data.toList = s.data.toList.take 12 := by simp
      have hlo := numL_lo (s.data.toList.take 2)
      have hhi := numL_hi (s.data.toList.take 2) (by rw [List.length_take]; omega)
      have E0 := Lib.hid e0
      have j2 : 2 ≤ s.size := by omega
      have i2' : (2 : Int) ≤ (s.size : Int) := by omega
      have j4 : 4 ≤ s.size := by omega
      have i4' : (4 : Int) ≤ (s.size : Int) := by omega
      have j6 : 6 ≤ s.size := by omega
      have i6' : (6 : Int) ≤ (s.size : Int) := by omega
      have j8 : 8 ≤ s.size := by omega
      have i8' : (8 : Int) ≤ (s.size : Int) := by omega
      have j10 : 10 ≤ s.size := by omega
      have i10' : (10 : Int) ≤ (s.size : Int) := by omega
      have j12 : 12 ≤ s.size := by omega
      have i12' : (12 : Int) ≤ (s.size : Int) := by omega
      clear e0
      by_cases hall : numL (s.data.toList.take 12) < 0
      · go_enter Tryd.func17, Tryd.ntmps17
        go_wp2_with fail
        refine (digits_any _ _ (extract_le _ _ _ (by omega))).mono ?_
        rintro e w1 ⟨rfl, rfl⟩
        rw [E0.out]
        generalize hV : numL (s.data.toList.take 12) = V at hall ⊢
        have HV := Lib.hid hV
        have HA := Lib.hid hall
        have d0 : decide (V < 0) = true := by simp; omega
        clear hV hall
        go_wp2_with fail
        go_ret2
        refine ⟨?_, Below.refl _ _⟩
        rw [decF_23, decN_bad (by rw [HV.out]; exact HA.out)]; rfl
      · have hall2 := numL_all (l := s.data.toList.take 12) (by omega)
        have hpre : (s.data.toList.take 2).all isDig = true := by
          have h3 : s.data.toList.take 12 = s.data.toList.take 2 ++ (s.data.toList.drop 2).take 10 := by rw [show (12 : Nat) = 2 + 10 from rfl, List.take_add]
          rw [h3, List.all_append, Bool.and_eq_true] at hall2
          exact hall2.1
        have hnn := numL_nn hpre
        have HP := Lib.hid hnn
        clear hall2 hpre hnn hlo
        go_enter Tryd.func17, Tryd.ntmps17
        go_wp2_with fail
        refine (digits_any _ _ (extract_le _ _ _ (by omega))).mono ?_
        rintro e w1 ⟨rfl, rfl⟩
        rw [E0.out]
        generalize hV : numL (s.data.toList.take 12) = V at hall ⊢
        clear hV
        have d0 : decide (V < 0) = false := by simp; omega
        go_wp2_with fail
        refine (digits_any _ _ (extract_le _ _ _ (by omega))).mono ?_
        rintro e w1 ⟨rfl, rfl⟩
        have e1 : (s.extract 0 2).data.toList = s.data.toList.take 2 := by simp
        rw [e1]
        clear e1
        have hnn := HP.out
        generalize hY : numL (s.data.toList.take 2) = Y at hhi hnn ⊢
        have HY := Lib.hid hY
        clear hY hall d0
        by_cases y2 : 50 ≤ Y
        · have d2 : decide (50 ≤ Y) = true := by simp; omega
          go_wp2_with fail
          refine wp_region_later (by kernel_rfl) (by kernel_rfl) ?_
          repeat (first | go_big_quiet_skip | (go_big_quiet_want; go_big_quiet_op; first | go_big_quiet_on | go_big_quiet_call ((first | (go_at_call 31; exact Later.call_same (digits_any _ _ (extract_le _ _ _ (by omega)))) | (go_at_call 14; exact Later.call (refSec_tup ⟨_, _, _, _, _, _⟩ _))))))
          refine wpQuiet_nil ?_
          intro w1 hu1
          have hb1 := Later.out hu1
          clear hu1
          have HB := Lib.hid hb1
          clear hb1
          go_wp2_with fail
          go_ret2
          refine ⟨?_, HB.out⟩
          rw [decF_23, HY.out, if_pos (by omega), decN_sec HSZ.out HF.out (by rw [HY.out]; omega), dateAt_drop]; rfl
        · have y3 : Y < 50 := by omega
          have d2 : decide (50 ≤ Y) = false := by simp; omega
          go_wp2_with fail
          refine wp_region_later (by kernel_rfl) (by kernel_rfl) ?_
          repeat (first | go_big_quiet_skip | (go_big_quiet_want; go_big_quiet_op; first | go_big_quiet_on | go_big_quiet_call ((first | (go_at_call 31; exact Later.call_same (digits_any _ _ (extract_le _ _ _ (by omega)))) | (go_at_call 14; exact Later.call (refSec_tup ⟨_, _, _, _, _, _⟩ _))))))
          refine wpQuiet_nil ?_
          intro w1 hu1
          have hb1 := Later.out hu1
          clear hu1
          have HB := Lib.hid hb1
          clear hb1
          go_wp2_with fail
          go_ret2
          refine ⟨?_, HB.out⟩
          rw [decF_23, HY.out, if_neg (by omega), decN_sec HSZ.out HF.out (by rw [HY.out]; omega), dateAt_drop]; rfl
    · have z1 : ((s[12].toNat : Int) != 90) = true := by
        rw [bne_iff_ne]; intro h; apply hz
        exact UInt8.toNat_inj.1 (by rw [show (90 : UInt8).toNat = 90 from rfl]; omega)
      have hfin : s.data.toList.getD 12 0 ≠ 90 := by rw [hg]; exact hz
      have HF := Lib.hid hfin
      clear hfin hg hz hsz
      go_enter Tryd.func17, Tryd.ntmps17
      go_wp2_with fail
      go_ret2
      refine ⟨?_, Below.refl _ _⟩
      rw [decF_23, decN_z HF.out]; rfl
  · have l1 : ((s.size : Int) != 13) = true := by rw [bne_iff_ne]; omega
    have hsz : s.data.toList.length ≠ 2 + 11 := by simpa using hlen
    go_enter Tryd.func17, Tryd.ntmps17
    go_wp2_with fail
    go_ret2
    refine ⟨?_, Below.refl _ _⟩
    rw [decF_23, decN_len hsz]; rfl

set_option maxRecDepth 100000 in
set_option maxHeartbeats 8000000 in
theorem dect_24 (s : ByteArray) (w : World) :
    Calls Tryd.prog 17 #[.int .i64 24, .string s] w fun e w' => e = .returned (two (decF 24 s.data.toList)) ∧ Below w.heap.size w w' := by
  by_cases hlen : s.size = 15
  · have hsz : s.data.toList.length = 15 := by simpa using hlen
    have l1 : ((s.size : Int) != 15) = false := by simp; omega
    have i12 : (14 : Int) < (s.size : Int) := by omega
    have n12 : 14 < s.size := by omega
    have n13 : s.size - 1 = 14 := by omega
    have hg : s.data.toList.getD 14 0 = s[14] := by simp [List.getD, n12]; rfl
    by_cases hz : s[14] = 90
    · have z1 : ((s[14].toNat : Int) != 90) = false := by rw [hz]; rfl
      have hfin : s.data.toList.getD 14 0 = 90 := by rw [hg, hz]
      have HF := Lib.hid hfin
      have HSZ := Lib.hid hsz
      have HN13 := Lib.hid n13
      clear hfin hg hsz hz n13
      have e0 : (s.extract 0 14).data.toList = s.data.toList.take 14 := by simp
      have hlo := numL_lo (s.data.toList.take 4)
      have hhi := numL_hi (s.data.toList.take 4) (by rw [List.length_take]; omega)
      have E0 := Lib.hid e0
      have j4 : 4 ≤ s.size := by omega
      have i4' : (4 : Int) ≤ (s.size : Int) := by omega
      have j6 : 6 ≤ s.size := by omega
      have i6' : (6 : Int) ≤ (s.size : Int) := by omega
      have j8 : 8 ≤ s.size := by omega
      have i8' : (8 : Int) ≤ (s.size : Int) := by omega
      have j10 : 10 ≤ s.size := by omega
      have i10' : (10 : Int) ≤ (s.size : Int) := by omega
      have j12 : 12 ≤ s.size := by omega
      have i12' : (12 : Int) ≤ (s.size : Int) := by omega
      have j14 : 14 ≤ s.size := by omega
      have i14' : (14 : Int) ≤ (s.size : Int) := by omega
      clear e0
      by_cases hall : numL (s.data.toList.take 14) < 0
      · go_enter Tryd.func17, Tryd.ntmps17
        go_wp2_with fail
        refine (digits_any _ _ (extract_le _ _ _ (by omega))).mono ?_
        rintro e w1 ⟨rfl, rfl⟩
        rw [E0.out]
        generalize hV : numL (s.data.toList.take 14) = V at hall ⊢
        have HV := Lib.hid hV
        have HA := Lib.hid hall
        have d0 : decide (V < 0) = true := by simp; omega
        clear hV hall
        go_wp2_with fail
        go_ret2
        refine ⟨?_, Below.refl _ _⟩
        rw [decF_24, decN_bad (by rw [HV.out]; exact HA.out)]; rfl
      · have hall2 := numL_all (l := s.data.toList.take 14) (by omega)
        have hpre : (s.data.toList.take 4).all isDig = true := by
          have h3 : s.data.toList.take 14 = s.data.toList.take 4 ++ (s.data.toList.drop 4).take 10 := by rw [show (14 : Nat) = 4 + 10 from rfl, List.take_add]
          rw [h3, List.all_append, Bool.and_eq_true] at hall2
          exact hall2.1
        have hnn := numL_nn hpre
        have HP := Lib.hid hnn
        clear hall2 hpre hnn hlo
        go_enter Tryd.func17, Tryd.ntmps17
        go_wp2_with fail
        refine (digits_any _ _ (extract_le _ _ _ (by omega))).mono ?_
        rintro e w1 ⟨rfl, rfl⟩
        rw [E0.out]
        generalize hV : numL (s.data.toList.take 14) = V at hall ⊢
        clear hV
        have d0 : decide (V < 0) = false := by simp; omega
        go_wp2_with fail
        refine (digits_any _ _ (extract_le _ _ _ (by omega))).mono ?_
        rintro e w1 ⟨rfl, rfl⟩
        have e1 : (s.extract 0 4).data.toList = s.data.toList.take 4 := by simp
        rw [e1]
        clear e1
        have hnn := HP.out
        generalize hY : numL (s.data.toList.take 4) = Y at hhi hnn ⊢
        have HY := Lib.hid hY
        clear hY hall d0
        by_cases y2 : Y < 2050
        · have d2 : decide (Y < 2050) = true := by simp; omega
          go_wp2_with fail
          go_ret2
          refine ⟨?_, Below.refl _ _⟩
          rw [decF_24, HY.out, if_pos (by omega), decN_neg (.inr (by omega))]; rfl
        · have y3 : 2050 ≤ Y := by omega
          have d2 : decide (Y < 2050) = false := by simp; omega
          go_wp2_with fail
          refine wp_region_later (by kernel_rfl) (by kernel_rfl) ?_
          repeat (first | go_big_quiet_skip | (go_big_quiet_want; go_big_quiet_op; first | go_big_quiet_on | go_big_quiet_call ((first | (go_at_call 31; exact Later.call_same (digits_any _ _ (extract_le _ _ _ (by omega)))) | (go_at_call 14; exact Later.call (refSec_tup ⟨_, _, _, _, _, _⟩ _))))))
          refine wpQuiet_nil ?_
          intro w1 hu1
          have hb1 := Later.out hu1
          clear hu1
          have HB := Lib.hid hb1
          clear hb1
          go_wp2_with fail
          go_ret2
          refine ⟨?_, HB.out⟩
          rw [decF_24, HY.out, if_neg (by omega), decN_sec HSZ.out HF.out (by rw [HY.out]; omega), dateAt_drop]; rfl
    · have z1 : ((s[14].toNat : Int) != 90) = true := by
        rw [bne_iff_ne]; intro h; apply hz
        exact UInt8.toNat_inj.1 (by rw [show (90 : UInt8).toNat = 90 from rfl]; omega)
      have hfin : s.data.toList.getD 14 0 ≠ 90 := by rw [hg]; exact hz
      have HF := Lib.hid hfin
      clear hfin hg hz hsz
      go_enter Tryd.func17, Tryd.ntmps17
      go_wp2_with fail
      go_ret2
      refine ⟨?_, Below.refl _ _⟩
      rw [decF_24, decN_z HF.out]; rfl
  · have l1 : ((s.size : Int) != 15) = true := by rw [bne_iff_ne]; omega
    have hsz : s.data.toList.length ≠ 4 + 11 := by simpa using hlen
    go_enter Tryd.func17, Tryd.ntmps17
    go_wp2_with fail
    go_ret2
    refine ⟨?_, Below.refl _ _⟩
    rw [decF_24, decN_len hsz]; rfl

theorem dect_any (tag : Int) (s : ByteArray) (w : World) :
    Calls Tryd.prog 17 #[.int .i64 tag, .string s] w fun e w' => e = .returned (two (decF tag s.data.toList)) ∧ Below w.heap.size w w' := by
  by_cases h1 : tag = 23
  · subst h1; exact dect_23 s w
  · by_cases h2 : tag = 24
    · subst h2; exact dect_24 s w
    · exact dect_other tag s w h1 h2

end Go.Proofs.YtjfbmjegdjpfbaaDoor
