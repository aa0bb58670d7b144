/- The contents of the element of a time's text are read back as the time: the plain law. -/
import Derived.Test.YtjfbmjegdjpfbaaDoorDateEncRef
import Derived.Test.YtjfbmjegdjpfbaaDoorDateDec
namespace Go.Proofs.YtjfbmjegdjpfbaaDoor
open Go Go.RowKit

theorem enc_num2 {a b : Int} (a0 : 0 ≤ a) (a1 : a ≤ 9) (b0 : 0 ≤ b) (b1 : b ≤ 9) : numL [U8 (48 + a), U8 (48 + b)] = 10 * a + b := by
  have ha := toNat_U8 (n := 48 + a) (by omega)
  have hb := toNat_U8 (n := 48 + b) (by omega)
  rw [numL_some (by simp only [List.all_cons, List.all_nil, Bool.and_true, Bool.and_eq_true, isDig, decide_eq_true_eq]; omega)]
  simp only [valL, List.foldl_cons, List.foldl_nil, ha, hb]
  omega
theorem enc_num4 {a b c d : Int} (a0 : 0 ≤ a) (a1 : a ≤ 9) (b0 : 0 ≤ b) (b1 : b ≤ 9) (c0 : 0 ≤ c) (c1 : c ≤ 9) (d0 : 0 ≤ d) (d1 : d ≤ 9) : numL [U8 (48 + a), U8 (48 + b), U8 (48 + c), U8 (48 + d)] = 1000 * a + 100 * b + 10 * c + d := by
  have ha := toNat_U8 (n := 48 + a) (by omega)
  have hb := toNat_U8 (n := 48 + b) (by omega)
  have hc := toNat_U8 (n := 48 + c) (by omega)
  have hd := toNat_U8 (n := 48 + d) (by omega)
  rw [numL_some (by simp only [List.all_cons, List.all_nil, Bool.and_true, Bool.and_eq_true, isDig, decide_eq_true_eq]; omega)]
  simp only [valL, List.foldl_cons, List.foldl_nil, ha, hb, hc, hd]
  omega
theorem enc_two {n : Int} (n0 : 0 ≤ n) (n1 : n ≤ 99) : ∃ a b : Int, (0 ≤ a ∧ a ≤ 9) ∧ (0 ≤ b ∧ b ≤ 9) ∧ n = 10 * a + b ∧ digs n 2 = [48 + a, 48 + b] :=
  ⟨n / 10, n % 10, by omega, by omega, by omega, digs_two n0 n1⟩
theorem decF_der {x : DM.D6} (hv : DM.Valid x) : decF (tagOf x) ((contL x).map U8) = (DM.sec x, 0) := by
  obtain ⟨⟨y0, y1⟩, ⟨m0, m1⟩, ⟨d0, d1⟩, ⟨h0, h1⟩, ⟨i0, i1⟩, ⟨s0, s1⟩⟩ := valid_bd hv
  have yl := hv.1
  have hs := secF_yes hv
  obtain ⟨y, m, d, h, mi, s⟩ := x
  simp only at yl y0 y1 m0 m1 d0 d1 h0 h1 i0 i1 s0 s1
  obtain ⟨ma, mb, hma, hmb, em, lm⟩ := enc_two m0 m1
  obtain ⟨da, db, hda, hdb, ed, ld⟩ := enc_two d0 d1
  obtain ⟨ga, gb, hga, hgb, eg, lg⟩ := enc_two h0 h1
  obtain ⟨ia, ib, hia, hib, ei, li⟩ := enc_two i0 i1
  obtain ⟨sa, sb, hsa, hsb, es, ls⟩ := enc_two s0 s1
  have fm := enc_num2 hma.1 hma.2 hmb.1 hmb.2
  have fd := enc_num2 hda.1 hda.2 hdb.1 hdb.2
  have fg := enc_num2 hga.1 hga.2 hgb.1 hgb.2
  have fi := enc_num2 hia.1 hia.2 hib.1 hib.2
  have fs := enc_num2 hsa.1 hsa.2 hsb.1 hsb.2
  by_cases hy : y < 2050
  · obtain ⟨ya, yb, hya, hyb, ey, ly⟩ := enc_two (n := y % 100) (by omega) (by omega)
    have fy := enc_num2 hya.1 hya.2 hyb.1 hyb.2
    simp only [tagOf, contL, if_pos hy, restL, ly, lm, ld, lg, li, ls, List.cons_append, List.nil_append, List.map_cons, List.map_nil]
    rw [decF_23]
    simp only [List.take_succ_cons, List.take_zero, fy]
    rw [show (if 50 ≤ 10 * ya + yb then 10 * ya + yb + 1900 else 10 * ya + yb + 2000) = y from by split <;> omega]
    rw [decN_sec rfl rfl (by simp only [List.take_succ_cons, List.take_zero, fy]; omega), ← hs]
    congr 1
    show (⟨y, numL _, numL _, numL _, numL _, numL _⟩ : DM.D6) = _
    simp only [List.drop_succ_cons, List.drop_zero, List.take_succ_cons, List.take_zero, fm, fd, fg, fi, fs, ← em, ← ed, ← eg, ← ei, ← es]
  · obtain ⟨ya, yb, yc, yd, hya, hyb, hyc, hyd, ey, ly⟩ := four y0 y1
    have fy := enc_num4 hya.1 hya.2 hyb.1 hyb.2 hyc.1 hyc.2 hyd.1 hyd.2
    simp only [tagOf, contL, if_neg hy, restL, ly, lm, ld, lg, li, ls, List.cons_append, List.nil_append, List.map_cons, List.map_nil]
    rw [decF_24]
    simp only [List.take_succ_cons, List.take_zero, fy]
    rw [show (if 1000 * ya + 100 * yb + 10 * yc + yd < 2050 then -1 else 1000 * ya + 100 * yb + 10 * yc + yd) = y from by split <;> omega]
    rw [decN_sec rfl rfl (by simp only [List.take_succ_cons, List.take_zero, fy]; omega), ← hs]
    congr 1
    show (⟨y, numL _, numL _, numL _, numL _, numL _⟩ : DM.D6) = _
    simp only [List.drop_succ_cons, List.drop_zero, List.take_succ_cons, List.take_zero, fm, fd, fg, fi, fs, ← em, ← ed, ← eg, ← ei, ← es]
theorem der_facts {t : Int} (h0 : 0 ≤ t) (h1 : t ≤ 254033452799) :
    ∃ tag : Int, (∀ h : 0 < (der t).size, (((der t)[0]'h).toNat : Int) = tag) ∧ 13 ≤ (der t).size ∧ (der t).size ≤ 17 ∧ decF tag ((der t).extract 2 (der t).size).data.toList = (t, 0) := by
  obtain ⟨hv, hs⟩ := civ_spec h0 h1
  have hd := decF_der hv
  rw [hs] at hd
  have e : der t = strOfNums (derL (DM.civ t)) := rfl
  rw [e]
  generalize DM.civ t = x at hv hd
  have hl := contL_len x
  have hsz : (strOfNums (derL x)).size = (contL x).length + 2 := by rw [strOfNums_size]; simp [derL]
  refine ⟨tagOf x, ?_, by rw [hsz, hl]; split <;> omega, by rw [hsz, hl]; split <;> omega, ?_⟩
  · intro h
    have : (strOfNums (derL x))[0]'h = U8 (tagOf x) := rfl
    rw [this]
    exact toNat_U8 (by unfold tagOf; split <;> omega)
  · have : ((strOfNums (derL x)).extract 2 (strOfNums (derL x)).size).data.toList = (contL x).map U8 := by
      have e2 : (strOfNums (derL x)).data.toList = (derL x).map U8 := rfl
      rw [ByteArray.data_extract, Array.toList_extract, e2, hsz]
      simp [derL, List.take_of_length_le]
    rw [this]
    exact hd
end Go.Proofs.YtjfbmjegdjpfbaaDoor
