/- The law DateText returns true. -/
import Derived.Test.YtjfbmjegdjpfbaaDoorDateParseRef
import Derived.Test.YtjfbmjegdjpfbaaDoorDateAwake
import Derived.WalkLawsBesides
import Derived.Deep.DeepCutAuto
import Derived.RegionTactic
namespace Go.Proofs.YtjfbmjegdjpfbaaDoor
open Go Go.RowKit

theorem num_fwd2 {a b : Int} (a0 : 0 ≤ a) (a1 : a ≤ 9) (b0 : 0 ≤ b) (b1 : b ≤ 9) : numL [U8 (48 + a), U8 (48 + b)] = 10 * a + b := by
  have ha := toNat_U8 (n := 48 + a) (by omega)
  have hb := toNat_U8 (n := 48 + b) (by omega)
  rw [numL_some (by simp only [List.all_cons, List.all_nil, Bool.and_true, Bool.and_eq_true, isDig, decide_eq_true_eq]; omega)]
  simp only [valL, List.foldl_cons, List.foldl_nil, ha, hb]
  omega
theorem num_fwd4 {a b c d : Int} (a0 : 0 ≤ a) (a1 : a ≤ 9) (b0 : 0 ≤ b) (b1 : b ≤ 9) (c0 : 0 ≤ c) (c1 : c ≤ 9) (d0 : 0 ≤ d) (d1 : d ≤ 9) : numL [U8 (48 + a), U8 (48 + b), U8 (48 + c), U8 (48 + d)] = 1000 * a + 100 * b + 10 * c + d := by
  have ha := toNat_U8 (n := 48 + a) (by omega)
  have hb := toNat_U8 (n := 48 + b) (by omega)
  have hc := toNat_U8 (n := 48 + c) (by omega)
  have hd := toNat_U8 (n := 48 + d) (by omega)
  rw [numL_some (by simp only [List.all_cons, List.all_nil, Bool.and_true, Bool.and_eq_true, isDig, decide_eq_true_eq]; omega)]
  simp only [valL, List.foldl_cons, List.foldl_nil, ha, hb, hc, hd]
  omega
theorem two_digs {n : Int} (n0 : 0 ≤ n) (n1 : n ≤ 99) : ∃ a b : Int, (0 ≤ a ∧ a ≤ 9) ∧ (0 ≤ b ∧ b ≤ 9) ∧ n = 10 * a + b ∧ digs n 2 = [48 + a, 48 + b] :=
  ⟨n / 10, n % 10, by omega, by omega, by omega, digs_two n0 n1⟩
theorem date_fwd {x : DM.D6} (hv : DM.Valid x) : dateOf ((fmtL x).map U8) = x ∧ ((fmtL x).map U8).length = 19 ∧ ∀ i, i < 5 → SepOk ((fmtL x).map U8) i := by
  obtain ⟨⟨y0, y1⟩, ⟨m0, m1⟩, ⟨d0, d1⟩, ⟨h0, h1⟩, ⟨i0, i1⟩, ⟨s0, s1⟩⟩ := valid_bd hv
  obtain ⟨y, m, d, h, mi, s⟩ := x
  obtain ⟨ya, yb, yc, yd, hya, hyb, hyc, hyd, ey, ly⟩ := four y0 y1
  obtain ⟨ma, mb, hma, hmb, em, lm⟩ := two_digs m0 m1
  obtain ⟨da, db, hda, hdb, ed, ld⟩ := two_digs d0 d1
  obtain ⟨ga, gb, hga, hgb, eg, lg⟩ := two_digs h0 h1
  obtain ⟨ia, ib, hia, hib, ei, li⟩ := two_digs i0 i1
  obtain ⟨sa, sb, hsa, hsb, es, ls⟩ := two_digs s0 s1
  simp only at ey ly em lm ed ld eg lg ei li es ls
  simp only [fmtL, pre, fld, sepI, ly, lm, ld, lg, li, ls, List.cons_append, List.nil_append, List.map_cons, List.map_nil]
  refine ⟨?_, rfl, ?_⟩
  · show (⟨numL [U8 (48 + ya), U8 (48 + yb), U8 (48 + yc), U8 (48 + yd)], numL [U8 (48 + ma), U8 (48 + mb)], numL [U8 (48 + da), U8 (48 + db)], numL [U8 (48 + ga), U8 (48 + gb)], numL [U8 (48 + ia), U8 (48 + ib)], numL [U8 (48 + sa), U8 (48 + sb)]⟩ : DM.D6) = _
    rw [num_fwd4 hya.1 hya.2 hyb.1 hyb.2 hyc.1 hyc.2 hyd.1 hyd.2, num_fwd2 hma.1 hma.2 hmb.1 hmb.2, num_fwd2 hda.1 hda.2 hdb.1 hdb.2, num_fwd2 hga.1 hga.2 hgb.1 hgb.2, num_fwd2 hia.1 hia.2 hib.1 hib.2, num_fwd2 hsa.1 hsa.2 hsb.1 hsb.2,
      ← ey, ← em, ← ed, ← eg, ← ei, ← es]
  · intro i hi
    have : i = 0 ∨ i = 1 ∨ i = 2 ∨ i = 3 ∨ i = 4 := by omega
    rcases this with rfl | rfl | rfl | rfl | rfl <;> rfl
theorem parF_txt {t : Int} (h0 : 0 ≤ t) (h1 : t ≤ 254033452799) : parF (txt t).data.toList = (t, 0) ∧ (txt t).size = 19 := by
  obtain ⟨hv, hs⟩ := civ_spec h0 h1
  obtain ⟨e1, e2, e3⟩ := date_fwd hv
  have e : (txt t).data.toList = (fmtL (DM.civ t)).map U8 := rfl
  refine ⟨?_, ?_⟩
  · rw [e, parF_ok e2 e3, e1, secF_yes hv, hs]
  · have := e2; rw [← e] at this; simpa using this
theorem parse_tup (s : ByteArray) (w : World) (hL : Lens w) :
    Calls Tryd.prog 20 #[.string s] w fun e w' => e = .returned (.tuple #[.int .i64 (parF s.data.toList).1, .int .i64 (parF s.data.toList).2]) ∧ Below w.heap.size w w' := parse_any s w hL
theorem parseTime_tup (s : ByteArray) (w : World) :
    Calls Tryd.prog 21 #[.string s] w fun e w' => e = .returned (.tuple #[.int .i64 (parF s.data.toList).1, .int .i64 (parF s.data.toList).2]) ∧ Below w.heap.size w w' := parseTime_any s w
set_option maxRecDepth 100000 in
set_option maxHeartbeats 8000000 in
theorem dateText_walk (t k d : Int) (s : ByteArray) (at_ c : Int) (w : World) (k0 : 0 ≤ k) (k1 : k ≤ 65535) (d0 : -128 ≤ d) (d1 : d ≤ 127) (a0 : 0 ≤ at_) (a1 : at_ ≤ 255) (c0 : 0 ≤ c) (_c1 : c ≤ 255) (hL : Lens w) :
    Calls Tryd.prog 7 #[.int .i64 t, .int .u16 k, .int .i8 d, .string s, .int .u8 at_, .int .u8 c] w fun e w' => e = .returned (.bool true) ∧ Below w.heap.size w w' := by
  have HL := Lib.hid hL
  clear hL
  by_cases h60 : s.size ≤ 60
  · have h60' : (s.size : Int) ≤ 60 := by omega
    go_enter Tryd.func7, Tryd.ntmps7
    go_wp2_with fail
    refine (near_any t k d _ k0 k1 d0 d1).mono ?_
    rintro e w1 ⟨x, rfl, hb1⟩
    have HB1 := Lib.hid hb1
    clear hb1
    by_cases hx : 0 ≤ x ∧ x ≤ 254033452799
    · obtain ⟨x0, x1⟩ := hx
      have hf1 := Lib.hid (fun w hL => (show Calls Tryd.prog 18 #[.int .i64 x] w fun e w' => e = .returned (.tuple #[.string (txt x), .int .i64 0]) ∧ Below w.heap.size w w' from format_yes x w x0 x1 hL))
      have hf2 := Lib.hid (fun w => formatTime_txt x w x0 x1)
      obtain ⟨hp1, hp2⟩ := parF_txt x0 x1
      have hp3 : Hid (∀ w, Lens w → Calls Tryd.prog 20 #[.string (txt x)] w fun e w' => e = .returned (.tuple #[.int .i64 x, .int .i64 0]) ∧ Below w.heap.size w w') := Lib.hid (fun w hL => by
        have := parse_tup (txt x) w hL; rw [hp1] at this; exact this)
      generalize txt x = T at *
      have HT := Lib.hid hp2
      clear hp1 hp2 x0 x1
      go_wp2_with fail
      refine (hf1.out _ (HL.out.below HB1.out)).mono ?_
      rintro e w2 ⟨rfl, hb2⟩
      have HB2 := Lib.hid (HB1.out.trans (hb2.mono HB1.out.size))
      clear hb2
      go_wp2_with fail
      refine (hf2.out _).mono ?_
      rintro e w3 ⟨rfl, hb3⟩
      have HB3 := Lib.hid (HB2.out.trans (hb3.mono HB2.out.size))
      clear hb3
      have hT := HT.out
      have c5 : 0 ≤ c % 13 := by omega
      have c6 : c % 13 < 13 := by omega
      have m0 : 0 ≤ at_ % 19 := by omega
      have m1 : at_ % 19 < 19 := by omega
      have m2 : at_ % 19 + 1 ≤ 19 := by omega
      go_upto_region 11 with (fail)
      go_cut [18] (fun p wx => ∃ D : ByteArray, p = .string D ∧ Below w3.heap.size w3 wx)
      case first =>
        have hcv : ∀ (W : World) (x : Int), W.cell? ⟨w3.heap.size, 0, none⟩ = some (.int .u8 x) → (Go.convert 44 9 (.slice (some ⟨w3.heap.size, 0, none⟩) 1 1)).run Tryd.prog W = .ok (.string (strOfNums [x])) W := fun W x hW =>
          run_convert_bytes_arg (P := Tryd.prog) W 44 5 Tryd.underlying44 Tryd.underlying5 w3.heap.size 0 1 1 [x] rfl (fun i hi => by
            obtain rfl : i = 0 := by omega
            exact hW) 9 Tryd.underlying9
        have hsz := strOfNums_size
        generalize at_ % 19 = ia at *
        have hT1 : (T.size : Int) = 19 := by omega
        have hT2 : (T.data.size : Int) = 19 := hT1
        have m3 : IntKind.i64.wrap (ia + 1) = ia + 1 := by rw [IntKind.wrap_i64]; omega
        have m7 : ia ≤ 19 := by omega
        have m8 : ¬ 9223372036854775807 < ia.toNat + 1 := by omega
        have m9 : ¬ 9223372036854775807 < ia.toNat + 1 + (19 - (ia + 1).toNat) := by omega
        have m4 : ia ≤ (T.size : Int) := by omega
        have m5 : ia + 1 ≤ (T.size : Int) := by omega
        have m6 : 0 ≤ ia + 1 := by omega
        have e13 : c.tmod 13 = c % 13 := Int.tmod_eq_emod_of_nonneg c0
        have c7 : 0 ≤ c.tmod 13 := by omega
        have c8 : c.tmod 13 < 13 := by omega
        go_region
        go_wp2_with fail
        go_meet
        refine ⟨_, rfl, ?_⟩
        repeat (first | exact Below.refl _ _ | refine Below.drew ?_ | refine Below.alloc ?_ (by simp) _)
      case rest =>
        obtain ⟨D, rfl, hbc⟩ := hcut
        have HBC := Lib.hid (HB3.out.trans (hbc.mono HB3.out.size))
        clear hbc hT c5 c6 m0 m1 m2
        go_wp2_with fail
        refine (hp3.out _ (HL.out.below HBC.out)).mono ?_
        rintro e wx ⟨rfl, hb5⟩
        have HB5 := Lib.hid (HBC.out.trans (hb5.mono HBC.out.size))
        clear hb5
        obtain ⟨W, hW⟩ : ∃ W, W = wx.alloc (.cells #[.string s, .string D] 9) := ⟨_, rfl⟩
        have hcl : ∀ i, i < 2 → ∃ x : ByteArray, W.cell? ⟨wx.heap.size, i, none⟩ = some (.string x) := by
          intro i hi
          have : i = 0 ∨ i = 1 := by omega
          rcases this with rfl | rfl
          · exact ⟨s, by rw [hW]; simp [go_sem]⟩
          · exact ⟨D, by rw [hW]; simp [go_sem]⟩
        have HCL := Lib.hid hcl
        have HBW : Hid (Below w.heap.size w W) := Lib.hid (by rw [hW]; exact HB5.out.alloc HB5.out.size _)
        have hlt1 : wx.heap.size < W.heap.size := by rw [hW]; simp
        clear hcl
        go_wp2_with fail
        rw [← hW]
        clear hW
        go_loopw [92] (fun j wr => ∃ i : Nat, i ≤ 2 ∧ j = .int .i64 i ∧ Hid (Below W.heap.size W wr)) (fun j _ => 2 - (intOf j).toNat)
        case atStart => exact ⟨0, by omega, rfl, Lib.hid (Below.refl _ _)⟩
        case round =>
          obtain ⟨i, hi3, rfl, hb⟩ := hrel
          obtain ⟨W1, rfl⟩ : ∃ W : World, W = wr := ⟨_, rfl⟩
          by_cases hlt : i < 2
          · obtain ⟨z, hz0⟩ := HCL.out i hlt
            have hz := (hb.out.cell (p := ⟨wx.heap.size, i, none⟩) hlt1).trans hz0
            clear hz0
            have HLW : Hid (Lens W1) := Lib.hid ((HL.out.below HBW.out).below hb.out)
            go_wp2_with fail
            refine (parse_tup z _ HLW.out).mono ?_
            rintro e w3 ⟨rfl, hb3⟩
            have HB3 := Lib.hid (hb.out.trans (hb3.mono hb.out.size))
            clear hb3
            go_wp2_with fail
            refine (parseTime_tup z _).mono ?_
            rintro e w4 ⟨rfl, hb4⟩
            have HB4 := Lib.hid (HB3.out.trans (hb4.mono HB3.out.size))
            clear hb4
            generalize parF z.data.toList = pz
            go_wp2_with fail
            go_roundw
            case rel => exact ⟨i + 1, by omega, by go_num, HB4⟩
            case measure => simp [intOf]; omega
          · obtain rfl : i = 2 := by omega
            go_wp2_with fail
            refine (awake_any _ ((HL.out.below HBW.out).below hb.out)).mono ?_
            rintro e w7 ⟨rfl, hb7⟩
            have HB7 := Lib.hid ((HBW.out.trans (hb.out.mono HBW.out.size)).trans (hb7.mono (by have := HBW.out.size; have := hb.out.size; omega)))
            clear hb7
            go_wp2_with fail
            go_ret
            exact ⟨rfl, HB7.out⟩
    · have hx2 : x < 0 ∨ 254033452799 < x := by omega
      have HX := Lib.hid hx2
      clear hx hx2
      go_wp2_with fail
      refine (format_no x _ HX.out).mono ?_
      rintro e w2 ⟨rfl, hb2⟩
      have HB2 := Lib.hid (HB1.out.trans (hb2.mono HB1.out.size))
      clear hb2
      go_wp2_with fail
      refine (formatTime_no x _ HX.out).mono ?_
      rintro e wx ⟨rfl, hb3⟩
      have HB3 := Lib.hid (HB2.out.trans (hb3.mono HB2.out.size))
      clear hb3
      obtain ⟨W, hW⟩ : ∃ W, W = wx.alloc (.cells #[.string s, .string s] 9) := ⟨_, rfl⟩
      have hcl : ∀ i, i < 2 → ∃ x : ByteArray, W.cell? ⟨wx.heap.size, i, none⟩ = some (.string x) := by
        intro i hi
        have : i = 0 ∨ i = 1 := by omega
        rcases this with rfl | rfl
        · exact ⟨s, by rw [hW]; simp [go_sem]⟩
        · exact ⟨s, by rw [hW]; simp [go_sem]⟩
      have HCL := Lib.hid hcl
      have HBW : Hid (Below w.heap.size w W) := Lib.hid (by rw [hW]; exact HB3.out.alloc HB3.out.size _)
      have hlt1 : wx.heap.size < W.heap.size := by rw [hW]; simp
      clear hcl
      go_wp2_with fail
      rw [← hW]
      clear hW
      go_loopw [92] (fun j wr => ∃ i : Nat, i ≤ 2 ∧ j = .int .i64 i ∧ Hid (Below W.heap.size W wr)) (fun j _ => 2 - (intOf j).toNat)
      case atStart => exact ⟨0, by omega, rfl, Lib.hid (Below.refl _ _)⟩
      case round =>
        obtain ⟨i, hi3, rfl, hb⟩ := hrel
        obtain ⟨W1, rfl⟩ : ∃ W : World, W = wr := ⟨_, rfl⟩
        by_cases hlt : i < 2
        · obtain ⟨z, hz0⟩ := HCL.out i hlt
          have hz := (hb.out.cell (p := ⟨wx.heap.size, i, none⟩) hlt1).trans hz0
          clear hz0
          have HLW : Hid (Lens W1) := Lib.hid ((HL.out.below HBW.out).below hb.out)
          go_wp2_with fail
          refine (parse_tup z _ HLW.out).mono ?_
          rintro e w3 ⟨rfl, hb3⟩
          have HB3 := Lib.hid (hb.out.trans (hb3.mono hb.out.size))
          clear hb3
          go_wp2_with fail
          refine (parseTime_tup z _).mono ?_
          rintro e w4 ⟨rfl, hb4⟩
          have HB4 := Lib.hid (HB3.out.trans (hb4.mono HB3.out.size))
          clear hb4
          generalize parF z.data.toList = pz
          go_wp2_with fail
          go_roundw
          case rel => exact ⟨i + 1, by omega, by go_num, HB4⟩
          case measure => simp [intOf]; omega
        · obtain rfl : i = 2 := by omega
          go_wp2_with fail
          refine (awake_any _ ((HL.out.below HBW.out).below hb.out)).mono ?_
          rintro e w7 ⟨rfl, hb7⟩
          have HB7 := Lib.hid ((HBW.out.trans (hb.out.mono HBW.out.size)).trans (hb7.mono (by have := HBW.out.size; have := hb.out.size; omega)))
          clear hb7
          go_wp2_with fail
          go_ret
          exact ⟨rfl, HB7.out⟩
  · have h60' : (60 : Int) < (s.size : Int) := by omega
    go_enter Tryd.func7, Tryd.ntmps7
    go_wp2_with fail
    refine (awake_any _ HL.out).mono ?_
    rintro e w7 ⟨rfl, hb7⟩
    have HB7 := Lib.hid hb7
    clear hb7
    go_wp2_with fail
    go_ret
    exact ⟨rfl, HB7.out⟩
end Go.Proofs.YtjfbmjegdjpfbaaDoor
