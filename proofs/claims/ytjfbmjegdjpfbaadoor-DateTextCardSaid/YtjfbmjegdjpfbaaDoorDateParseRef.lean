/- ParseTime of the reference comes to parF. -/
import Derived.Test.YtjfbmjegdjpfbaaDoorDateParse
import Derived.Test.YtjfbmjegdjpfbaaDoorDateDect
import Derived.Test.YtjfbmjegdjpfbaaDoorDateFmtRef
import Derived.Deep.RegionHeld3
import Derived.Deep.DeepCutAuto
namespace Go.Proofs.YtjfbmjegdjpfbaaDoor
open Go Go.RowKit

theorem U8_toNat (c : UInt8) : U8 (c.toNat : Int) = c := by
  unfold U8; simp
theorem back2 {a b : UInt8} (h : 0 ≤ numL [a, b]) : (digs (numL [a, b]) 2).map U8 = [a, b] := by
  have hall := numL_all h
  rw [numL_some hall]
  simp only [List.all_cons, List.all_nil, Bool.and_true, Bool.and_eq_true, isDig, decide_eq_true_eq] at hall
  have e : valL [a, b] = 10 * ((a.toNat : Int) - 48) + ((b.toNat : Int) - 48) := by simp [valL]
  rw [e, digs_two (by omega) (by omega), show 48 + (10 * ((a.toNat : Int) - 48) + ((b.toNat : Int) - 48)) / 10 = (a.toNat : Int) from by omega, show 48 + (10 * ((a.toNat : Int) - 48) + ((b.toNat : Int) - 48)) % 10 = (b.toNat : Int) from by omega]
  simp [U8_toNat]
theorem back4 {a b c d : UInt8} (h : 0 ≤ numL [a, b, c, d]) : (digs (numL [a, b, c, d]) 4).map U8 = [a, b, c, d] := by
  have hall := numL_all h
  rw [numL_some hall]
  simp only [List.all_cons, List.all_nil, Bool.and_true, Bool.and_eq_true, isDig, decide_eq_true_eq] at hall
  have e : valL [a, b, c, d] = 1000 * ((a.toNat : Int) - 48) + 100 * ((b.toNat : Int) - 48) + 10 * ((c.toNat : Int) - 48) + ((d.toNat : Int) - 48) := by simp [valL]; omega
  rw [e, digs_four (by omega) (by omega)]
  have e1 : 48 + (1000 * ((a.toNat : Int) - 48) + 100 * ((b.toNat : Int) - 48) + 10 * ((c.toNat : Int) - 48) + ((d.toNat : Int) - 48)) / 10 / 10 / 10 = (a.toNat : Int) := by omega
  have e2 : 48 + (1000 * ((a.toNat : Int) - 48) + 100 * ((b.toNat : Int) - 48) + 10 * ((c.toNat : Int) - 48) + ((d.toNat : Int) - 48)) / 10 / 10 % 10 = (b.toNat : Int) := by omega
  have e3 : 48 + (1000 * ((a.toNat : Int) - 48) + 100 * ((b.toNat : Int) - 48) + 10 * ((c.toNat : Int) - 48) + ((d.toNat : Int) - 48)) / 10 % 10 = (c.toNat : Int) := by omega
  have e4 : 48 + (1000 * ((a.toNat : Int) - 48) + 100 * ((b.toNat : Int) - 48) + 10 * ((c.toNat : Int) - 48) + ((d.toNat : Int) - 48)) % 10 = (d.toNat : Int) := by omega
  rw [e1, e2, e3, e4]
  simp [U8_toNat]
theorem fmt_back {l : List UInt8} (hl : l.length = 19) (hv : DM.Valid (dateOf l)) : (fmtL (dateOf l)).map U8 = l ↔ ∀ i, i < 5 → SepOk l i := by
  obtain ⟨a0, a1, a2, a3, a4, a5, a6, a7, a8, a9, b0, b1, b2, b3, b4, b5, b6, b7, b8, rfl⟩ : ∃ a0 a1 a2 a3 a4 a5 a6 a7 a8 a9 b0 b1 b2 b3 b4 b5 b6 b7 b8, l = [a0, a1, a2, a3, a4, a5, a6, a7, a8, a9, b0, b1, b2, b3, b4, b5, b6, b7, b8] := by
    match l, hl with
    | [a0, a1, a2, a3, a4, a5, a6, a7, a8, a9, b0, b1, b2, b3, b4, b5, b6, b7, b8], _ => exact ⟨a0, a1, a2, a3, a4, a5, a6, a7, a8, a9, b0, b1, b2, b3, b4, b5, b6, b7, b8, rfl⟩
  have ed : dateOf [a0, a1, a2, a3, a4, a5, a6, a7, a8, a9, b0, b1, b2, b3, b4, b5, b6, b7, b8] = ⟨numL [a0, a1, a2, a3], numL [a5, a6], numL [a8, a9], numL [b1, b2], numL [b4, b5], numL [b7, b8]⟩ := rfl
  rw [ed] at hv ⊢
  simp only [DM.Valid] at hv
  obtain ⟨v1, _, v3, _, v5, _, v7, _, v9, _, v11, _⟩ := hv
  simp only [fmtL, pre, fld, sepI, List.map_append, List.map_cons, List.map_nil]
  rw [back4 (by omega), back2 (by omega), back2 (by omega), back2 (by omega), back2 (by omega), back2 (by omega)]
  simp only [List.cons_append, List.nil_append, List.cons.injEq, true_and, and_true]
  constructor
  · rintro ⟨h0, h1, h2, h3, h4⟩ i hi
    have : i = 0 ∨ i = 1 ∨ i = 2 ∨ i = 3 ∨ i = 4 := by omega
    rcases this with rfl | rfl | rfl | rfl | rfl
    · exact h0.symm
    · exact h1.symm
    · exact h2.symm
    · exact h3.symm
    · exact h4.symm
  · intro h
    exact ⟨(h 0 (by omega)).symm, (h 1 (by omega)).symm, (h 2 (by omega)).symm, (h 3 (by omega)).symm, (h 4 (by omega)).symm⟩
theorem txt_back {s : ByteArray} (hl : s.data.toList.length = 19) (hv : DM.Valid (dateOf s.data.toList)) : (txt (DM.sec (dateOf s.data.toList))).toList = s.toList ↔ ∀ i, i < 5 → SepOk s.data.toList i := by
  rw [← fmt_back hl hv, txt, DM.civ_eq hv rfl, str_list, ByteArray.toList_eq]
theorem formatTime_txt (t : Int) (w : World) (h0 : 0 ≤ t) (h1 : t ≤ 254033452799) :
    Calls Tryd.prog 19 #[.int .i64 t] w fun e w' => e = .returned (.tuple #[.string (txt t), .int .i64 0]) ∧ Below w.heap.size w w' := formatTime_yes t w h0 h1

set_option maxRecDepth 100000 in
set_option maxHeartbeats 8000000 in
theorem parseTime_any (s : ByteArray) (w : World) :
    Calls Tryd.prog 21 #[.string s] w fun e w' => e = .returned (two (parF s.data.toList)) ∧ Below w.heap.size w w' := by
  by_cases hlen : s.size = 19
  · have hsz : s.data.toList.length = 19 := by simpa using hlen
    have HSZ := Lib.hid hsz
    have HLEN := Lib.hid hlen
    have n4 : 4 ≤ s.size := by omega
    have n5 : 5 ≤ s.size := by omega
    have n7 : 7 ≤ s.size := by omega
    have n8 : 8 ≤ s.size := by omega
    have n10 : 10 ≤ s.size := by omega
    have n11 : 11 ≤ s.size := by omega
    have n13 : 13 ≤ s.size := by omega
    have n14 : 14 ≤ s.size := by omega
    have n16 : 16 ≤ s.size := by omega
    have n17 : 17 ≤ s.size := by omega
    have l1 : ((s.size : Int) != 19) = false := by simp; omega
    clear hsz
    have NN := Lib.hid (And.intro n4 (And.intro n5 (And.intro n7 (And.intro n8 (And.intro n10 (And.intro n11 (And.intro n13 (And.intro n14 (And.intro n16 n17)))))))))
    clear n4 n5 n7 n8 n10 n11 n13 n14 n16 n17
    go_enter Tryd.func21, Tryd.ntmps21
    go_upto_region 3 with (fail)
    go_cut [4] (fun p wx => ∃ g : Nat, p = .pointer (some ⟨g, 0, none⟩) ∧ wx.cell? ⟨g, 0, none⟩ = some (.int .i64 (numL (s.data.toList.take 4))) ∧ wx.cell? ⟨g, 1, none⟩ = some (.int .i64 (numL ((s.data.toList.drop 5).take 2))) ∧
        wx.cell? ⟨g, 2, none⟩ = some (.int .i64 (numL ((s.data.toList.drop 8).take 2))) ∧ wx.cell? ⟨g, 3, none⟩ = some (.int .i64 (numL ((s.data.toList.drop 11).take 2))) ∧ wx.cell? ⟨g, 4, none⟩ = some (.int .i64 (numL ((s.data.toList.drop 14).take 2))) ∧ wx.cell? ⟨g, 5, none⟩ = some (.int .i64 (numL ((s.data.toList.drop 17).take 2))) ∧ Below w.heap.size w wx)
    case first =>
      obtain ⟨n4, n5, n7, n8, n10, n11, n13, n14, n16, n17⟩ := NN.out
      go_region_held3 (fun _ => True) (trivial)
        (first | (go_at_call 31; refine (digits_any _ _ ?hq).mono ?_; (case hq => rw [ByteArray.size_extract]; omega); rintro e w1 ⟨rfl, rfl⟩))
      all_goals (go_wp2_with fail; go_meet; exact ⟨w.heap.size, rfl, by simp [go_sem], by simp [go_sem], by simp [go_sem], by simp [go_sem], by simp [go_sem], by simp [go_sem], by
        repeat (first | exact Below.refl _ _ | refine Below.drew ?_ | refine Below.alloc ?_ (by simp) _)⟩)
    case rest =>
      obtain ⟨g, rfl, q0, q1, q2, q3, q4, q5, hbc⟩ := hcut
      have HBC := Lib.hid hbc
      clear hbc
      by_cases hv : DM.Valid (dateOf s.data.toList)
      · have hS : Hid (∀ w, Calls Tryd.prog 14 #[.agg #[.int .i64 (numL (s.data.toList.take 4)), .int .i64 (numL ((s.data.toList.drop 5).take 2)), .int .i64 (numL ((s.data.toList.drop 8).take 2)), .int .i64 (numL ((s.data.toList.drop 11).take 2)), .int .i64 (numL ((s.data.toList.drop 14).take 2)), .int .i64 (numL ((s.data.toList.drop 17).take 2))]] w fun e w' => e = .returned (.tuple #[.int .i64 (DM.sec (dateOf s.data.toList)), .int .i64 0]) ∧ Below w.heap.size w w') := Lib.hid (fun w => refSec_yes (dateOf s.data.toList) w hv)
        have hbk := txt_back HSZ.out hv
        have hbd := DM.sec_bd hv
        have hF : Hid (∀ w, Calls Tryd.prog 19 #[.int .i64 (DM.sec (dateOf s.data.toList))] w fun e w' => e = .returned (.tuple #[.string (txt (DM.sec (dateOf s.data.toList))), .int .i64 0]) ∧ Below w.heap.size w w') := Lib.hid (fun w => formatTime_txt _ w hbd.1 hbd.2)
        by_cases hsep : ∀ i, i < 5 → SepOk s.data.toList i
        · have hpar := parF_ok HSZ.out hsep
          rw [secF_yes hv] at hpar
          have heq : (txt (DM.sec (dateOf s.data.toList))).toList = s.toList := hbk.2 hsep
          have HPAR := Lib.hid hpar
          generalize txt (DM.sec (dateOf s.data.toList)) = T at heq hF
          generalize DM.sec (dateOf s.data.toList) = tm at hS hF HPAR
          have HEQ := Lib.hid heq
          clear hv hbk hbd hsep hpar heq
          go_wp2_with fail
          refine (hS.out _).mono ?_
          rintro e w2 ⟨rfl, hb2⟩
          have HB2 := Lib.hid (HBC.out.trans (hb2.mono HBC.out.size))
          clear hb2
          go_wp2_with fail
          refine (hF.out _).mono ?_
          rintro e w3 ⟨rfl, hb3⟩
          have HB3 := Lib.hid (HB2.out.trans (hb3.mono HB2.out.size))
          clear hb3
          have heq := HEQ.out
          go_wp2_with fail
          go_ret2
          refine ⟨?_, HB3.out⟩
          rw [HPAR.out]; rfl
        · have hpar : parF s.data.toList = (0, 12) := by
            unfold parF; rw [if_neg]
            rintro ⟨_, q0, q1, q2, q3, q4⟩
            exact hsep (fun i hi => by
              have : i = 0 ∨ i = 1 ∨ i = 2 ∨ i = 3 ∨ i = 4 := by omega
              rcases this with rfl | rfl | rfl | rfl | rfl <;> assumption)
          have heq : ((txt (DM.sec (dateOf s.data.toList))).toList == s.toList) = false := by rw [beq_eq_false_iff_ne]; exact fun h => hsep (hbk.1 h)
          have HPAR := Lib.hid hpar
          generalize txt (DM.sec (dateOf s.data.toList)) = T at heq hF
          generalize DM.sec (dateOf s.data.toList) = tm at hS hF
          have HEQ := Lib.hid heq
          clear hv hbk hbd hsep hpar heq
          go_wp2_with fail
          refine (hS.out _).mono ?_
          rintro e w2 ⟨rfl, hb2⟩
          have HB2 := Lib.hid (HBC.out.trans (hb2.mono HBC.out.size))
          clear hb2
          go_wp2_with fail
          refine (hF.out _).mono ?_
          rintro e w3 ⟨rfl, hb3⟩
          have HB3 := Lib.hid (HB2.out.trans (hb3.mono HB2.out.size))
          clear hb3
          have heq := HEQ.out
          go_wp2_with fail
          go_ret2
          refine ⟨?_, HB3.out⟩
          rw [HPAR.out]; rfl
      · have hS : Hid (∀ w, Calls Tryd.prog 14 #[.agg #[.int .i64 (numL (s.data.toList.take 4)), .int .i64 (numL ((s.data.toList.drop 5).take 2)), .int .i64 (numL ((s.data.toList.drop 8).take 2)), .int .i64 (numL ((s.data.toList.drop 11).take 2)), .int .i64 (numL ((s.data.toList.drop 14).take 2)), .int .i64 (numL ((s.data.toList.drop 17).take 2))]] w fun e w' => e = .returned (.tuple #[.int .i64 0, .int .i64 12]) ∧ Below w.heap.size w w') := Lib.hid (fun w => refSec_no (dateOf s.data.toList) w hv)
        have hpar : parF s.data.toList = (0, 12) := by
          unfold parF; split
          · exact secF_no hv
          · rfl
        have HPAR := Lib.hid hpar
        clear hv hpar
        go_wp2_with fail
        refine (hS.out _).mono ?_
        rintro e w2 ⟨rfl, hb2⟩
        have HB2 := Lib.hid (HBC.out.trans (hb2.mono HBC.out.size))
        clear hb2
        go_wp2_with fail
        go_ret2
        refine ⟨?_, HB2.out⟩
        rw [HPAR.out]; rfl
  · have l1 : ((s.size : Int) != 19) = true := by rw [bne_iff_ne]; omega
    have hsz : s.data.toList.length ≠ 19 := by simpa using hlen
    go_enter Tryd.func21, Tryd.ntmps21
    go_wp2_with fail
    go_ret2
    refine ⟨?_, Below.refl _ _⟩
    rw [parF_len hsz]; rfl
end Go.Proofs.YtjfbmjegdjpfbaaDoor
