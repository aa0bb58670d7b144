/- Encode of the program returns the element of the text of a time. -/
import Derived.Test.YtjfbmjegdjpfbaaDoorDateFmt
import Derived.Test.YtjfbmjegdjpfbaaDoorDateTlv
import Derived.Test.YtjfbmjegdjpfbaaDoorDateEncRef
namespace Go.Proofs.YtjfbmjegdjpfbaaDoor
open Go Go.RowKit

/-- The contents up to field i, without the zone. -/
def preE (x : DM.D6) (l : List Int) : Nat → List Int
  | 0 => l
  | i + 1 => preE x l i ++ digs (fld x i) 2
theorem preE_len (x : DM.D6) (l : List Int) (i : Nat) : (preE x l i).length = l.length + 2 * i := by
  induction i with
  | zero => rfl
  | succ i ih => simp [preE, ih, digs_len]; omega
theorem preE_all (x : DM.D6) (l : List Int) : preE x l 5 ++ [90] = l ++ restL x := by
  simp [preE, restL, fld]
theorem der_lo {x : DM.D6} (h : x.y < 2050) : derL x = [23, 13] ++ (preE x (digs (x.y % 100) 2) 5 ++ [90]) := by
  have hl := contL_len x
  rw [if_pos h] at hl
  rw [preE_all, derL, hl]
  simp only [tagOf, contL, if_pos h]
  rfl
theorem der_hi {x : DM.D6} (h : ¬ x.y < 2050) : derL x = [24, 15] ++ (preE x (digs x.y 4) 5 ++ [90]) := by
  have hl := contL_len x
  rw [if_neg h] at hl
  rw [preE_all, derL, hl]
  simp only [tagOf, contL, if_neg h]
  rfl

set_option maxRecDepth 100000 in
set_option maxHeartbeats 8000000 in
theorem encode_yes (t : Int) (w : World) (h0 : 0 ≤ t) (h1 : t ≤ 254033452799) (hL : Lens w) :
    Calls Tryd.prog 22 #[.int .i64 t] w fun e w' => e = .returned (.tuple #[.string (der t), .int .i64 0]) ∧ Below w.heap.size w w' := by
  have HX := Lib.hid (show der t = strOfNums (derL (DM.civ t)) from rfl)
  go_enter Tryd.func22, Tryd.ntmps22
  go_wp2_with fail
  refine (civil_tup t _ h0 h1 hL).mono ?_
  rintro e w1 ⟨rfl, hv, hs, hb1⟩
  generalize DM.civ t = x at hv hs HX ⊢
  have hfl : ∀ i, 0 ≤ fld x i ∧ fld x i ≤ 1000000 := by
    obtain ⟨v1, v2, v3, v4, v5, v6, v7, v8, v9, v10, v11, v12⟩ := hv
    have db := DM.dim_bd x.y x.m
    intro i
    match i with
    | 0 | 1 | 2 | 3 | 4 => simp only [fld]; omega
    | i + 5 => simp only [fld]; omega
  have HFL := Lib.hid hfl
  have y0 : 0 ≤ x.y := by have := hv.1; omega
  have y1 : x.y ≤ 9999 := hv.2.1
  have hb2 : Below w.heap.size w (w1.alloc (.cells #[.int .i64 x.y, .int .i64 x.m, .int .i64 x.d, .int .i64 x.h, .int .i64 x.mi, .int .i64 x.s] 27)) := hb1.alloc hb1.size _
  have HB2 := Lib.hid hb2
  clear hb1 hs hv hfl hb2 hL
  by_cases hy : x.y < 2050
  · go_wp2_with fail
    refine (put_any (w1.heap.size + 1) (.slice none 0 0) [] (x.y % 100) 2 _ (by simp) (by simp) (by omega) (by omega) (World.ownsRow_nil _ _ _ _)).mono ?_
    rintro e w3 ⟨v3, rfl, ho, hg, hat⟩
    have hbel := below_of_grown hg
    rw [World.size_alloc] at hbel
    obtain ⟨c0, c1, c2, c3, c4, c5⟩ := six_later' hbel
    have HB3 := Lib.hid (HB2.out.trans (hbel.mono (by have := HB2.out.size; simpa using this)))
    have HO := Lib.hid (show OwnB w3 (w1.heap.size + 1) v3 (preE x (digs (x.y % 100) 2) 0) from ho)
    have hs3 : w1.heap.size + 1 ≤ w3.heap.size := by have := hbel.size; simpa using this
    obtain ⟨W4, hW4⟩ : ∃ W, W = w3.alloc (.cells #[.int .i64 x.m, .int .i64 x.d, .int .i64 x.h, .int .i64 x.mi, .int .i64 x.s] 3) := ⟨_, rfl⟩
    have hcl : ∀ i, i < 5 → W4.cell? ⟨w3.heap.size, i, none⟩ = some (.int .i64 (fld x i)) := by
      intro i hi
      have : i = 0 ∨ i = 1 ∨ i = 2 ∨ i = 3 ∨ i = 4 := by omega
      rcases this with rfl | rfl | rfl | rfl | rfl <;> rw [hW4] <;> simp [go_sem, fld]
    have hv3 : some w3.heap.size ≠ v3.ownBlock := fun e => by have := (World.ownsRow.lt HO.out _ e.symm).2; omega
    have HCL := Lib.hid hcl
    have HV3 := Lib.hid hv3
    have HO4 : Hid (OwnB W4 (w1.heap.size + 1) v3 (preE x (digs (x.y % 100) 2) 0)) := Lib.hid (by rw [hW4]; exact World.ownsRow.alloc HO.out _)
    have HB4 : Hid (Below w.heap.size w W4) := Lib.hid (by rw [hW4]; exact HB3.out.alloc HB3.out.size _)
    have hs4 : w3.heap.size < W4.heap.size := by rw [hW4]; simp
    have hs2 : w.heap.size ≤ w1.heap.size + 1 := by have := HB2.out.size; simpa using this
    have HB5 := Lib.hid (And.intro (And.intro hs2 hs4) hs3)
    clear ho hg hat hbel hcl hv3 hs2 hs4 hs3
    go_wp2_with fail
    rw [← hW4]
    clear hW4
    go_loopw [7, 40] (fun s j wr => ∃ i : Nat, i ≤ 5 ∧ j = .int .i64 i ∧ Hid (OwnB wr (w1.heap.size + 1) s (preE x (digs (x.y % 100) 2) i)) ∧ Hid (W4.grownBy wr v3.ownBlock) ∧ Hid (s.ownBlock = v3.ownBlock ∨ ∀ g, s.ownBlock = some g → W4.heap.size ≤ g)) (fun _ j _ => 5 - (intOf j).toNat)
    case atStart => exact ⟨0, by omega, rfl, HO4, Lib.hid (grown_refl _ _), Lib.hid (.inl rfl)⟩
    case round =>
      obtain ⟨i, hi5, rfl, ho, hg, hw⟩ := hrel
      obtain ⟨W, rfl⟩ : ∃ W : World, W = wr := ⟨_, rfl⟩
      by_cases hlt : i < 5
      · have hc := hg.out.cell (HCL.out i hlt) HV3.out
        have HF := Lib.hid (HFL.out i)
        have hlen := Lib.hid (preE_len x (digs (x.y % 100) 2) i)
        have hbase : w1.heap.size + 1 ≤ W.heap.size := by have := HB5.out; have := hg.out.size; omega
        go_wp2_with fail
        refine (put_any (w1.heap.size + 1) _ _ (fld x i) 2 _ hbase (by simp [hlen.out, digs_len]; omega) HF.out.1 HF.out.2 ho.out).mono ?_
        rintro e w6 ⟨v6, rfl, ho6, hg6, hat6⟩
        have o2 : Hid (OwnB w6 (w1.heap.size + 1) v6 (preE x (digs (x.y % 100) 2) (i + 1))) := Lib.hid ho6
        have g2 : Hid (W4.grownBy w6 v3.ownBlock) := Lib.hid (grown_step hg.out hg6 hw.out)
        have a2 : Hid (v6.ownBlock = v3.ownBlock ∨ ∀ g, v6.ownBlock = some g → W4.heap.size ≤ g) := Lib.hid (by
          rcases hat6 with h | h
          · rw [h]; exact hw.out
          · exact .inr fun g hgg => Nat.le_trans hg.out.size (h g hgg))
        clear ho6 hg6 hat6
        go_wp2_with fail
        go_roundw
        case rel => exact ⟨i + 1, by omega, by go_num, o2, g2, a2⟩
        case measure => simp [intOf]; omega
      · obtain rfl : i = 5 := by omega
        have hlen : (preE x (digs (x.y % 100) 2) 5).length = 12 := by rw [preE_len]; simp [digs_len]
        obtain ⟨g, c, rfl, hg1, hg2⟩ := ho.out.at_ (by omega)
        have hcv := run_convert_bytes_arg (P := Tryd.prog) W 44 5 Tryd.underlying44 Tryd.underlying5 g 0 (preE x (digs (x.y % 100) 2) 5).length c (preE x (digs (x.y % 100) 2) 5) rfl (fun i hi => by
          rw [Nat.zero_add, World.ownsRow.cellAt ho.out i (by omega)]
          simp [List.getD, List.getElem?_eq_getElem hi]) 9 Tryd.underlying9
        have HLEN := Lib.hid hlen
        clear hlen
        go_wp2_with fail
        have hsa : (strOfNums (preE x (digs (x.y % 100) 2) 5)).size = 12 := by rw [strOfNums_size, HLEN.out]
        refine (tlv_two 23 (strOfNums (preE x (digs (x.y % 100) 2) 5)) ⟨#[90]⟩ W.heap.size _ (.inl rfl) (by rw [hsa]; decide) (by simp [go_sem]) (by simp [go_sem]) (by simp)).mono ?_
        rintro e w7 ⟨rfl, hb7⟩
        have HB7 := Lib.hid hb7
        clear hb7
        go_wp2_with fail
        go_ret2
        have hbW := Below.grown HB4.out hg.out HB4.out.size (fun k hk => by have := (World.ownsRow.lt HO4.out k hk).1; have := HB5.out; omega)
        refine ⟨?_, (hbW.alloc hbW.size _).trans (HB7.out.mono (by have := hbW.size; simp; omega))⟩
        rw [HX.out, der_lo hy, show (⟨#[90]⟩ : ByteArray) = strOfNums [90] from rfl, str_app, str_app]
        rfl
  · go_wp2_with fail
    refine (put_any (w1.heap.size + 1) (.slice none 0 0) [] (x.y % 100) 2 _ (by simp) (by simp) (by omega) (by omega) (World.ownsRow_nil _ _ _ _)).mono ?_
    rintro e w3 ⟨v3, rfl, ho, hg, hat⟩
    have hbel := below_of_grown hg
    rw [World.size_alloc] at hbel
    obtain ⟨c0, c1, c2, c3, c4, c5⟩ := six_later' hbel
    have HBL := Lib.hid hbel
    clear ho hg hat hbel
    go_wp2_with fail
    refine (put_any (w1.heap.size + 1) (.slice none 0 0) [] x.y 4 _ (by have := HBL.out.size; simpa using this) (by simp) y0 (by omega) (World.ownsRow_nil _ _ _ _)).mono ?_
    clear c0 c1 c2 c3 c4 c5
    rintro e w3 ⟨v3, rfl, ho, hg, hat⟩
    have hbel := HBL.out.trans ((below_of_grown hg).mono (by have := HBL.out.size; simpa using this))
    clear HBL
    obtain ⟨c0, c1, c2, c3, c4, c5⟩ := six_later' hbel
    have HB3 := Lib.hid (HB2.out.trans (hbel.mono (by have := HB2.out.size; simpa using this)))
    have HO := Lib.hid (show OwnB w3 (w1.heap.size + 1) v3 (preE x (digs x.y 4) 0) from ho)
    have hs3 : w1.heap.size + 1 ≤ w3.heap.size := by have := hbel.size; simpa using this
    obtain ⟨W4, hW4⟩ : ∃ W, W = w3.alloc (.cells #[.int .i64 x.m, .int .i64 x.d, .int .i64 x.h, .int .i64 x.mi, .int .i64 x.s] 3) := ⟨_, rfl⟩
    have hcl : ∀ i, i < 5 → W4.cell? ⟨w3.heap.size, i, none⟩ = some (.int .i64 (fld x i)) := by
      intro i hi
      have : i = 0 ∨ i = 1 ∨ i = 2 ∨ i = 3 ∨ i = 4 := by omega
      rcases this with rfl | rfl | rfl | rfl | rfl <;> rw [hW4] <;> simp [go_sem, fld]
    have hv3 : some w3.heap.size ≠ v3.ownBlock := fun e => by have := (World.ownsRow.lt HO.out _ e.symm).2; omega
    have HCL := Lib.hid hcl
    have HV3 := Lib.hid hv3
    have HO4 : Hid (OwnB W4 (w1.heap.size + 1) v3 (preE x (digs x.y 4) 0)) := Lib.hid (by rw [hW4]; exact World.ownsRow.alloc HO.out _)
    have HB4 : Hid (Below w.heap.size w W4) := Lib.hid (by rw [hW4]; exact HB3.out.alloc HB3.out.size _)
    have hs4 : w3.heap.size < W4.heap.size := by rw [hW4]; simp
    have hs2 : w.heap.size ≤ w1.heap.size + 1 := by have := HB2.out.size; simpa using this
    have HB5 := Lib.hid (And.intro (And.intro hs2 hs4) hs3)
    clear ho hg hat hbel hcl hv3 hs2 hs4 hs3
    go_wp2_with fail
    rw [← hW4]
    clear hW4
    go_loopw [7, 40] (fun s j wr => ∃ i : Nat, i ≤ 5 ∧ j = .int .i64 i ∧ Hid (OwnB wr (w1.heap.size + 1) s (preE x (digs x.y 4) i)) ∧ Hid (W4.grownBy wr v3.ownBlock) ∧ Hid (s.ownBlock = v3.ownBlock ∨ ∀ g, s.ownBlock = some g → W4.heap.size ≤ g)) (fun _ j _ => 5 - (intOf j).toNat)
    case atStart => exact ⟨0, by omega, rfl, HO4, Lib.hid (grown_refl _ _), Lib.hid (.inl rfl)⟩
    case round =>
      obtain ⟨i, hi5, rfl, ho, hg, hw⟩ := hrel
      obtain ⟨W, rfl⟩ : ∃ W : World, W = wr := ⟨_, rfl⟩
      by_cases hlt : i < 5
      · have hc := hg.out.cell (HCL.out i hlt) HV3.out
        have HF := Lib.hid (HFL.out i)
        have hlen := Lib.hid (preE_len x (digs x.y 4) i)
        have hbase : w1.heap.size + 1 ≤ W.heap.size := by have := HB5.out; have := hg.out.size; omega
        go_wp2_with fail
        refine (put_any (w1.heap.size + 1) _ _ (fld x i) 2 _ hbase (by simp [hlen.out, digs_len]; omega) HF.out.1 HF.out.2 ho.out).mono ?_
        rintro e w6 ⟨v6, rfl, ho6, hg6, hat6⟩
        have o2 : Hid (OwnB w6 (w1.heap.size + 1) v6 (preE x (digs x.y 4) (i + 1))) := Lib.hid ho6
        have g2 : Hid (W4.grownBy w6 v3.ownBlock) := Lib.hid (grown_step hg.out hg6 hw.out)
        have a2 : Hid (v6.ownBlock = v3.ownBlock ∨ ∀ g, v6.ownBlock = some g → W4.heap.size ≤ g) := Lib.hid (by
          rcases hat6 with h | h
          · rw [h]; exact hw.out
          · exact .inr fun g hgg => Nat.le_trans hg.out.size (h g hgg))
        clear ho6 hg6 hat6
        go_wp2_with fail
        go_roundw
        case rel => exact ⟨i + 1, by omega, by go_num, o2, g2, a2⟩
        case measure => simp [intOf]; omega
      · obtain rfl : i = 5 := by omega
        have hlen : (preE x (digs x.y 4) 5).length = 14 := by rw [preE_len]; simp [digs_len]
        obtain ⟨g, c, rfl, hg1, hg2⟩ := ho.out.at_ (by omega)
        have hcv := run_convert_bytes_arg (P := Tryd.prog) W 44 5 Tryd.underlying44 Tryd.underlying5 g 0 (preE x (digs x.y 4) 5).length c (preE x (digs x.y 4) 5) rfl (fun i hi => by
          rw [Nat.zero_add, World.ownsRow.cellAt ho.out i (by omega)]
          simp [List.getD, List.getElem?_eq_getElem hi]) 9 Tryd.underlying9
        have HLEN := Lib.hid hlen
        clear hlen
        go_wp2_with fail
        have hsa : (strOfNums (preE x (digs x.y 4) 5)).size = 14 := by rw [strOfNums_size, HLEN.out]
        refine (tlv_two 24 (strOfNums (preE x (digs x.y 4) 5)) ⟨#[90]⟩ W.heap.size _ (.inr rfl) (by rw [hsa]; decide) (by simp [go_sem]) (by simp [go_sem]) (by simp)).mono ?_
        rintro e w7 ⟨rfl, hb7⟩
        have HB7 := Lib.hid hb7
        clear hb7
        go_wp2_with fail
        go_ret2
        have hbW := Below.grown HB4.out hg.out HB4.out.size (fun k hk => by have := (World.ownsRow.lt HO4.out k hk).1; have := HB5.out; omega)
        refine ⟨?_, (hbW.alloc hbW.size _).trans (HB7.out.mono (by have := hbW.size; simp; omega))⟩
        rw [HX.out, der_hi (by omega), show (⟨#[90]⟩ : ByteArray) = strOfNums [90] from rfl, str_app, str_app]
        rfl

theorem encode_no (t : Int) (w : World) (h : t < 0 ∨ 254033452799 < t) :
    Calls Tryd.prog 22 #[.int .i64 t] w fun e w' => e = .returned (.tuple #[.string ⟨#[]⟩, .int .i64 1]) ∧ Below w.heap.size w w' := by
  go_enter Tryd.func22, Tryd.ntmps22
  go_wp2_with fail
  refine (civil_no t _ h).mono ?_
  rintro e w1 ⟨rfl, hb1⟩
  unfold dval
  have HB1 := Lib.hid hb1
  clear hb1
  go_wp2_with fail
  go_ret2
  exact ⟨rfl, HB1.out.alloc HB1.out.size _⟩
end Go.Proofs.YtjfbmjegdjpfbaaDoor
