/- Format of the program returns the text of the date of a time. -/
import Derived.Test.YtjfbmjegdjpfbaaDoorDateCivil
import Derived.Test.YtjfbmjegdjpfbaaDoorDatePut
import Derived.Laws.BytesArg
namespace Go.Proofs.YtjfbmjegdjpfbaaDoor
open Go Go.RowKit

def sepI : Nat → Int
  | 0 => 45
  | 1 => 45
  | 2 => 32
  | _ => 58
theorem sep_at (i : Nat) (h : i < 5) : (((⟨#[45, 45, 32, 58, 58]⟩ : ByteArray)[i]'h).toNat : Int) = sepI i := by
  have : i = 0 ∨ i = 1 ∨ i = 2 ∨ i = 3 ∨ i = 4 := by omega
  rcases this with rfl | rfl | rfl | rfl | rfl <;> rfl
def fld (x : DM.D6) : Nat → Int
  | 0 => x.m
  | 1 => x.d
  | 2 => x.h
  | 3 => x.mi
  | _ => x.s
/-- The text of a date up to field i, as bytes. -/
def pre (x : DM.D6) : Nat → List Int
  | 0 => digs x.y 4
  | i + 1 => pre x i ++ [sepI i] ++ digs (fld x i) 2
def fmtL (x : DM.D6) : List Int := pre x 5
theorem below_of_grown {w w' : World} (h : w.grownBy w' none) : Below w.heap.size w w' := ⟨h.os, h.tape, h.output, h.size, fun k hk => h.block k hk (by simp)⟩
theorem six_later' {w wr : World} {a b c d e f : Value} {T : TypeId} (hb : Below (w.heap.size + 1) (w.alloc (.cells #[a, b, c, d, e, f] T)) wr) :
    wr.cell? ⟨w.heap.size, 0, none⟩ = some a ∧ wr.cell? ⟨w.heap.size, 1, none⟩ = some b ∧ wr.cell? ⟨w.heap.size, 2, none⟩ = some c ∧ wr.cell? ⟨w.heap.size, 3, none⟩ = some d ∧ wr.cell? ⟨w.heap.size, 4, none⟩ = some e ∧ wr.cell? ⟨w.heap.size, 5, none⟩ = some f := by
  have hc : ∀ i, wr.cell? ⟨w.heap.size, i, none⟩ = (w.alloc (.cells #[a, b, c, d, e, f] T)).cell? ⟨w.heap.size, i, none⟩ := fun i => hb.cell (p := ⟨w.heap.size, i, none⟩) (by simp)
  refine ⟨?_, ?_, ?_, ?_, ?_, ?_⟩
  iterate 6 (rw [hc]; simp [go_sem])
theorem pre_len (x : DM.D6) (i : Nat) : (pre x i).length = 4 + 3 * i := by
  induction i with
  | zero => rfl
  | succ i ih => simp [pre, ih, digs_len]; omega

theorem civil_tup (t : Int) (w : World) (h0 : 0 ≤ t) (h1 : t ≤ 254033452799) (hL : Lens w) :
    Calls Tryd.prog 10 #[.int .i64 t] w fun e w' => e = .returned (.tuple #[.agg #[.int .i64 (DM.civ t).y, .int .i64 (DM.civ t).m, .int .i64 (DM.civ t).d, .int .i64 (DM.civ t).h, .int .i64 (DM.civ t).mi, .int .i64 (DM.civ t).s], .int .i64 0]) ∧
      DM.Valid (DM.civ t) ∧ DM.sec (DM.civ t) = t ∧ Below w.heap.size w w' := civil_yes t w h0 h1 hL


set_option maxHeartbeats 8000000 in
theorem format_yes (t : Int) (w : World) (h0 : 0 ≤ t) (h1 : t ≤ 254033452799) (hL : Lens w) :
    Calls Tryd.prog 18 #[.int .i64 t] w fun e w' => e = .returned (.tuple #[.string (strOfNums (fmtL (DM.civ t))), .int .i64 0]) ∧ Below w.heap.size w w' := by
  obtain ⟨i0, hi, hz0, hz1, hz2⟩ := info_parts infoU8
  go_enter Tryd.func18, Tryd.ntmps18
  go_wp2_with fail
  refine (civil_tup t _ h0 h1 hL).mono ?_
  rintro e w1 ⟨rfl, hv, hs, hb1⟩
  generalize hx : DM.civ t = x at hv hs ⊢
  have HX := Lib.hid hx
  clear hx
  have hfl : ∀ i, 0 ≤ fld x i ∧ fld x i ≤ 1000000 := by
    obtain ⟨v1, v2, v3, v4, v5, v6, v7, v8, v9, v10, v11, v12⟩ := hv
    have db := DM.dim_bd x.y x.m
    intro i
    match i with
    | 0 | 1 | 2 | 3 | 4 => simp only [fld]; omega
    | i + 5 => simp only [fld]; omega
  have HFL := Lib.hid hfl
  have y0 : 0 ≤ x.y := by have := hv.1; omega
  have y1 : x.y ≤ 9999 := hv.2.1
  have hb2 : Below w.heap.size w (w1.alloc (.cells #[.int .i64 x.y, .int .i64 x.m, .int .i64 x.d, .int .i64 x.h, .int .i64 x.mi, .int .i64 x.s] 27)) := hb1.alloc hb1.size _
  have HB2 := Lib.hid hb2
  clear hb1 hs hv hfl hb2 hL
  go_wp2_with fail
  refine (put_any (w1.heap.size + 1) (.slice none 0 0) [] x.y 4 _ (by simp) (by simp) y0 (by omega) (World.ownsRow_nil _ _ _ _)).mono ?_
  rintro e w3 ⟨v3, rfl, ho, hg, hat⟩
  have hbel := below_of_grown hg
  rw [World.size_alloc] at hbel
  obtain ⟨c0, c1, c2, c3, c4, c5⟩ := six_later' hbel
  have HB3 := Lib.hid (HB2.out.trans (hbel.mono (by have := HB2.out.size; simpa using this)))
  have HO := Lib.hid (show OwnB w3 (w1.heap.size + 1) v3 (pre x 0) from ho)
  have hs3 : w1.heap.size + 1 ≤ w3.heap.size := by have := hbel.size; simpa using this
  obtain ⟨W4, hW4⟩ : ∃ W, W = w3.alloc (.cells #[.int .i64 x.m, .int .i64 x.d, .int .i64 x.h, .int .i64 x.mi, .int .i64 x.s] 3) := ⟨_, rfl⟩
  have hcl : ∀ i, i < 5 → W4.cell? ⟨w3.heap.size, i, none⟩ = some (.int .i64 (fld x i)) := by
    intro i hi
    have : i = 0 ∨ i = 1 ∨ i = 2 ∨ i = 3 ∨ i = 4 := by omega
    rcases this with rfl | rfl | rfl | rfl | rfl <;> rw [hW4] <;> simp [go_sem, fld]
  have hv3 : some w3.heap.size ≠ v3.ownBlock := fun e => by have := (World.ownsRow.lt HO.out _ e.symm).2; omega
  have HCL := Lib.hid hcl
  have HV3 := Lib.hid hv3
  have HO4 : Hid (OwnB W4 (w1.heap.size + 1) v3 (pre x 0)) := Lib.hid (by rw [hW4]; exact World.ownsRow.alloc HO.out _)
  have HB4 : Hid (Below w.heap.size w W4) := Lib.hid (by rw [hW4]; exact HB3.out.alloc HB3.out.size _)
  have hs4 : w3.heap.size < W4.heap.size := by rw [hW4]; simp
  have hs2 : w.heap.size ≤ w1.heap.size + 1 := by have := HB2.out.size; simpa using this
  have HB5 := Lib.hid (And.intro (And.intro hs2 hs4) hs3)
  clear ho hg hat hbel hcl hv3 hs2 hs4 hs3
  go_wp2_with fail
  rw [← hW4]
  clear hW4
  go_loopw [6, 32] (fun s j wr => ∃ i : Nat, i ≤ 5 ∧ j = .int .i64 i ∧ Hid (OwnB wr (w1.heap.size + 1) s (pre x i)) ∧ Hid (W4.grownBy wr v3.ownBlock) ∧ Hid (s.ownBlock = v3.ownBlock ∨ ∀ g, s.ownBlock = some g → W4.heap.size ≤ g)) (fun _ j _ => 5 - (intOf j).toNat)
  case atStart => exact ⟨0, by omega, rfl, HO4, Lib.hid (grown_refl _ _), Lib.hid (.inl rfl)⟩
  case round =>
    obtain ⟨i, hi5, rfl, ho, hg, hw⟩ := hrel
    obtain ⟨W, rfl⟩ : ∃ W : World, W = wr := ⟨_, rfl⟩
    by_cases hlt : i < 5
    · have hc := hg.out.cell (HCL.out i hlt) HV3.out
      have hf := HFL.out i
      have hbase : w1.heap.size + 1 ≤ W.heap.size := by have := HB5.out; have := hg.out.size; omega
      have hW4s : W4.heap.size ≤ W.heap.size := hg.out.size
      have hsep : ∀ u ∈ [Value.int .u8 (sepI i)], u.oneCell' = true := by intro u hu; rw [List.mem_singleton.1 hu]; rfl
      have HSEP := Lib.hid hsep
      clear hsep
      have hlen := Lib.hid (pre_len x i)
      have HF := Lib.hid hf
      clear hf
      go_wp2_with (at_builtin; refine wpList_append_own_at _ rfl _ _ 44 rfl (w1.heap.size + 1) 5 i0 (.int .u8 0) 1 1 Tryd.underlying44 hi hz0 hz1 hz2 rfl (by decide) _ _ _ rfl ((show World.ownsRow _ _ _ _ _ _ _ from ho.out).alloc _) ⟨W.heap.size, 0, none⟩ 1 1 [.int .u8 _] rfl rfl (cell_one_new _ _ _) ?c2 ?c3 ?c4 ?c5 ?_)
      case c2 => intro u hu; rw [List.mem_singleton.1 hu]; rfl
      case c3 => rw [hlen.out]; unfold maxLen; omega
      case c4 => rw [hlen.out]; omega
      case c5 => simp; omega
      intro v' w5 hown' hgrow _ hat
      have o1 : Hid (OwnB w5 (w1.heap.size + 1) v' (pre x i ++ [sepI i])) := Lib.hid (OwnB.mk' hown' (by simp) (by rw [List.map_append, ← sep_at i hlt]; rfl))
      have g1 : Hid (W4.grownBy w5 v3.ownBlock) := Lib.hid (grown_step (grown_alloc hg.out _) hgrow hw.out)
      have a1 := Lib.hid (at_step (by omega) hw.out hat)
      have hs5 : w1.heap.size + 1 ≤ w5.heap.size := by have := hgrow.size; simp at this; omega
      clear hown' hgrow hat
      go_wp2_with fail
      refine (put_any (w1.heap.size + 1) _ _ (fld x i) 2 _ hs5 (by simp [hlen.out]; omega) HF.out.1 HF.out.2 o1.out).mono ?_
      rintro e w6 ⟨v6, rfl, ho6, hg6, hat6⟩
      have o2 : Hid (OwnB w6 (w1.heap.size + 1) v6 (pre x (i + 1))) := Lib.hid ho6
      have g2 : Hid (W4.grownBy w6 v3.ownBlock) := Lib.hid (grown_step g1.out hg6 a1.out)
      have a2 : Hid (v6.ownBlock = v3.ownBlock ∨ ∀ g, v6.ownBlock = some g → W4.heap.size ≤ g) := Lib.hid (by
        rcases hat6 with h | h
        · rw [h]; exact a1.out
        · exact .inr fun g hg => Nat.le_trans g1.out.size (h g hg))
      clear ho6 hg6 hat6
      go_wp2_with fail
      go_roundw
      case rel => exact ⟨i + 1, by omega, by go_num, o2, g2, a2⟩
      case measure => simp [intOf]; omega
    · obtain rfl : i = 5 := by omega
      have hlen := pre_len x 5
      obtain ⟨g, c, rfl, hg1, hg2⟩ := ho.out.at_ (by omega)
      have hcv := run_convert_bytes_arg (P := Tryd.prog) W 44 5 Tryd.underlying44 Tryd.underlying5 g 0 (pre x 5).length c (pre x 5) rfl (fun i hi => by
        rw [Nat.zero_add, World.ownsRow.cellAt ho.out i (by omega)]
        simp [List.getD, List.getElem?_eq_getElem hi]) 9 Tryd.underlying9
      have HLEN := Lib.hid hlen
      clear hlen
      go_wp2_with fail
      go_ret2
      refine ⟨?_, ?_⟩
      · rw [HX.out]; rfl
      · exact Below.grown HB4.out hg.out HB4.out.size (fun k hk => by have := (World.ownsRow.lt HO4.out k hk).1; have := HB5.out; omega)

theorem format_no (t : Int) (w : World) (h : t < 0 ∨ 254033452799 < t) :
    Calls Tryd.prog 18 #[.int .i64 t] w fun e w' => e = .returned (.tuple #[.string ⟨#[]⟩, .int .i64 1]) ∧ Below w.heap.size w w' := by
  go_enter Tryd.func18, Tryd.ntmps18
  go_wp2_with fail
  refine (civil_no t _ h).mono ?_
  rintro e w1 ⟨rfl, hb1⟩
  unfold dval
  have HB1 := Lib.hid hb1
  clear hb1
  go_wp2_with fail
  go_ret2
  exact ⟨rfl, HB1.out.alloc HB1.out.size _⟩
end Go.Proofs.YtjfbmjegdjpfbaaDoor
