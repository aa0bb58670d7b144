/- The laws' text returns some string. -/
import Derived.Test.YtjfbmjegdjpfbaaDoorDateOne
import Derived.RegionTactic
import Derived.Deep.DeepCutAuto
namespace Go.Proofs.YtjfbmjegdjpfbaaDoor
open Go Go.RowKit
open PDateDecode (certpathref01_Read.f)

theorem encode_some (t : Int) (w : World) : Calls Tryd.prog 23 #[.int .i64 t] w fun e w' => (∃ s n, e = .returned (.tuple #[.string s, .int .i64 n]) ∧ ∃ k a C R E m, certpathref01_Read.f k s = some (a, C, R, E, m) ∧ C.size ≤ 15) ∧ Below w.heap.size w w' := by
  by_cases h : 0 ≤ t ∧ t ≤ 254033452799
  · refine (encodeTime_yes t w h.1 h.2).mono ?_
    rintro e w' ⟨rfl, hb⟩
    refine ⟨⟨_, _, rfl, ?_⟩, hb⟩
    have hl := contL_len (DM.civ t)
    obtain ⟨k, a, C, R, E, n, hf, hC⟩ := read_der_any (tagOf (DM.civ t)) (contL (DM.civ t)) (by unfold tagOf; split <;> omega) (by rw [hl]; split <;> omega)
    exact ⟨k, a, C, R, E, n, hf, Nat.le_trans hC (by rw [hl]; split <;> omega)⟩
  · refine (encodeTime_no t w (by omega)).mono ?_
    rintro e w' ⟨rfl, hb⟩
    exact ⟨⟨_, _, rfl, 1, 0, ⟨#[]⟩, ⟨#[]⟩, ⟨#[]⟩, 3, rfl, Nat.zero_le _⟩, hb⟩

set_option maxRecDepth 100000 in
set_option maxHeartbeats 8000000 in
theorem text_any (t tag at_ c how : Int) (w : World) (a0 : 0 ≤ at_) (a1 : at_ ≤ 255) (c0 : 0 ≤ c) (h0 : 0 ≤ how) (h1 : how ≤ 255) :
    Calls Tryd.prog 15 #[.int .i64 t, .int .i64 tag, .int .u8 at_, .int .u8 c, .int .u8 how] w fun e w' => (∃ s, e = .returned (.string s)) ∧ Below w.heap.size w w' := by
  have hu := Tryd.underlying50
  go_enter Tryd.func15, Tryd.ntmps15
  go_wp2_with fail
  refine (encode_some t _).mono ?_
  rintro e w1 ⟨⟨s, n, rfl, hs⟩, hb1⟩
  have HS := Lib.hid hs
  have HB1 := Lib.hid hb1
  clear hb1 hs
  go_wp2_with fail
  refine (one_any s _ HS.out).mono ?_
  rintro e w2 ⟨⟨a, C, R, m, rfl, hC⟩, hb2⟩
  have HB2 := Lib.hid (HB1.out.trans (hb2.mono HB1.out.size))
  clear hb2
  go_upto_region 4 with (fail)
  go_cut [35] (fun p wx => (∃ b : Bool, p = .bool b) ∧ wx = w2.alloc (.cells #[.int .i64 a, .string C, .string R] 50))
  case first =>
    by_cases ht : tag = 24
    · go_wp2_with fail
      go_meet
      exact ⟨⟨_, rfl⟩, rfl⟩
    · go_wp2_with fail
      go_meet
      exact ⟨⟨_, rfl⟩, rfl⟩
  case rest =>
  obtain ⟨⟨b, rfl⟩, rfl⟩ := hcut
  go_upto_if 35 with (fail)
  go_cut [15] (fun p wx => ∃ D : ByteArray, p = .string D ∧ D.size ≤ 17 ∧ Below w.heap.size w wx)
  case first =>
    have h1 : (⟨#[49, 57]⟩ : ByteArray).size = 2 := rfl
    have h2 : ¬ 9223372036854775807 < 2 + C.size := by omega
    have b2 : Below w.heap.size w (w2.alloc (.cells #[.int .i64 a, .string C, .string R] 50)) := HB2.out.alloc HB2.out.size _
    cases b
    · go_wp2_with fail
      go_meet
      exact ⟨_, rfl, by omega, b2⟩
    · go_wp2_with fail
      go_meet
      exact ⟨_, rfl, by rw [ByteArray.size_append, h1]; omega, b2⟩
  case rest =>
    obtain ⟨D, rfl, hD, hbc⟩ := hcut
    have HBC := Lib.hid hbc
    clear hbc
    go_upto_region 6 with (fail)
    go_cut [45] (fun p wx => p = .bool (decide (how % 3 = 0) && decide (0 < (D.size : Int))) ∧ wx = wc)
    case first =>
      by_cases ht : how % 3 = 0
      · go_wp2_with fail
        go_meet
        exact ⟨by simp [ht], rfl⟩
      · go_wp2_with fail
        go_meet
        exact ⟨by simp [ht], rfl⟩
    case rest =>
    obtain ⟨rfl, rfl⟩ := hcut
    by_cases hb : how % 3 = 0 ∧ 0 < (D.size : Int)
    · rw [show (decide (how % 3 = 0) && decide (0 < (D.size : Int))) = true from by simp [hb.1]; exact_mod_cast hb.2]
      have hd := hb.2
      clear hb
      have m0 : 0 ≤ at_ % (D.size : Int) := Int.emod_nonneg _ (by omega)
      have m1 : at_ % (D.size : Int) < (D.size : Int) := Int.emod_lt_of_pos _ hd
      have e1 : at_.tmod (D.size : Int) = at_ % (D.size : Int) := Int.tmod_eq_emod_of_nonneg a0
      have hd0 : (D.size : Int) ≠ 0 := by omega
      go_upto_region 8 with (fail)
      have hcv : ∀ (W : World) (x : Int), W.cell? ⟨wc.heap.size, 0, none⟩ = some (.int .u8 x) → (Go.convert 44 9 (.slice (some ⟨wc.heap.size, 0, none⟩) 1 1)).run Tryd.prog W = .ok (.string (strOfNums [x])) W := fun W x hW =>
        run_convert_bytes_arg (P := Tryd.prog) W 44 5 Tryd.underlying44 Tryd.underlying5 wc.heap.size 0 1 1 [x] rfl (fun i hi => by
          obtain rfl : i = 0 := by omega
          exact hW) 9 Tryd.underlying9
      have hsz := strOfNums_size
      generalize at_ % (D.size : Int) = ia at *
      have m3 : IntKind.i64.wrap (ia + 1) = ia + 1 := by rw [IntKind.wrap_i64]; omega
      have m7 : ia ≤ (D.size : Int) := by omega
      have m5 : ia + 1 ≤ (D.size : Int) := by omega
      have m6 : 0 ≤ ia + 1 := by omega
      have m8 : ¬ 9223372036854775807 < ia.toNat + 1 := by omega
      have m9 : ¬ 9223372036854775807 < ia.toNat + 1 + (D.size - (ia + 1).toNat) := by omega
      have e13 : c.tmod 12 = c % 12 := Int.tmod_eq_emod_of_nonneg c0
      have c7 : 0 ≤ c % 12 := by omega
      have c8 : c % 12 < 12 := by omega
      have c9 : 0 ≤ c.tmod 12 := by omega
      have c10 : c.tmod 12 < 12 := by omega
      go_region
      go_wp2_with fail
      go_ret
      refine ⟨⟨_, rfl⟩, ?_⟩
      have := HBC.out.size
      repeat (first | exact HBC.out | refine Below.drew ?_ | refine Below.alloc ?_ (by simpa using this) _)
    · rw [show (decide (how % 3 = 0) && decide (0 < (D.size : Int))) = false from by rw [Bool.and_eq_false_iff, decide_eq_false_iff_not, decide_eq_false_iff_not]; omega]
      go_wp2_with fail
      go_ret
      exact ⟨⟨_, rfl⟩, HBC.out⟩
end Go.Proofs.YtjfbmjegdjpfbaaDoor
