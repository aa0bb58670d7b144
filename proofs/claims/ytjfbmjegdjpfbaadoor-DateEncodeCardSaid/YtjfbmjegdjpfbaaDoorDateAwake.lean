/- The examples of the chapter hold; near returns some number. -/
import Derived.Test.YtjfbmjegdjpfbaaDoorDateFmt
import Derived.Test.YtjfbmjegdjpfbaaDoorDateDec
namespace Go.Proofs.YtjfbmjegdjpfbaaDoor
open Go Go.RowKit

theorem civ_a : DM.civ 2678400 = ⟨1950, 2, 1, 0, 0, 0⟩ := DM.civ_eq (by simp [DM.Valid, DM.dim, DM.leapB, DM.tab]) (by simp [DM.sec, DM.bef, DM.cum, DM.base])
theorem civ_0 : DM.civ 0 = ⟨1950, 1, 1, 0, 0, 0⟩ := DM.civ_eq (by simp [DM.Valid, DM.dim, DM.leapB, DM.tab]) (by simp [DM.sec, DM.bef, DM.cum, DM.base])
theorem dec_a : decF 23 [53, 48, 48, 49, 48, 49, 48, 48, 48, 48, 48, 48, 90] = (0, 0) := by
  rw [decF_23, decN_sec rfl rfl (by decide)]
  have e : dateAt (if 50 ≤ numL (List.take 2 [53, 48, 48, 49, 48, 49, 48, 48, 48, 48, 48, 48, 90]) then numL (List.take 2 [53, 48, 48, 49, 48, 49, 48, 48, 48, 48, 48, 48, 90]) + 1900 else numL (List.take 2 [53, 48, 48, 49, 48, 49, 48, 48, 48, 48, 48, 48, 90]) + 2000) (List.drop 2 [53, 48, 48, 49, 48, 49, 48, 48, 48, 48, 48, 48, 90]) = ⟨1950, 1, 1, 0, 0, 0⟩ := by rfl
  rw [e, secF_yes (by simp [DM.Valid, DM.dim, DM.leapB, DM.tab])]
  simp [DM.sec, DM.bef, DM.cum, DM.base]
theorem fmt_a : strOfNums (fmtL ⟨1950, 2, 1, 0, 0, 0⟩) = ⟨#[49, 57, 53, 48, 45, 48, 50, 45, 48, 49, 32, 48, 48, 58, 48, 48, 58, 48, 48]⟩ := by rfl

theorem format_a (w : World) (hL : Lens w) :
    Calls Tryd.prog 18 #[.int .i64 2678400] w fun e w' => e = .returned (.tuple #[.string ⟨#[49, 57, 53, 48, 45, 48, 50, 45, 48, 49, 32, 48, 48, 58, 48, 48, 58, 48, 48]⟩, .int .i64 0]) ∧ Below w.heap.size w w' := by
  have h := format_yes 2678400 w (by omega) (by omega) hL
  rw [civ_a, fmt_a] at h
  exact h
theorem decode_a (w : World) (hL : Lens w) :
    Calls Tryd.prog 16 #[.int .i64 23, .string ⟨#[53, 48, 48, 49, 48, 49, 48, 48, 48, 48, 48, 48, 90]⟩] w fun e w' => e = .returned (.tuple #[.int .i64 0, .int .i64 0]) ∧ Below w.heap.size w w' := by
  have h := decode_any 23 ⟨#[53, 48, 48, 49, 48, 49, 48, 48, 48, 48, 48, 48, 90]⟩ w hL
  rw [show (⟨#[53, 48, 48, 49, 48, 49, 48, 48, 48, 48, 48, 48, 90]⟩ : ByteArray).data.toList = [53, 48, 48, 49, 48, 49, 48, 48, 48, 48, 48, 48, 90] from rfl, dec_a] at h
  exact h
theorem civil_0 (w : World) (hL : Lens w) :
    Calls Tryd.prog 10 #[.int .i64 0] w fun e w' => e = .returned (.tuple #[.agg #[.int .i64 1950, .int .i64 1, .int .i64 1, .int .i64 0, .int .i64 0, .int .i64 0], .int .i64 0]) ∧ Below w.heap.size w w' :=
  (civil_yes 0 w (by omega) (by omega) hL).mono fun e w' h => by
    have h1 := h.1
    rw [civ_0] at h1
    exact ⟨h1, h.2.2.2⟩

set_option maxHeartbeats 4000000 in
theorem awake_any (w : World) (hL : Lens w) :
    Calls Tryd.prog 13 #[] w fun e w' => e = .returned (.bool true) ∧ Below w.heap.size w w' := by
  have HL := Lib.hid hL
  clear hL
  go_enter Tryd.func13, Tryd.ntmps13
  go_wp2_with fail
  refine (format_a _ HL.out).mono ?_
  rintro e w1 ⟨rfl, hb1⟩
  have HB1 := Lib.hid hb1
  clear hb1
  go_wp2_with fail
  refine (decode_a _ (HL.out.below HB1.out)).mono ?_
  rintro e w2 ⟨rfl, hb2⟩
  have HB2 := Lib.hid (HB1.out.trans (hb2.mono HB1.out.size))
  clear hb2
  go_wp2_with fail
  refine (civil_0 _ (HL.out.below HB2.out)).mono ?_
  rintro e w3 ⟨rfl, hb3⟩
  have HB3 := Lib.hid (HB2.out.trans (hb3.mono HB2.out.size))
  clear hb3
  go_wp2_with fail
  go_ret
  exact ⟨rfl, HB3.out.alloc HB3.out.size _⟩

/-- A call that returns some number. -/
def SomeI (w : World) (e : Ending) (w' : World) : Prop := ∃ x : Int, e = .returned (.int .i64 x) ∧ Below w.heap.size w w'

theorem refSec_some (x : DM.D6) (w : World) : Calls Tryd.prog 14 #[dval x] w fun e w' => e = .returned (.tuple #[.int .i64 (secF x).1, .int .i64 (secF x).2]) ∧ Below w.heap.size w w' := refSec_any x w

set_option maxHeartbeats 4000000 in
theorem near_any (t k d : Int) (w : World) (k0 : 0 ≤ k) (k1 : k ≤ 65535) (d0 : -128 ≤ d) (d1 : d ≤ 127) :
    Calls Tryd.prog 9 #[.int .i64 t, .int .u16 k, .int .i8 d] w (SomeI w) := by
  by_cases a0 : k % 4 = 0
  · go_enter Tryd.func9, Tryd.ntmps9
    go_wp2_with fail
    go_ret
    exact ⟨_, rfl, Below.refl _ _⟩
  · by_cases a1 : k % 4 = 1
    · go_enter Tryd.func9, Tryd.ntmps9
      go_wp2_with fail
      go_ret
      exact ⟨_, rfl, Below.refl _ _⟩
    · by_cases a2 : k % 4 = 2
      · go_enter Tryd.func9, Tryd.ntmps9
        go_wp2_with fail
        refine (refSec_some ⟨_, _, _, _, _, _⟩ _).mono ?_
        rintro e w1 ⟨rfl, hb1⟩
        have HB1 := Lib.hid hb1
        clear hb1
        go_wp2_with fail
        go_ret
        exact ⟨_, rfl, HB1.out⟩
      · have a3 : k % 4 = 3 := by omega
        go_enter Tryd.func9, Tryd.ntmps9
        go_wp2_with fail
        go_ret
        exact ⟨_, rfl, Below.refl _ _⟩
end Go.Proofs.YtjfbmjegdjpfbaaDoor
