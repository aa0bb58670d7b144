/- FormatTime of the reference returns the text of the date of a time. -/
import Derived.Test.YtjfbmjegdjpfbaaDoorDatePad
import Derived.Test.YtjfbmjegdjpfbaaDoorDateOrd
import Derived.Test.YtjfbmjegdjpfbaaDoorDateRef
import Derived.Test.YtjfbmjegdjpfbaaDoorLater
namespace Go.Proofs.YtjfbmjegdjpfbaaDoor
open Go Go.RowKit

theorem refCivil_full (t : Int) (w : World) (h0 : 0 ≤ t) (h1 : t ≤ 254033452799) :
    Calls Tryd.prog 11 #[.int .i64 t] w fun e w' => e = .returned (.tuple #[.agg #[.int .i64 (DM.civ t).y, .int .i64 (DM.civ t).m, .int .i64 (DM.civ t).d, .int .i64 (DM.civ t).h, .int .i64 (DM.civ t).mi, .int .i64 (DM.civ t).s], .int .i64 0]) ∧ Below w.heap.size w w' :=
  (refCivil_yes t w h0 h1).mono fun _ _ h => ⟨h.1, h.2.2.2⟩

set_option maxRecDepth 100000 in
set_option maxHeartbeats 8000000 in
theorem formatTime_yes (t : Int) (w : World) (h0 : 0 ≤ t) (h1 : t ≤ 254033452799) :
    Calls Tryd.prog 19 #[.int .i64 t] w fun e w' => e = .returned (.tuple #[.string (txt t), .int .i64 0]) ∧ Below w.heap.size w w' := by
  obtain ⟨hv, -⟩ := civ_spec h0 h1
  have htx : txt t = strOfNums (fmtL (DM.civ t)) := rfl
  have hrc := Lib.hid (fun w => refCivil_full t w h0 h1)
  generalize DM.civ t = x at hv htx hrc
  have HTX := Lib.hid htx
  obtain ⟨⟨y0, y1⟩, ⟨m0, m1⟩, ⟨d0, d1⟩, ⟨g0, g1⟩, ⟨i0, i1⟩, ⟨s0, s1⟩⟩ := valid_bd hv
  have yy : 1000 ≤ x.y := by have := hv.1; omega
  have hsz := strOfNums_size
  have hdl := digs_len
  have hap := str_app
  have k45 : (⟨#[45]⟩ : ByteArray) = strOfNums [45] := rfl
  have k32 : (⟨#[32]⟩ : ByteArray) = strOfNums [32] := rfl
  have k58 : (⟨#[58]⟩ : ByteArray) = strOfNums [58] := rfl
  have HK := Lib.hid (And.intro hsz (And.intro hdl (And.intro hap (And.intro k45 (And.intro k32 k58)))))
  clear htx hv h0 h1 hsz hdl hap k45 k32 k58
  go_enter Tryd.func19, Tryd.ntmps19
  go_wp2_with fail
  refine (hrc.out _).mono ?_
  rintro e w1 ⟨rfl, hb1⟩
  have HB1 := Lib.hid hb1
  clear hb1
  obtain ⟨W, hW⟩ : ∃ W, W = w1.alloc (.cells #[.int .i64 x.y, .int .i64 x.m, .int .i64 x.d, .int .i64 x.h, .int .i64 x.mi, .int .i64 x.s] 27) := ⟨_, rfl⟩
  have hlt : w1.heap.size < W.heap.size := by rw [hW]; simp
  have c0 : ∀ u : Later W, u.v.cell? ⟨w1.heap.size, 0, none⟩ = some (.int .i64 x.y) := Later.cell hlt (by rw [hW]; simp [go_sem])
  have c1 : ∀ u : Later W, u.v.cell? ⟨w1.heap.size, 1, none⟩ = some (.int .i64 x.m) := Later.cell hlt (by rw [hW]; simp [go_sem])
  have c2 : ∀ u : Later W, u.v.cell? ⟨w1.heap.size, 2, none⟩ = some (.int .i64 x.d) := Later.cell hlt (by rw [hW]; simp [go_sem])
  have c3 : ∀ u : Later W, u.v.cell? ⟨w1.heap.size, 3, none⟩ = some (.int .i64 x.h) := Later.cell hlt (by rw [hW]; simp [go_sem])
  have c4 : ∀ u : Later W, u.v.cell? ⟨w1.heap.size, 4, none⟩ = some (.int .i64 x.mi) := Later.cell hlt (by rw [hW]; simp [go_sem])
  have c5 : ∀ u : Later W, u.v.cell? ⟨w1.heap.size, 5, none⟩ = some (.int .i64 x.s) := Later.cell hlt (by rw [hW]; simp [go_sem])
  have HBW : Hid (Below w.heap.size w W) := Lib.hid (by rw [hW]; exact HB1.out.alloc HB1.out.size _)
  go_wp2_with fail
  rw [← hW]
  clear hW
  obtain ⟨hsz, hdl, hap, k45, k32, k58⟩ := HK.out
  refine wp_region_later (by kernel_rfl) (by kernel_rfl) ?_
  repeat (first | go_big_quiet_skip | (go_big_quiet_want; go_big_quiet_op; first | go_big_quiet_on | go_big_quiet_call ((go_at_call 33; exact Later.call (pad_any _ _ _ (by omega))))))
  refine wpQuiet_nil ?_
  intro w2 hu2
  have HB2 := Lib.hid (Later.out hu2)
  clear hu2 hsz hdl hap k45 k32 k58 c0 c1 c2 c3 c4 c5
  go_wp2_with fail
  go_ret2
  refine ⟨?_, HBW.out.trans (HB2.out.mono HBW.out.size)⟩
  rw [HTX.out]
  simp only [fmtL, pre, fld, sepI, List.append_assoc, List.cons_append, List.nil_append]
  rfl

theorem formatTime_no (t : Int) (w : World) (h : t < 0 ∨ 254033452799 < t) :
    Calls Tryd.prog 19 #[.int .i64 t] w fun e w' => e = .returned (.tuple #[.string ⟨#[]⟩, .int .i64 1]) ∧ Below w.heap.size w w' := by
  go_enter Tryd.func19, Tryd.ntmps19
  go_wp2_with fail
  refine (refCivil_no t _ h).mono ?_
  rintro e w1 ⟨rfl, hb1⟩
  unfold dval
  have HB1 := Lib.hid hb1
  clear hb1
  go_wp2_with fail
  go_ret2
  exact ⟨rfl, HB1.out.alloc HB1.out.size _⟩
end Go.Proofs.YtjfbmjegdjpfbaaDoor
