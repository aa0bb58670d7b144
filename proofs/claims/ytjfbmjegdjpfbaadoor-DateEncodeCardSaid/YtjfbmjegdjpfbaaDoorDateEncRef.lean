/- EncodeTime of the reference: the element of a time's text. -/
import Derived.Test.YtjfbmjegdjpfbaaDoorDateFmtRef
import Derived.Test.YtjfbmjegdjpfbaaDoorDateWrap
namespace Go.Proofs.YtjfbmjegdjpfbaaDoor
open Go Go.RowKit

/-- All that follows the year. -/
def restL (x : DM.D6) : List Int := digs x.m 2 ++ (digs x.d 2 ++ (digs x.h 2 ++ (digs x.mi 2 ++ (digs x.s 2 ++ [90]))))
def contL (x : DM.D6) : List Int := if x.y < 2050 then digs (x.y % 100) 2 ++ restL x else digs x.y 4 ++ restL x
def tagOf (x : DM.D6) : Int := if x.y < 2050 then 23 else 24
def derL (x : DM.D6) : List Int := [tagOf x, ((contL x).length : Int)] ++ contL x
noncomputable def der (t : Int) : ByteArray := strOfNums (derL (DM.civ t))
theorem restL_len (x : DM.D6) : (restL x).length = 11 := by simp [restL, digs_len]
theorem contL_len (x : DM.D6) : (contL x).length = if x.y < 2050 then 13 else 15 := by
  unfold contL
  split <;> simp [restL_len, digs_len]

set_option maxRecDepth 100000 in
set_option maxHeartbeats 8000000 in
theorem encodeTime_yes (t : Int) (w : World) (h0 : 0 ≤ t) (h1 : t ≤ 254033452799) :
    Calls Tryd.prog 23 #[.int .i64 t] w fun e w' => e = .returned (.tuple #[.string (der t), .int .i64 0]) ∧ Below w.heap.size w w' := by
  obtain ⟨hv, -⟩ := civ_spec h0 h1
  have htx : der t = strOfNums (derL (DM.civ t)) := rfl
  have hrc := Lib.hid (fun w => refCivil_full t w h0 h1)
  generalize DM.civ t = x at hv htx hrc
  have HTX := Lib.hid htx
  obtain ⟨⟨y0, y1⟩, ⟨m0, m1⟩, ⟨d0, d1⟩, ⟨g0, g1⟩, ⟨i0, i1⟩, ⟨s0, s1⟩⟩ := valid_bd hv
  have yy : 1000 ≤ x.y := by have := hv.1; omega
  have hsz := strOfNums_size
  have hdl := digs_len
  have hap := str_app
  have k90 : (⟨#[90]⟩ : ByteArray) = strOfNums [90] := rfl
  have HK := Lib.hid (And.intro hsz (And.intro hdl (And.intro hap k90)))
  clear htx hv h0 h1 hsz hdl hap k90
  go_enter Tryd.func23, Tryd.ntmps23
  go_wp2_with fail
  refine (hrc.out _).mono ?_
  rintro e w1 ⟨rfl, hb1⟩
  have HB1 := Lib.hid hb1
  clear hb1
  obtain ⟨W, hW⟩ : ∃ W, W = w1.alloc (.cells #[.int .i64 x.y, .int .i64 x.m, .int .i64 x.d, .int .i64 x.h, .int .i64 x.mi, .int .i64 x.s] 27) := ⟨_, rfl⟩
  have hlt : w1.heap.size < W.heap.size := by rw [hW]; simp
  have c0 : ∀ u : Later W, u.v.cell? ⟨w1.heap.size, 0, none⟩ = some (.int .i64 x.y) := Later.cell hlt (by rw [hW]; simp [go_sem])
  have c1 : ∀ u : Later W, u.v.cell? ⟨w1.heap.size, 1, none⟩ = some (.int .i64 x.m) := Later.cell hlt (by rw [hW]; simp [go_sem])
  have c2 : ∀ u : Later W, u.v.cell? ⟨w1.heap.size, 2, none⟩ = some (.int .i64 x.d) := Later.cell hlt (by rw [hW]; simp [go_sem])
  have c3 : ∀ u : Later W, u.v.cell? ⟨w1.heap.size, 3, none⟩ = some (.int .i64 x.h) := Later.cell hlt (by rw [hW]; simp [go_sem])
  have c4 : ∀ u : Later W, u.v.cell? ⟨w1.heap.size, 4, none⟩ = some (.int .i64 x.mi) := Later.cell hlt (by rw [hW]; simp [go_sem])
  have c5 : ∀ u : Later W, u.v.cell? ⟨w1.heap.size, 5, none⟩ = some (.int .i64 x.s) := Later.cell hlt (by rw [hW]; simp [go_sem])
  have C0 := Lib.hid c0
  have HBW : Hid (Below w.heap.size w W) := Lib.hid (by rw [hW]; exact HB1.out.alloc HB1.out.size _)
  go_wp2_with fail
  rw [← hW]
  clear hW
  obtain ⟨hsz, hdl, hap, k90⟩ := HK.out
  refine wp_region_later (by kernel_rfl) (by kernel_rfl) ?_
  repeat (first | go_big_quiet_skip | (go_big_quiet_want; go_big_quiet_op; first | go_big_quiet_on | go_big_quiet_call ((go_at_call 33; exact Later.call (pad_any _ _ _ (by omega))))))
  refine wpQuiet_nil ?_
  intro w2 hu2
  have HB2 := Lib.hid (Later.out hu2)
  have hcy := C0.out ⟨w2, HB2.out⟩
  change w2.cell? _ = _ at hcy
  clear hu2 c0 c1 c2 c3 c4 c5
  have hR : digs x.m 2 ++ (digs x.d 2 ++ (digs x.h 2 ++ (digs x.mi 2 ++ (digs x.s 2 ++ [90])))) = restL x := rfl
  rw [hR]
  have hRl := restL_len x
  generalize hRg : restL x = R at *
  clear hR
  have HH := Lib.hid (And.intro HB2.out hRg)
  clear hRg
  by_cases hy : x.y < 2050
  · go_wp2_with fail
    refine (pad2_any (x.y % 100) _ (by omega) (by omega)).mono ?_
    rintro e w3 ⟨rfl, hb3⟩
    have HB3 := Lib.hid hb3
    clear hb3
    go_wp2_with fail
    have HW := Lib.hid (show Calls Tryd.prog 35 #[.int .i64 23, .slice (some ⟨w3.heap.size, 0, none⟩) 1 1] (w3.alloc (.cells #[.string (strOfNums (digs (x.y % 100) 2 ++ R))] 9)) fun e w' => e = .returned (.tuple #[.string (der t), .int .i64 0]) ∧ Below (w3.heap.size + 1) (w3.alloc (.cells #[.string (strOfNums (digs (x.y % 100) 2 ++ R))] 9)) w' from by
      refine (refWrap_one 23 (strOfNums (digs (x.y % 100) 2 ++ R)) w3.heap.size _ (.inl rfl) (by rw [strOfNums_size]; simp [digs_len, hRl]) (by simp [go_sem])).mono ?_
      rintro e w' ⟨rfl, hb⟩
      refine ⟨?_, by simpa using hb⟩
      rw [HTX.out, strOfNums_size, str_app, ← HH.out.2]
      simp only [derL, tagOf, contL, if_pos hy])
    refine (HW.out).mono ?_
    rintro e w4 ⟨rfl, hb4⟩
    have HB4 := Lib.hid hb4
    clear hb4
    go_wp2_with fail
    go_ret2
    have b3 := HBW.out.trans ((HH.out.1.trans (HB3.out.mono HH.out.1.size)).mono HBW.out.size)
    exact ⟨rfl, (b3.alloc b3.size _).trans (HB4.out.mono (by have := b3.size; omega))⟩
  · go_wp2_with fail
    refine (pad4_any x.y _ yy (by omega)).mono ?_
    rintro e w3 ⟨rfl, hb3⟩
    have HB3 := Lib.hid hb3
    clear hb3
    go_wp2_with fail
    have HW := Lib.hid (show Calls Tryd.prog 35 #[.int .i64 24, .slice (some ⟨w3.heap.size, 0, none⟩) 1 1] (w3.alloc (.cells #[.string (strOfNums (digs x.y 4 ++ R))] 9)) fun e w' => e = .returned (.tuple #[.string (der t), .int .i64 0]) ∧ Below (w3.heap.size + 1) (w3.alloc (.cells #[.string (strOfNums (digs x.y 4 ++ R))] 9)) w' from by
      refine (refWrap_one 24 (strOfNums (digs x.y 4 ++ R)) w3.heap.size _ (.inr rfl) (by rw [strOfNums_size]; simp [digs_len, hRl]) (by simp [go_sem])).mono ?_
      rintro e w' ⟨rfl, hb⟩
      refine ⟨?_, by simpa using hb⟩
      rw [HTX.out, strOfNums_size, str_app, ← HH.out.2]
      simp only [derL, tagOf, contL, if_neg (Int.not_lt.2 hy)])
    refine (HW.out).mono ?_
    rintro e w4 ⟨rfl, hb4⟩
    have HB4 := Lib.hid hb4
    clear hb4
    go_wp2_with fail
    go_ret2
    have b3 := HBW.out.trans ((HH.out.1.trans (HB3.out.mono HH.out.1.size)).mono HBW.out.size)
    exact ⟨rfl, (b3.alloc b3.size _).trans (HB4.out.mono (by have := b3.size; omega))⟩

theorem encodeTime_no (t : Int) (w : World) (h : t < 0 ∨ 254033452799 < t) :
    Calls Tryd.prog 23 #[.int .i64 t] w fun e w' => e = .returned (.tuple #[.string ⟨#[]⟩, .int .i64 1]) ∧ Below w.heap.size w w' := by
  go_enter Tryd.func23, Tryd.ntmps23
  go_wp2_with fail
  refine (refCivil_no t _ h).mono ?_
  rintro e w1 ⟨rfl, hb1⟩
  unfold dval
  have HB1 := Lib.hid hb1
  clear hb1
  go_wp2_with fail
  go_ret2
  exact ⟨rfl, HB1.out.alloc HB1.out.size _⟩
end Go.Proofs.YtjfbmjegdjpfbaaDoor
