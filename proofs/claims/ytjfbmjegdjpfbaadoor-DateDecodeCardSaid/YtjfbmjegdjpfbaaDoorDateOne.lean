/- Read and One of the reference at EncodeTime's two answers. -/
import Derived.Test.YtjfbmjegdjpfbaaDoorDateEncRef
import Derived.Test.YtjfbmjegdjpfbaaDoorPDateDecodex4
namespace Go.Proofs.YtjfbmjegdjpfbaaDoor
open Go Go.RowKit
open Go.Proofs.YtjfbmjegdjpfbaaDoorW.PrintWords Go.Proofs.YtjfbmjegdjpfbaaDoorW.PrintLast Go.Proofs.YtjfbmjegdjpfbaaDoorW.PrintMore
open PDateDecode (certpathref01_Read.f certpathref01_Read.j0 certpathref01_Read.calls)

theorem bt_nums (l : List Int) (i : Nat) (hi : i < l.length) (h : 0 ≤ l[i] ∧ l[i] ≤ 255) : bt (strOfNums l) (i : Int) = l[i] := by
  unfold bt
  have hs : i < (strOfNums l).size := by rw [strOfNums_size]; exact hi
  rw [dif_pos (by simpa using hs)]
  have e : (strOfNums l)[i]'hs = U8 l[i] := by
    show (strOfNums l).data[i] = _
    simp [strOfNums, U8]
  have e2 : (strOfNums l)[((i : Int)).toNat]'(by simpa using hs) = (strOfNums l)[i]'hs := rfl
  rw [e2, e]
  exact toNat_U8 h
theorem read_der {tag : Int} {l : List Int} (ht : tag = 23 ∨ tag = 24) (hl : l.length < 128) :
    ∃ C R E, certpathref01_Read.f 2 (strOfNums ([tag, (l.length : Int)] ++ l)) = some (tag, C, R, E, 0) ∧ C.size ≤ l.length := by
  have hs : (strOfNums ([tag, (l.length : Int)] ++ l)).size = l.length + 2 := by rw [strOfNums_size]; simp
  have b0 : bt (strOfNums ([tag, (l.length : Int)] ++ l)) 0 = tag := bt_nums _ 0 (by simp) (by simp; omega)
  have b1 : bt (strOfNums ([tag, (l.length : Int)] ++ l)) 1 = l.length := bt_nums _ 1 (by simp) (by simp; omega)
  generalize strOfNums ([tag, (l.length : Int)] ++ l) = s at *
  generalize hn : (l.length : Int) = n at *
  have n0 : 0 ≤ n := by omega
  have t1 : ¬ tag.tmod 32 = 31 := by rcases ht with rfl | rfl <;> decide
  have hf : certpathref01_Read.f 2 s = some (tag, s.extract (2 : Int).toNat (2 + n).toNat, s.extract 0 (2 + n).toNat, s.extract (2 + n).toNat s.size, 0) := by
    simp only [certpathref01_Read.f]
    rw [b0, b1, hs, w64 (n := n) (by omega), if_neg (by omega), if_pos (by omega), if_neg t1, if_neg (by omega), if_pos (by omega), if_neg (by omega), decide_eq_false (by omega)]
    simp only [certpathref01_Read.j0]
    rw [hs, b0, if_neg (by simp), if_neg (by omega), w64 (n := ((l.length + 2 : Nat) : Int) - 2) (by omega), if_neg (by omega), if_pos (by omega), if_pos (by omega), w64 (n := 2 + n) (by omega), if_pos (by omega), if_pos (by omega), if_pos (by omega), w64 (n := tag) (by omega)]
  exact ⟨_, _, _, hf, by rw [ByteArray.size_extract]; omega⟩

theorem read_der_any (tag : Int) (l : List Int) (ht : tag = 23 ∨ tag = 24) (hl : l.length < 128) : ∃ k a C R E n, certpathref01_Read.f k (strOfNums ([tag, (l.length : Int)] ++ l)) = some (a, C, R, E, n) ∧ C.size ≤ l.length := by
  obtain ⟨C, R, E, h, hc⟩ := read_der ht hl
  exact ⟨_, _, _, _, _, _, h, hc⟩

set_option linter.unusedSimpArgs false in
set_option maxRecDepth 100000 in
set_option maxHeartbeats 8000000 in
theorem one_any (s : ByteArray) (w : World) (h : ∃ k a C R E n, certpathref01_Read.f k s = some (a, C, R, E, n) ∧ C.size ≤ 15) :
    Calls Tryd.prog 28 #[.string s] w fun e w' => (∃ a C R n, e = .returned (.tuple #[.agg #[.int .i64 a, .string C, .string R], .int .i64 n]) ∧ C.size ≤ 15) ∧ Below w.heap.size w w' := by
  obtain ⟨k, a, C, R, E, n, hf, hC⟩ := h
  have hu := Tryd.underlying50
  have hr := Lib.hid (fun w => certpathref01_Read.calls k s a C R E n w hf)
  have HC := Lib.hid hC
  clear hf hC
  go_enter Tryd.func28, Tryd.ntmps28
  go_wp2_with fail
  refine (hr.out _).mono ?_
  rintro e w1 ⟨rfl, hb1⟩
  have hlt : w.heap.size < w1.heap.size := by have := hb1.size; simp at this; omega
  have hne : w.heap.size ≠ w1.heap.size := by omega
  have hc0 : w1.cell? ⟨w.heap.size, 0, none⟩ = some (.int .i64 0) := (hb1.cell (by simp)).trans (by simp [go_sem])
  have hc1 : w1.cell? ⟨w.heap.size, 1, none⟩ = some (.string ⟨#[]⟩) := (hb1.cell (by simp)).trans (by simp [go_sem])
  have hc2 : w1.cell? ⟨w.heap.size, 2, none⟩ = some (.string ⟨#[]⟩) := (hb1.cell (by simp)).trans (by simp [go_sem])
  have hf0 : w1.frozen? ⟨w.heap.size, 0, none⟩ = false := (hb1.frozen (by simp)).trans (by simp [go_sem])
  have hf1 : w1.frozen? ⟨w.heap.size, 1, none⟩ = false := (hb1.frozen (by simp)).trans (by simp [go_sem])
  have hf2 : w1.frozen? ⟨w.heap.size, 2, none⟩ = false := (hb1.frozen (by simp)).trans (by simp [go_sem])
  have HB1 : Hid (Below w.heap.size w w1) := Lib.hid (((Below.refl _ w).alloc (by simp) _).trans (hb1.mono (by simp)))
  clear hb1
  by_cases hn : n = 0
  · subst hn
    by_cases hE : 0 < (E.size : Int)
    · go_wp2_with fail
      refine bodyPost_ret (v := .tuple #[.agg #[.int .i64 0, .string ⟨#[]⟩, .string ⟨#[]⟩], .int .i64 4]) (by simp [results, Tryd.results28, go_sem, hu, hlt, hne, hc0, hc1, hc2, hf0, hf1, hf2]) rfl ⟨⟨0, ⟨#[]⟩, ⟨#[]⟩, _, rfl, Nat.zero_le _⟩, ?_⟩
      have := HB1.out.size
      repeat (first | exact HB1.out | refine Below.setCell ?_ (by simp) _ | refine Below.alloc ?_ (by simpa using this) _)
    · go_wp2_with fail
      refine bodyPost_ret (v := .tuple #[.agg #[.int .i64 a, .string C, .string R], .int .i64 0]) (by simp [results, Tryd.results28, go_sem, hu, hlt, hne, hc0, hc1, hc2, hf0, hf1, hf2]) rfl ⟨⟨_, _, _, _, rfl, HC.out⟩, ?_⟩
      have := HB1.out.size
      repeat (first | exact HB1.out | refine Below.setCell ?_ (by simp) _ | refine Below.alloc ?_ (by simpa using this) _)
  · go_wp2_with fail
    refine bodyPost_ret (v := .tuple #[.agg #[.int .i64 0, .string ⟨#[]⟩, .string ⟨#[]⟩], .int .i64 n]) (by simp [results, Tryd.results28, go_sem, hu, hlt, hne, hc0, hc1, hc2, hf0, hf1, hf2]) rfl ⟨⟨0, ⟨#[]⟩, ⟨#[]⟩, _, rfl, Nat.zero_le _⟩, ?_⟩
    have := HB1.out.size
    repeat (first | exact HB1.out | refine Below.setCell ?_ (by simp) _ | refine Below.alloc ?_ (by simpa using this) _)
end Go.Proofs.YtjfbmjegdjpfbaaDoor
