/- pad of the reference returns a number's digits: over the printed texts' contract. -/
import Derived.Test.YtjfbmjegdjpfbaaDoorPDateEncodex2
import Derived.Test.YtjfbmjegdjpfbaaDoorDatePut
namespace Go.Proofs.YtjfbmjegdjpfbaaDoor
open Go Go.RowKit
open PDateEncode (certpathref01_Dec.f certpathref01_pad.f certpathref01_pad.l0 certpathref01_pad.calls)

theorem str_app (a b : List Int) : strOfNums a ++ strOfNums b = strOfNums (a ++ b) := by
  apply ByteArray.ext
  simp [strOfNums]
theorem w64 {n : Int} (h : -9223372036854775808 ≤ n ∧ n ≤ 9223372036854775807) : wrap64 n = n := by unfold wrap64; omega
theorem dec_small (k : Nat) {n : Int} (h0 : 0 ≤ n) (h1 : n < 10) : certpathref01_Dec.f (k + 1) n = some (strOfNums [48 + n]) := by
  simp only [certpathref01_Dec.f]
  rw [if_pos h1, w64 (by omega), Int.emod_eq_of_lt (by omega) (by omega)]
theorem dec_step (k : Nat) {n : Int} {l : List Int} (h0 : 10 ≤ n) (h1 : n ≤ 1000000) (h : certpathref01_Dec.f k (n / 10) = some (strOfNums l)) (hl : l.length ≤ 100) : certpathref01_Dec.f (k + 1) n = some (strOfNums (l ++ [48 + n % 10])) := by
  simp only [certpathref01_Dec.f]
  rw [if_neg (by omega), Int.tdiv_eq_ediv_of_nonneg (by omega), w64 (by omega), h]
  simp only [Option.bind_some]
  rw [if_pos (by rw [strOfNums_size, strOfNums_size]; simp; omega), Int.tmod_eq_emod_of_nonneg (by omega), w64 (by omega), Int.emod_eq_of_lt (by omega) (by omega), str_app]
theorem dec_two (k : Nat) {n : Int} (h0 : 10 ≤ n) (h1 : n ≤ 99) : certpathref01_Dec.f (k + 2) n = some (strOfNums [48 + n / 10, 48 + n % 10]) :=
  dec_step (k + 1) h0 (by omega) (dec_small k (by omega) (by omega)) (by simp)
theorem dec_three (k : Nat) {n : Int} (h0 : 100 ≤ n) (h1 : n ≤ 999) : certpathref01_Dec.f (k + 3) n = some (strOfNums [48 + n / 10 / 10, 48 + n / 10 % 10, 48 + n % 10]) :=
  dec_step (k + 2) (by omega) (by omega) (dec_two k (by omega) (by omega)) (by simp)
theorem dec_four (k : Nat) {n : Int} (h0 : 1000 ≤ n) (h1 : n ≤ 9999) : certpathref01_Dec.f (k + 4) n = some (strOfNums [48 + n / 10 / 10 / 10, 48 + n / 10 / 10 % 10, 48 + n / 10 % 10, 48 + n % 10]) :=
  dec_step (k + 3) (by omega) (by omega) (dec_three k (by omega) (by omega)) (by simp)
theorem pad_done (k : Nat) {v n : Int} {l : List Int} (h : (l.length : Int) = n) (hd : certpathref01_Dec.f (k + 1) v = some (strOfNums l)) : certpathref01_pad.f (k + 1) v n = some (strOfNums l) := by
  simp only [certpathref01_pad.f]
  rw [hd]
  simp only [Option.bind_some, certpathref01_pad.l0]
  rw [if_neg (by rw [strOfNums_size]; omega)]
theorem pad_two_small {v : Int} (h0 : 0 ≤ v) (h1 : v < 10) : certpathref01_pad.f 9 v 2 = some (strOfNums [48, 48 + v]) := by
  simp only [certpathref01_pad.f]
  rw [dec_small 8 h0 h1]
  simp only [Option.bind_some, certpathref01_pad.l0]
  rw [if_pos (by rw [strOfNums_size]; simp), if_pos (by rw [strOfNums_size]; simp), show (⟨#[48]⟩ : ByteArray) = strOfNums [48] from rfl, str_app, if_neg (by rw [strOfNums_size]; simp)]
  rfl
theorem digs_two {n : Int} (n0 : 0 ≤ n) (n1 : n ≤ 99) : digs n 2 = [48 + n / 10, 48 + n % 10] := by
  simp only [digs, Int.pow_zero, Int.pow_succ, Int.one_mul, Int.ediv_one]
  rw [show n / 10 % 10 = n / 10 from by omega]
theorem digs_four {n : Int} (n0 : 0 ≤ n) (n1 : n ≤ 9999) : digs n 4 = [48 + n / 10 / 10 / 10, 48 + n / 10 / 10 % 10, 48 + n / 10 % 10, 48 + n % 10] := by
  simp only [digs, Int.pow_zero, Int.pow_succ, Int.one_mul, Int.ediv_one, show (10 : Int) * 10 = 100 from rfl, show (100 : Int) * 10 = 1000 from rfl]
  rw [show n / 1000 % 10 = n / 10 / 10 / 10 from by omega, show n / 100 % 10 = n / 10 / 10 % 10 from by omega]

theorem pad2_any (v : Int) (w : World) (h0 : 0 ≤ v) (h1 : v ≤ 99) : Calls Tryd.prog 33 #[.int .i64 v, .int .i64 2] w fun e w' => e = .returned (.string (strOfNums (digs v 2))) ∧ Below w.heap.size w w' := by
  refine certpathref01_pad.calls 9 v 2 _ w ?_
  rw [digs_two h0 h1]
  by_cases h : v < 10
  · rw [pad_two_small h0 h, show v / 10 = 0 from by omega, show v % 10 = v from by omega]; rfl
  · exact pad_done 8 rfl (dec_two 7 (by omega) h1)
theorem pad4_any (v : Int) (w : World) (h0 : 1000 ≤ v) (h1 : v ≤ 9999) : Calls Tryd.prog 33 #[.int .i64 v, .int .i64 4] w fun e w' => e = .returned (.string (strOfNums (digs v 4))) ∧ Below w.heap.size w w' := by
  refine certpathref01_pad.calls 9 v 4 _ w ?_
  rw [digs_four (by omega) h1]
  exact pad_done 8 rfl (dec_four 5 h0 h1)
theorem pad_any (v k : Int) (w : World) (h : (k = 2 ∧ 0 ≤ v ∧ v ≤ 99) ∨ (k = 4 ∧ 1000 ≤ v ∧ v ≤ 9999)) : Calls Tryd.prog 33 #[.int .i64 v, .int .i64 k] w fun e w' => e = .returned (.string (strOfNums (digs v k.toNat))) ∧ Below w.heap.size w w' := by
  rcases h with ⟨rfl, h0, h1⟩ | ⟨rfl, h0, h1⟩
  · exact pad2_any v w h0 h1
  · exact pad4_any v w h0 h1
end Go.Proofs.YtjfbmjegdjpfbaaDoor
