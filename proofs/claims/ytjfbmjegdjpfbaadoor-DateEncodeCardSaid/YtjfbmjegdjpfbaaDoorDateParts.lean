/- parts: the date whose fields are the numbers of the pairs of a text. -/
import Derived.Test.YtjfbmjegdjpfbaaDoorDateNum
import Derived.Test.YtjfbmjegdjpfbaaDoorDateRef
import Derived.Deep.RegionHeld3
namespace Go.Proofs.YtjfbmjegdjpfbaaDoor
open Go Go.RowKit

theorem chain_below {w w0 w1 : World} {o : Obj} (hb : Below w0.heap.size w0 w1) (h : Hid (Below (w.heap.size + 1) (w.alloc o) w0)) : Hid (Below (w.heap.size + 1) (w.alloc o) w1) :=
  Lib.hid (h.out.trans (hb.mono (by have := h.out.size; simpa using this)))
theorem low_below {w w1 : World} {o : Obj} (h : Hid (Below (w.heap.size + 1) (w.alloc o) w1)) : Below w.heap.size w w1 :=
  ((Below.refl _ _).alloc (Nat.le_refl _) _).trans (h.out.mono (by omega))

/-- The number of the pair of bytes at i. -/
def pr (l : List UInt8) (i : Nat) : Int := numL ((l.drop i).take 2)

set_option maxRecDepth 100000 in
set_option maxHeartbeats 4000000 in
theorem parts_any (y : Int) (s : ByteArray) (w : World) (hs : 10 ≤ s.size) (hs2 : s.size ≤ 17) :
    Calls Tryd.prog 30 #[.int .i64 y, .string s] w fun e w' => e = .returned (dval ⟨y, pr s.data.toList 0, pr s.data.toList 2, pr s.data.toList 4, pr s.data.toList 6, pr s.data.toList 8⟩) ∧ Below w.heap.size w w' := by
  have j2 : 2 ≤ s.size := by omega
  have i2 : (2 : Int) ≤ (s.size : Int) := by omega
  have j4 : 4 ≤ s.size := by omega
  have i4 : (4 : Int) ≤ (s.size : Int) := by omega
  have j6 : 6 ≤ s.size := by omega
  have i6 : (6 : Int) ≤ (s.size : Int) := by omega
  have j8 : 8 ≤ s.size := by omega
  have i8 : (8 : Int) ≤ (s.size : Int) := by omega
  have j10 : 10 ≤ s.size := by omega
  have i10 : (10 : Int) ≤ (s.size : Int) := by omega
  go_enter Tryd.func30, Tryd.ntmps30
  go_wp2_with fail
  have HS := Lib.hid ((Below.refl (w.heap.size + 1) (w.alloc (.cells #[.int .i64 0, .int .i64 0, .int .i64 0, .int .i64 0, .int .i64 0, .int .i64 0] 27))).drew)
  go_region_held3 (fun _ => True) (trivial)
    (first | (go_at_call 29; refine (number_any _ _ ?hsz).mono ?_; (case hsz => simp [ByteArray.size_extract]; omega); rintro e w1 ⟨rfl, hb1⟩; have HS1 := chain_below hb1 HS; clear hb1 HS; have HS := HS1; clear HS1; (try clear q0 q1 q2 q3 q4 q5 hf hlt); obtain ⟨⟨q0, q1, q2, q3, q4, q5⟩, hf, hlt⟩ := six_later HS.out))
  go_wp2_with fail
  refine bodyPost_ret (by simp [results, Tryd.results30, go_sem, q0, q1, q2, q3, q4, q5]; rfl) rfl ⟨rfl, ?_⟩
  iterate 6 refine Below.setCell ?_ (by simp) _
  exact low_below HS
end Go.Proofs.YtjfbmjegdjpfbaaDoor
