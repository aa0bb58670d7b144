/- The number of a text's decimal digits, or -1: number of the program and digits of the reference. -/
import Derived.Test.YtjfbmjegdjpfbaaDoorDateLeaf
import Derived.Lib.Hide
import Derived.Lib.ConvBytes
namespace Go.Proofs.YtjfbmjegdjpfbaaDoor
open Go Go.RowKit

def isDig (c : UInt8) : Bool := decide (48 ≤ c.toNat) && decide (c.toNat ≤ 57)
def valL (l : List UInt8) : Int := l.foldl (fun n c => 10 * n + ((c.toNat : Int) - 48)) 0
def numL (l : List UInt8) : Int := if l.all isDig then valL l else -1

theorem valL_snoc (l : List UInt8) (c : UInt8) : valL (l ++ [c]) = 10 * valL l + ((c.toNat : Int) - 48) := by simp [valL]
theorem take_snoc (s : ByteArray) (k : Nat) (h : k < s.size) : s.data.toList.take (k + 1) = s.data.toList.take k ++ [s[k]] := by
  rw [List.take_succ_eq_append_getElem (by simpa using h)]; rfl
theorem all_snoc (l : List UInt8) (c : UInt8) : (l ++ [c]).all isDig = (l.all isDig && isDig c) := by simp
theorem fold_bd (l : List UInt8) : ∀ (a m : Int), 0 ≤ a → a < m → 1 ≤ m → l.all isDig = true → 0 ≤ l.foldl (fun n c => 10 * n + ((c.toNat : Int) - 48)) a ∧ l.foldl (fun n c => 10 * n + ((c.toNat : Int) - 48)) a < m * 10 ^ l.length := by
  induction l with
  | nil => intro a m h0 h1 _ _; exact ⟨h0, by rw [List.length_nil, Int.pow_zero, Int.mul_one]; exact h1⟩
  | cons c l ih =>
    intro a m h0 h1 hm h
    simp only [List.all_cons, Bool.and_eq_true] at h
    obtain ⟨h2, h3⟩ := h
    simp only [isDig, Bool.and_eq_true, decide_eq_true_eq] at h2
    have := ih (10 * a + ((c.toNat : Int) - 48)) (m * 10) (by omega) (by omega) (by omega) h3
    rw [List.foldl_cons, List.length_cons, Int.pow_succ, Int.mul_comm (10 ^ l.length) 10, ← Int.mul_assoc]
    exact this
theorem valL_bd (l : List UInt8) (h : l.all isDig = true) : 0 ≤ valL l ∧ valL l < 10 ^ l.length := by
  have := fold_bd l 0 1 (by omega) (by omega) (by omega) h
  simpa [valL] using this
theorem pow_bd {n : Nat} (h : n ≤ 17) : (10 : Int) ^ n ≤ 100000000000000000 := by
  have h1 : (10 : Nat) ^ n ≤ 10 ^ 17 := Nat.pow_le_pow_right (by omega) h
  have e : (10 : Int) ^ n = ((10 ^ n : Nat) : Int) := by rw [Int.natCast_pow]; rfl
  rw [e]
  have h2 : (10 : Nat) ^ n ≤ 100000000000000000 := h1
  omega
theorem ret_int {k : IntKind} {a b : Int} (h : a = b) : Ending.returned (.int k a) = .returned (.int k b) := by rw [h]
theorem valL_small (l : List UInt8) (hl : l.length ≤ 17) (h : l.all isDig = true) : 0 ≤ valL l ∧ valL l ≤ 100000000000000000 := by
  have := valL_bd l h
  have := pow_bd hl
  omega
theorem numL_some {l : List UInt8} (h : l.all isDig = true) : numL l = valL l := by simp [numL, h]
theorem numL_none {l : List UInt8} (h : l.all isDig = false) : numL l = -1 := by simp [numL, h]
theorem all_take {l : List UInt8} {k : Nat} (h : (l.take k).all isDig = false) : l.all isDig = false := by
  rw [← List.take_append_drop k l, List.all_append, h]; rfl

set_option maxHeartbeats 1000000 in
theorem digits_any (s : ByteArray) (w : World) (hs : s.size ≤ 17) :
    Calls Tryd.prog 31 #[.string s] w fun e w' => e = .returned (.int .i64 (numL s.data.toList)) ∧ w = w' := by
  go_enter Tryd.func31, Tryd.ntmps31
  go_wp2
  go_loop [3, 4] (fun n i => ∃ k : Nat, k ≤ s.size ∧ i = .int .i64 k ∧ n = .int .i64 (valL (s.data.toList.take k)) ∧ (s.data.toList.take k).all isDig = true) (fun _ i => s.size - (intOf i).toNat)
  case atStart => exact ⟨0, Nat.zero_le _, rfl, rfl, rfl⟩
  case round =>
    obtain ⟨k, hk, rfl, rfl, had⟩ := hrel
    have hv := valL_small _ (by rw [List.length_take]; omega) had
    by_cases hlt : k < s.size
    · have hts := Lib.hid (take_snoc s k hlt)
      have HAD := Lib.hid had
      clear had
      by_cases hd : isDig s[k] = true
      · have HD := Lib.hid hd
        simp only [isDig, Bool.and_eq_true, decide_eq_true_eq] at hd
        have d1 : decide ((s[k].toNat : Int) < 48) = false := by simp; omega
        have d2 : decide ((57 : Int) < (s[k].toNat : Int)) = false := by simp; omega
        have d3 : (48 : Int) ≤ (s[k].toNat : Int) := by omega
        have d4 : (s[k].toNat : Int) ≤ 57 := by omega
        clear hd
        go_wp2
        go_round
        case rel => exact ⟨k + 1, by omega, by go_num, by rw [hts.out, valL_snoc], by rw [hts.out, all_snoc, HAD.out, HD.out]; rfl⟩
        case measure => simp [intOf]; omega
      · have hn : numL s.data.toList = -1 := numL_none (all_take (k := k + 1) (by rw [hts.out, all_snoc]; simp [hd]))
        have HN := Lib.hid hn
        clear hn
        simp only [isDig, Bool.and_eq_true, decide_eq_true_eq] at hd
        by_cases h48 : s[k].toNat < 48
        · have d1 : decide ((s[k].toNat : Int) < 48) = true := by simp; omega
          clear hd h48
          go_wp2
          go_ret
          exact ⟨ret_int HN.out.symm, rfl⟩
        · have d1 : decide ((s[k].toNat : Int) < 48) = false := by simp; omega
          have d2 : decide ((57 : Int) < (s[k].toNat : Int)) = true := by simp; omega
          clear hd h48
          go_wp2
          go_ret
          exact ⟨ret_int HN.out.symm, rfl⟩
    · have he : s.data.toList.take k = s.data.toList := List.take_of_length_le (by simp; omega)
      rw [he] at had hv ⊢
      have HAD := Lib.hid had
      clear had he
      go_wp2
      go_ret
      exact ⟨ret_int (numL_some HAD.out).symm, rfl⟩

theorem below_bytesWorld (w : World) (e : TypeId) (s : ByteArray) : Below w.heap.size w (Lib.bytesWorld w e s) :=
  ⟨rfl, rfl, rfl, by rw [Lib.bytesWorld_size]; omega, fun j hj => Lib.bytesWorld_at_old w e s j hj⟩

set_option maxHeartbeats 1000000 in
theorem number_any (s : ByteArray) (w : World) (hs : s.size ≤ 17) :
    Calls Tryd.prog 29 #[.string s] w fun e w' => e = .returned (.int .i64 (numL s.data.toList)) ∧ Below w.heap.size w w' := by
  have kc := Lib.run_convert_string_bytes (P := Tryd.prog) w 9 44 5 s Tryd.underlying9 Tryd.underlying44 Tryd.underlying5
  have hcell := Lib.bytesWorld_cell w 5 s
  obtain ⟨W, hW⟩ : ∃ W, W = Lib.bytesWorld w 5 s := ⟨_, rfl⟩
  have hb : Below w.heap.size w W := by rw [hW]; exact below_bytesWorld w _ s
  rw [← hW] at kc hcell
  have HC := Lib.hid hcell
  have HB := Lib.hid hb
  clear hW hcell hb
  go_enter Tryd.func29, Tryd.ntmps29
  go_wp2
  clear kc
  go_loop [3, 9] (fun n i => ∃ k : Nat, k ≤ s.size ∧ i = .int .i64 k ∧ n = .int .i64 (valL (s.data.toList.take k)) ∧ (s.data.toList.take k).all isDig = true) (fun _ i => s.size - (intOf i).toNat)
  case atStart => exact ⟨0, Nat.zero_le _, rfl, rfl, rfl⟩
  case round =>
    obtain ⟨k, hk, rfl, rfl, had⟩ := hrel
    have hv := valL_small _ (by rw [List.length_take]; omega) had
    by_cases hlt : k < s.size
    · have hts := Lib.hid (take_snoc s k hlt)
      have hg : s.data.toList.getD k 0 = s[k] := by simp [List.getD, hlt]; rfl
      have hc := HC.out k hlt
      rw [hg] at hc
      have HAD := Lib.hid had
      clear had hg
      by_cases hd : isDig s[k] = true
      · have HD := Lib.hid hd
        simp only [isDig, Bool.and_eq_true, decide_eq_true_eq] at hd
        have d1 : decide ((s[k].toNat : Int) < 48) = false := by simp; omega
        have d2 : decide ((57 : Int) < (s[k].toNat : Int)) = false := by simp; omega
        have d3 : (48 : Int) ≤ (s[k].toNat : Int) := by omega
        have d4 : (s[k].toNat : Int) ≤ 57 := by omega
        clear hd
        go_wp2
        go_round
        case rel => exact ⟨k + 1, by omega, by go_num, by rw [hts.out, valL_snoc], by rw [hts.out, all_snoc, HAD.out, HD.out]; rfl⟩
        case measure => simp [intOf]; omega
      · have hn : numL s.data.toList = -1 := numL_none (all_take (k := k + 1) (by rw [hts.out, all_snoc]; simp [hd]))
        have HN := Lib.hid hn
        clear hn
        simp only [isDig, Bool.and_eq_true, decide_eq_true_eq] at hd
        by_cases h48 : s[k].toNat < 48
        · have d1 : decide ((s[k].toNat : Int) < 48) = true := by simp; omega
          clear hd h48
          go_wp2
          go_ret
          exact ⟨ret_int HN.out.symm, HB.out⟩
        · have d1 : decide ((s[k].toNat : Int) < 48) = false := by simp; omega
          have d2 : decide ((57 : Int) < (s[k].toNat : Int)) = true := by simp; omega
          clear hd h48
          go_wp2
          go_ret
          exact ⟨ret_int HN.out.symm, HB.out⟩
    · have he : s.data.toList.take k = s.data.toList := List.take_of_length_le (by simp; omega)
      rw [he] at had hv ⊢
      have HAD := Lib.hid had
      clear had he
      go_wp2
      go_ret
      exact ⟨ret_int (numL_some HAD.out).symm, HB.out⟩
end Go.Proofs.YtjfbmjegdjpfbaaDoor
