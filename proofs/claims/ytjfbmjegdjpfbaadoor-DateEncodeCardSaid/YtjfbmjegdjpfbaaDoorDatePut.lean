/- put appends a number's digits to bytes of the caller's own. -/
import Derived.Test.YtjfbmjegdjpfbaaDoorProg
import Derived.WalkKit
import Derived.KernelRfl
import Derived.LoopTactic
import Derived.Below
import Derived.Outline
import Derived.OwnWalk
import Derived.Maps.AppendAt
import Derived.Laws.OwnMore
import Derived.Deep.Draws
import Derived.Lib.Hide
namespace Go.Proofs.YtjfbmjegdjpfbaaDoor
open Go Go.RowKit

/-- The last k decimal digits of n, as bytes. -/
def digs (n : Int) : Nat → List Int
  | 0 => []
  | k + 1 => (48 + (n / 10 ^ k) % 10) :: digs n k
theorem digs_len (n : Int) (k : Nat) : (digs n k).length = k := by
  induction k with
  | zero => rfl
  | succ k ih => simp [digs, ih]

/-- Bytes of the caller's own. -/
def OwnB (w : World) (B : Nat) (v : Value) (l : List Int) : Prop := w.ownsRow B 5 1 v l.length (l.map (Value.int .u8))

theorem grown_refl (w : World) (r : Option Nat) : w.grownBy w r := ⟨rfl, rfl, rfl, Nat.le_refl _, fun _ _ _ => rfl⟩
theorem grown_step {w wr w1 : World} {r r' : Option Nat} (h : w.grownBy wr r) (g : wr.grownBy w1 r') (hr : r' = r ∨ ∀ k, r' = some k → w.heap.size ≤ k) : w.grownBy w1 r :=
  ⟨g.os.trans h.os, g.tape.trans h.tape, g.output.trans h.output, Nat.le_trans h.size g.size, fun k hk hne => by
    refine (g.block k (Nat.lt_of_lt_of_le hk h.size) ?_).trans (h.block k hk hne)
    rcases hr with rfl | hr
    · exact hne
    · intro e; have := hr k e.symm; omega⟩
theorem grown_alloc {w wr : World} {r : Option Nat} (h : w.grownBy wr r) (o : Obj) : w.grownBy (wr.alloc o) r :=
  ⟨h.os, h.tape, h.output, Nat.le_trans h.size (by simp), fun k hk hne => (Below.heap_alloc wr o k (Nat.lt_of_lt_of_le hk h.size)).trans (h.block k hk hne)⟩

theorem OwnB.form {w : World} {B : Nat} {v : Value} {l : List Int} (h : OwnB w B v l) : ∃ A c, v = .slice A l.length c := by
  rcases h.2 with ⟨rfl, h0⟩ | ⟨g, cap, cur, rfl, _⟩
  · exact ⟨none, 0, by rw [h0]⟩
  · exact ⟨_, _, rfl⟩
theorem OwnB.at_ {w : World} {B : Nat} {v : Value} {l : List Int} (h : OwnB w B v l) (hl : 0 < l.length) : ∃ g c, v = .slice (some ⟨g, 0, none⟩) l.length c ∧ B ≤ g ∧ g < w.heap.size := by
  rcases h.2 with ⟨rfl, h0⟩ | ⟨g, cap, cur, rfl, hb, hg, _⟩
  · omega
  · exact ⟨g, cap, rfl, hb, (Array.getElem?_eq_some_iff.1 hg).1⟩
theorem OwnB.mk' {w : World} {B n : Nat} {v : Value} {xs : List Value} {l : List Int} (h : w.ownsRow B 5 1 v n xs) (hn : n = l.length) (hx : xs = l.map (Value.int .u8)) : OwnB w B v l := by
  subst hn hx; exact h
/-- Where the row lies behind some steps. -/
theorem at_step {w : World} {N : Nat} {r r1 r0 : Option Nat} (hs : w.heap.size ≤ N) (h : r = r0 ∨ ∀ g, r = some g → w.heap.size ≤ g) (hat : r1 = r ∨ r1 = some N) : r1 = r0 ∨ ∀ g, r1 = some g → w.heap.size ≤ g := by
  rcases hat with rfl | rfl
  · exact h
  · exact .inr fun g hg => by cases hg; exact hs
theorem div_pow (n : Int) (hn : 0 ≤ n) (t : Nat) : 0 ≤ n / 10 ^ t ∧ n / 10 ^ t ≤ n ∧ n / 10 ^ (t + 1) = n / 10 ^ t / 10 := by
  have hp : (0 : Int) < 10 ^ t := Int.pow_pos (by omega)
  exact ⟨Int.ediv_nonneg hn (by omega), Int.ediv_le_self _ hn, by rw [Int.pow_succ, Int.ediv_ediv_of_nonneg (by omega)]⟩
theorem set_mid (l : List Int) (j : Nat) (d : Int) (r : List Int) : (l ++ List.replicate (j + 1) 48 ++ r).set (l.length + j) d = l ++ List.replicate j 48 ++ (d :: r) := by
  rw [List.replicate_succ', ← List.append_assoc, List.append_assoc (l ++ List.replicate j 48), List.set_append_right _ _ (by simp)]
  simp
theorem OwnB.cell {w : World} {B g n c : Nat} {l : List Int} (h : OwnB w B (.slice (some ⟨g, 0, none⟩) n c) l) (hn : n = l.length) (j : Nat) (hj : j < n) : ∃ x, w.cell? ⟨g, j, none⟩ = some (.int .u8 x) := by
  subst hn
  refine ⟨l[j], (World.ownsRow.cellAt h j (by omega)).trans ?_⟩
  simp [List.getElem?_eq_getElem hj]
theorem OwnB.frozen {w : World} {B g n c : Nat} {l : List Int} (h : OwnB w B (.slice (some ⟨g, 0, none⟩) n c) l) (hn : n = l.length) (j : Nat) : w.frozen? ⟨g, j, none⟩ = false := by
  subst hn
  exact World.ownsRow.frozenAt h j
theorem OwnB.store {w : World} {B g n c : Nat} {l : List Int} (h : OwnB w B (.slice (some ⟨g, 0, none⟩) n c) l) (hn : n = l.length) (j : Nat) (x : Int) :
    OwnB (w.setCell ⟨g, j, none⟩ (.int .u8 x)) B (.slice (some ⟨g, 0, none⟩) n c) (l.set j x) ∧ w.grownBy (w.setCell ⟨g, j, none⟩ (.int .u8 x)) (some g) := by
  subst hn
  obtain ⟨h1, h2⟩ := World.ownsRow.stored h j (.int .u8 x)
  exact ⟨OwnB.mk' h1 (by simp) (by rw [List.map_set]), h2⟩
theorem infoU8 : (Tryd.prog.info? 5).map (fun i => (i.zero, i.size, i.bytes)) = some (some (.int .u8 0), 1, 1) := by kernel_rfl

set_option maxHeartbeats 4000000 in
theorem put_any (B : Nat) (v : Value) (l : List Int) (n : Int) (k : Nat) (w : World) (hB : B ≤ w.heap.size) (hl : l.length + k ≤ 100) (hn0 : 0 ≤ n) (hn1 : n ≤ 1000000)
    (hown : OwnB w B v l) :
    Calls Tryd.prog 32 #[v, .int .i64 n, .int .i64 k] w fun e w' => ∃ v', e = .returned v' ∧ OwnB w' B v' (l ++ digs n k) ∧ w.grownBy w' v.ownBlock ∧ (v'.ownBlock = v.ownBlock ∨ ∀ g, v'.ownBlock = some g → w.heap.size ≤ g) := by
  obtain ⟨i0, hi, hz0, hz1, hz2⟩ := info_parts infoU8
  obtain ⟨A, c, rfl⟩ := hown.form
  generalize hv : Value.slice A l.length c = v0 at hown ⊢
  have HV := Lib.hid hv.symm
  clear hv
  have H0 := Lib.hid hown
  clear hown
  rw [HV.out]
  go_enter Tryd.func32, Tryd.ntmps32
  go_wp2
  go_loopw [0, 8] (fun s j wr => ∃ t : Nat, t ≤ k ∧ j = .int .i64 t ∧ Hid (OwnB wr B s (l ++ List.replicate t 48)) ∧ Hid (w.grownBy wr v0.ownBlock) ∧ Hid (s.ownBlock = v0.ownBlock ∨ ∀ g, s.ownBlock = some g → w.heap.size ≤ g)) (fun _ j _ => k - (intOf j).toNat)
  case atStart => exact ⟨0, Nat.zero_le _, rfl, by rw [← HV.out]; simpa using H0, Lib.hid (grown_refl _ _), Lib.hid (.inl (by rw [HV.out]))⟩
  case round =>
    obtain ⟨t, ht, rfl, ho, hg, hw⟩ := hrel
    by_cases hlt : t < k
    · have hlen : (l ++ List.replicate t (48 : Int)).length = l.length + t := by simp
      have HLEN := Lib.hid hlen
      clear hlen
      have d1 : decide (t < k) = true := by simpa using hlt
      obtain ⟨W, rfl⟩ : ∃ W : World, W = wr := ⟨_, rfl⟩
      go_wp2_with (at_builtin; refine wpList_append_own_at _ rfl _ _ 44 rfl B 5 i0 (.int .u8 0) 1 1 Tryd.underlying44 hi hz0 hz1 hz2 rfl (by decide) _ _ _ rfl ((show World.ownsRow _ _ _ _ _ _ _ from ho.out).alloc _) ⟨W.heap.size, 0, none⟩ 1 1 [.int .u8 48] rfl rfl ?c1 ?c2 ?c3 ?c4 ?c5 ?_)
      case c1 => exact cell_one_new _ _ _
      case c2 => intro u hu; rw [List.mem_singleton.1 hu]; rfl
      case c3 => rw [HLEN.out]; unfold maxLen; omega
      case c4 => rw [HLEN.out]; omega
      case c5 => have := hg.out.size; simp; omega
      intro v' w1 hown' hgrow _ hat
      have hs := hg.out.size
      have o1 : Hid (OwnB w1 B v' (l ++ List.replicate (t + 1) 48)) := Lib.hid (OwnB.mk' hown' (by simp; omega) (by simp [List.replicate_succ']))
      have g1 : Hid (w.grownBy w1 v0.ownBlock) := Lib.hid (grown_step (grown_alloc hg.out _) hgrow hw.out)
      have a1 := Lib.hid (at_step (by omega) hw.out hat)
      clear hown' hgrow hat
      go_wp2_with fail
      go_roundw
      case rel => exact ⟨t + 1, by omega, by go_num, o1, g1, a1⟩
      case measure => simp [intOf]; omega
    · obtain rfl : k = t := by omega
      have d1 : decide (k < k) = false := by simp
      obtain ⟨W, rfl⟩ : ∃ W : World, W = wr := ⟨_, rfl⟩
      have hlen : (l ++ List.replicate k (48 : Int)).length = l.length + k := by simp
      obtain ⟨A1, c1, hs1⟩ := ho.out.form
      rw [hlen] at hs1
      have HLEN := Lib.hid hlen
      clear hlen
      by_cases hk : k = 0
      · subst hk
        subst hs1
        go_wp2_with fail
        go_loop [9] (fun j => j = .int .i64 ((l.length : Int) - 1)) (fun _ => 0)
        case atStart => rfl
        case round =>
          subst hrel
          go_wp2_with fail
          go_ret
          exact ⟨_, rfl, by simpa [digs] using ho.out, by rw [← HV.out]; exact hg.out, by rw [← HV.out]; exact hw.out⟩
      · obtain ⟨g, c2, hs2, hg1, hg2⟩ := ho.out.at_ (by rw [HLEN.out]; omega)
        rw [HLEN.out] at hs2
        have hs3 := hs1.symm.trans hs2
        subst hs1
        injection hs3 with e1 e2 e3
        subst e1 e3
        clear e2 hs2 d1
        have HG := Lib.hid hg.out
        have hlk : l.length + k ≤ 100 := hl
        clear hg
        go_wp2_with fail
        go_loopw [1, 9] (fun m j wr => ∃ t : Nat, t ≤ k ∧ j = .int .i64 ((l.length : Int) + k - 1 - t) ∧ m = .int .i64 (n / 10 ^ t) ∧
            Hid (OwnB wr B (.slice (some ⟨g, 0, none⟩) (l.length + k) c1) (l ++ List.replicate (k - t) 48 ++ digs n t)) ∧ Hid (w.grownBy wr v0.ownBlock)) (fun _ j _ => (intOf j + 1 - l.length).toNat)
        case atStart => exact ⟨0, Nat.zero_le _, by simp, by simp, Lib.hid (by simpa [digs] using ho.out), HG⟩
        case round =>
          obtain ⟨t, ht, rfl, rfl, ho1, hg3⟩ := hrel
          obtain ⟨W1, rfl⟩ : ∃ W : World, W = wr := ⟨_, rfl⟩
          obtain ⟨p0, p1, p2⟩ := div_pow n hn0 t
          have P2 := Lib.hid p2
          clear p2
          have hln : (l ++ List.replicate (k - t) 48 ++ digs n t).length = l.length + k := by simp [digs_len]; omega
          by_cases hlt : t < k
          · obtain ⟨x, hx⟩ := ho1.out.cell hln.symm (l.length + k - 1 - t) (by omega)
            have hz := ho1.out.frozen hln.symm (l.length + k - 1 - t)
            obtain ⟨s1, s2⟩ := ho1.out.store hln.symm (l.length + k - 1 - t) (48 + n / 10 ^ t % 10)
            rw [show k - t = (k - t - 1) + 1 from by omega, show l.length + k - 1 - t = l.length + (k - t - 1) from by omega, set_mid, show k - t - 1 = k - (t + 1) from by omega] at s1
            rw [show l.length + (k - (t + 1)) = l.length + k - 1 - t from by omega] at s1
            have S1 := Lib.hid s1
            have S2 := Lib.hid s2
            clear s1 s2 hln
            go_wp2_with fail
            go_roundw
            case rel => exact ⟨t + 1, by omega, by go_num, by rw [P2.out], S1, Lib.hid (grown_step hg3.out S2.out hw.out)⟩
            case measure => simp [intOf]; omega
          · obtain rfl : t = k := by omega
            go_wp2_with fail
            go_ret
            exact ⟨_, rfl, by simpa using ho1.out, by rw [← HV.out]; exact hg3.out, by rw [← HV.out]; exact hw.out⟩
end Go.Proofs.YtjfbmjegdjpfbaaDoor
