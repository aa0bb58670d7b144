/- Parse of the program comes to parF. -/
import Derived.Test.YtjfbmjegdjpfbaaDoorDateDec
import Derived.Test.YtjfbmjegdjpfbaaDoorDateFmt
import Derived.Test.YtjfbmjegdjpfbaaDoorDateOrd
import Derived.Test.YtjfbmjegdjpfbaaDoorLater
namespace Go.Proofs.YtjfbmjegdjpfbaaDoor
open Go Go.RowKit

def SepOk (l : List UInt8) (i : Nat) : Prop := l.getD (4 + 3 * i) 0 = U8 (sepI i)
instance (l : List UInt8) (i : Nat) : Decidable (SepOk l i) := inferInstanceAs (Decidable (_ = _))
/-- The date that a text of 19 bytes shows. -/
def dateOf (l : List UInt8) : DM.D6 := ⟨numL (l.take 4), numL ((l.drop 5).take 2), numL ((l.drop 8).take 2), numL ((l.drop 11).take 2), numL ((l.drop 14).take 2), numL ((l.drop 17).take 2)⟩
/-- The time that a text shows, or 0 and ErrTime. -/
noncomputable def parF (l : List UInt8) : Int × Int :=
  if l.length = 19 ∧ (SepOk l 0 ∧ SepOk l 1 ∧ SepOk l 2 ∧ SepOk l 3 ∧ SepOk l 4) then secF (dateOf l) else (0, 12)
theorem parF_len {l : List UInt8} (h : l.length ≠ 19) : parF l = (0, 12) := by simp [parF, h]
theorem parF_sep {l : List UInt8} {i : Nat} (hi : i < 5) (h : ¬ SepOk l i) : parF l = (0, 12) := by
  unfold parF
  rw [if_neg]
  rintro ⟨_, h0, h1, h2, h3, h4⟩
  have : i = 0 ∨ i = 1 ∨ i = 2 ∨ i = 3 ∨ i = 4 := by omega
  rcases this with rfl | rfl | rfl | rfl | rfl <;> exact h ‹_›
theorem parF_ok {l : List UInt8} (hl : l.length = 19) (h : ∀ i, i < 5 → SepOk l i) : parF l = secF (dateOf l) := by
  unfold parF
  rw [if_pos ⟨hl, h 0 (by omega), h 1 (by omega), h 2 (by omega), h 3 (by omega), h 4 (by omega)⟩]
theorem secF_year {x : DM.D6} (h : x.y < 0) : secF x = (0, 12) := secF_no fun hv => by have := hv.1; omega

/-- The pairs of the first i fields. -/
def prs (l : List UInt8) : Nat → List UInt8
  | 0 => []
  | i + 1 => prs l i ++ (l.drop (5 + 3 * i)).take 2
theorem prs_len {l : List UInt8} (hl : l.length = 19) : ∀ i, i ≤ 5 → (prs l i).length = 2 * i
  | 0, _ => rfl
  | i + 1, h => by simp [prs, prs_len hl i (by omega)]; omega
theorem prs_step (s : ByteArray) (i : Nat) : (⟨(prs s.data.toList i).toArray⟩ : ByteArray) ++ s.extract (4 + 3 * i + 1) (4 + 3 * i + 3) = ⟨(prs s.data.toList (i + 1)).toArray⟩ := by
  apply ByteArray.ext
  apply Array.toList_inj.1
  simp [prs, show 4 + 3 * i + 1 = 5 + 3 * i from by omega, show 4 + 3 * i + 3 - (5 + 3 * i) = 2 from by omega]
theorem prs_dateAt {l : List UInt8} (hl : l.length = 19) (y : Int) : dateAt y (prs l 5) = ⟨y, numL ((l.drop 5).take 2), numL ((l.drop 8).take 2), numL ((l.drop 11).take 2), numL ((l.drop 14).take 2), numL ((l.drop 17).take 2)⟩ := by
  obtain ⟨a0, a1, a2, a3, a4, a5, a6, a7, a8, a9, b0, b1, b2, b3, b4, b5, b6, b7, b8, rfl⟩ : ∃ a0 a1 a2 a3 a4 a5 a6 a7 a8 a9 b0 b1 b2 b3 b4 b5 b6 b7 b8, l = [a0, a1, a2, a3, a4, a5, a6, a7, a8, a9, b0, b1, b2, b3, b4, b5, b6, b7, b8] := by
    match l, hl with
    | [a0, a1, a2, a3, a4, a5, a6, a7, a8, a9, b0, b1, b2, b3, b4, b5, b6, b7, b8], _ => exact ⟨a0, a1, a2, a3, a4, a5, a6, a7, a8, a9, b0, b1, b2, b3, b4, b5, b6, b7, b8, rfl⟩
  rfl

set_option maxHeartbeats 8000000 in
theorem parse_any (s : ByteArray) (w : World) (hL : Lens w) :
    Calls Tryd.prog 20 #[.string s] w fun e w' => e = .returned (two (parF s.data.toList)) ∧ Below w.heap.size w w' := by
  have HL := Lib.hid hL
  clear hL
  by_cases hlen : s.size = 19
  · have hsz : s.data.toList.length = 19 := by simpa using hlen
    have l1 : ((s.size : Int) != 19) = false := by simp; omega
    have i19 : (s.size : Int) ≤ 19 := by omega
    have j19 : (19 : Int) ≤ (s.size : Int) := by omega
    have HLEN := Lib.hid hlen
    have HSZ := Lib.hid hsz
    clear hlen hsz
    go_enter Tryd.func20, Tryd.ntmps20
    go_wp2_with fail
    go_loopw [4, 5] (fun p j wr => ∃ i : Nat, i ≤ 5 ∧ j = .int .i64 i ∧ p = .string ⟨(prs s.data.toList i).toArray⟩ ∧ Hid (∀ k, k < i → SepOk s.data.toList k) ∧ Hid (Below w.heap.size w wr)) (fun _ j _ => 5 - (intOf j).toNat)
    case atStart => exact ⟨0, by omega, rfl, rfl, Lib.hid (fun k hk => by omega), Lib.hid (Below.refl _ _)⟩
    case round =>
      obtain ⟨i, hi5, rfl, rfl, hsep, hb⟩ := hrel
      obtain ⟨W, rfl⟩ : ∃ W : World, W = wr := ⟨_, rfl⟩
      by_cases hlt : i < 5
      · have hat : 4 + 3 * i < s.size := by have := HLEN.out; omega
        have hb1 : (0 : Int) ≤ 4 + 3 * (i : Int) := by omega
        have hb2 : 4 + 3 * (i : Int) < (s.size : Int) := by omega
        have hg : s.data.toList.getD (4 + 3 * i) 0 = s[4 + 3 * i] := by simp [List.getD, hat]; rfl
        have hU : ((U8 (sepI i)).toNat : Int) = sepI i := toNat_U8 (by
          have : i = 0 ∨ i = 1 ∨ i = 2 ∨ i = 3 ∨ i = 4 := by omega
          rcases this with rfl | rfl | rfl | rfl | rfl <;> decide)
        have hpl : (prs s.data.toList i).length ≤ 10 := by rw [prs_len HSZ.out i (by omega)]; omega
        by_cases hm : SepOk s.data.toList i
        · have q1 : ((s[4 + 3 * i].toNat : Int) != ((⟨#[45, 45, 32, 58, 58]⟩ : ByteArray)[i]'(by exact hlt)).toNat) = false := by
            rw [sep_at i hlt, ← hU, ← hg, show s.data.toList.getD (4 + 3 * i) 0 = U8 (sepI i) from hm]; simp
          have HM := Lib.hid hm
          have Q1 := Lib.hid q1
          clear hg hU hm q1
          go_wp2_with fail
          refine wp_region_later (by kernel_rfl) (by kernel_rfl) ?_
          repeat (first | go_big_quiet_skip | (go_big_quiet_want; go_big_quiet_op; first | go_big_quiet_on | go_big_quiet_call (fail)))
          refine wpQuiet_nil ?_
          intro w2 hu2
          have HB2 := Lib.hid (hb.out.trans ((Later.out hu2).mono hb.out.size))
          clear hu2
          rw [Q1.out]
          have b1 : (0 : Int) ≤ 4 + 3 * (i : Int) + 1 := by omega
          have b2 : 4 + 3 * (i : Int) + 1 ≤ 4 + 3 * (i : Int) + 3 := by omega
          have b3 : 4 + 3 * (i : Int) + 3 ≤ (s.size : Int) := by omega
          have b4 : (0 : Int) ≤ 4 + 3 * (i : Int) + 3 := by omega
          go_wp2_with fail
          go_roundw
          case rel => exact ⟨i + 1, by omega, by go_num, by rw [prs_step], Lib.hid (fun k hk => by
            by_cases e : k = i
            · subst e; exact HM.out
            · exact hsep.out k (by omega)), HB2⟩
          case measure => simp [intOf]; omega
        · have q1 : ((s[4 + 3 * i].toNat : Int) != ((⟨#[45, 45, 32, 58, 58]⟩ : ByteArray)[i]'(by exact hlt)).toNat) = true := by
            rw [sep_at i hlt, ← hU, bne_iff_ne]
            intro e
            apply hm
            show s.data.toList.getD (4 + 3 * i) 0 = U8 (sepI i)
            rw [hg]
            exact UInt8.toNat_inj.1 (by omega)
          have HM := Lib.hid (parF_sep hlt hm)
          have Q1 := Lib.hid q1
          clear hg hU hm q1
          go_wp2_with fail
          refine wp_region_later (by kernel_rfl) (by kernel_rfl) ?_
          repeat (first | go_big_quiet_skip | (go_big_quiet_want; go_big_quiet_op; first | go_big_quiet_on | go_big_quiet_call (fail)))
          refine wpQuiet_nil ?_
          intro w2 hu2
          have HB2 := Lib.hid (hb.out.trans ((Later.out hu2).mono hb.out.size))
          clear hu2
          rw [Q1.out]
          go_wp2_with fail
          go_ret2
          refine ⟨?_, HB2.out⟩
          rw [HM.out]; rfl
      · obtain rfl : i = 5 := by omega
        have e1 : (s.extract 0 4).data.toList = s.data.toList.take 4 := by simp
        have E1 := Lib.hid e1
        have hhi := numL_hi (s.data.toList.take 4) (by rw [List.length_take]; omega)
        have hps := prs_len HSZ.out 5 (by omega)
        have hds := prs_dateAt HSZ.out
        have hok := parF_ok HSZ.out hsep.out
        have hp2 : (⟨(prs s.data.toList 5).toArray⟩ : ByteArray).size = 10 := by show (prs s.data.toList 5).toArray.size = 10; rw [List.size_toArray, hps]
        have HP2 := Lib.hid hp2
        have HDS := Lib.hid hds
        have HOK := Lib.hid hok
        clear e1 hps hds hok hp2
        go_wp2_with fail
        refine (number_any _ _ (by simp [ByteArray.size_extract]; omega)).mono ?_
        rintro e w1 ⟨rfl, hb1⟩
        have HB1 := Lib.hid (hb.out.trans (hb1.mono hb.out.size))
        clear hb1
        rw [E1.out]
        generalize hY : numL (s.data.toList.take 4) = Y at hhi ⊢
        have HY := Lib.hid hY
        clear hY
        by_cases y1 : Y < 0
        · go_wp2_with fail
          go_ret2
          refine ⟨?_, HB1.out⟩
          rw [HOK.out, secF_year (by show numL (s.data.toList.take 4) < 0; rw [HY.out]; omega)]; rfl
        · have d0 : decide (Y < 0) = false := by simp; omega
          go_wp2_with fail
          refine (parts_any _ _ _ (by rw [HP2.out]; omega) (by rw [HP2.out]; omega)).mono ?_
          rintro e w2 ⟨rfl, hb2⟩
          have HB2 := Lib.hid (HB1.out.trans (hb2.mono HB1.out.size))
          clear hb2
          go_wp2_with fail
          refine (sec_any _ _ (HL.out.below HB2.out)).mono ?_
          rintro e w3 ⟨rfl, hb3⟩
          have HB3 := Lib.hid (HB2.out.trans (hb3.mono HB2.out.size))
          clear hb3
          unfold two
          go_wp2_with fail
          go_ret2
          refine ⟨?_, HB3.out⟩
          rw [HOK.out, show dateOf s.data.toList = dateAt Y (prs s.data.toList 5) from by rw [HDS.out Y, ← HY.out]; rfl]; rfl
  · have l1 : ((s.size : Int) != 19) = true := by rw [bne_iff_ne]; omega
    have hsz : s.data.toList.length ≠ 19 := by simpa using hlen
    go_enter Tryd.func20, Tryd.ntmps20
    go_wp2_with fail
    go_ret2
    refine ⟨?_, Below.refl _ _⟩
    rw [parF_len hsz]; rfl
end Go.Proofs.YtjfbmjegdjpfbaaDoor
