/- tlv.Wrap at two short strings. -/
import Derived.Test.YtjfbmjegdjpfbaaDoorDateFmt
import Derived.Test.YtjfbmjegdjpfbaaDoorDateJoin
import Derived.Test.YtjfbmjegdjpfbaaDoorLater
import Derived.Deep.DeepCutAuto
namespace Go.Proofs.YtjfbmjegdjpfbaaDoor
open Go Go.RowKit

theorem join_two (a b : ByteArray) (g : Nat) (w : World) (hc0 : w.cell? ⟨g, 0, none⟩ = some (.string a)) (hc1 : w.cell? ⟨g, 1, none⟩ = some (.string b)) (hg : g < w.heap.size) (hs : a.size + b.size < 128) :
    Calls Tryd.prog 40 #[.slice (some ⟨g, 0, none⟩) 2 2, .string ⟨#[]⟩] w fun e w' => e = .returned (.string (a ++ b)) ∧ Below w.heap.size w w' := by
  have hj : Lib.join ([a, b].map (·.data.toList)) (⟨#[]⟩ : ByteArray).data.toList = a.data.toList ++ b.data.toList := by simp [Lib.join, List.intercalate]
  have h := shelf_strings_Join g 0 2 [a, b] ⟨#[]⟩ w (fun j x hx => by
    match j with
    | 0 => simp at hx; subst hx; exact hc0
    | 1 => simp at hx; subst hx; exact hc1
    | j + 2 => simp at hx) hg (by simp) (by simp) (by rw [hj]; simp; omega)
  refine h.mono ?_
  rintro e w' ⟨rfl, hb⟩
  refine ⟨?_, hb⟩
  rw [hj]
  have : (⟨(a.data.toList ++ b.data.toList).toArray⟩ : ByteArray) = a ++ b := by apply ByteArray.ext; simp
  rw [this]

def tlvSum (a b : ByteArray) : Nat → Int
  | 0 => 0
  | 1 => a.size
  | _ => a.size + b.size

set_option maxRecDepth 100000 in
set_option maxHeartbeats 8000000 in
theorem tlv_two (tag : Int) (a b : ByteArray) (g : Nat) (w : World) (ht : tag = 23 ∨ tag = 24) (hn : a.size + b.size < 128) (hc0 : w.cell? ⟨g, 0, none⟩ = some (.string a)) (hc1 : w.cell? ⟨g, 1, none⟩ = some (.string b)) (hg : g < w.heap.size) :
    Calls Tryd.prog 34 #[.int .i64 tag, .slice (some ⟨g, 0, none⟩) 2 2] w fun e w' => e = .returned (.tuple #[.string (strOfNums [tag, (a.size : Int) + b.size] ++ (a ++ b)), .int .i64 0]) ∧ Below w.heap.size w w' := by
  obtain ⟨i0, hi, hz0, hz1, hz2⟩ := info_parts infoU8
  have ha : (a.size : Int) < 128 := by omega
  have hb : (b.size : Int) < 128 := by omega
  have hab : (a.size : Int) + b.size < 128 := by omega
  go_enter Tryd.func34, Tryd.ntmps34
  go_upto_region 1 with (fail)
  go_cut [20] (fun p wx => p = .bool false ∧ wx = w)
  case first =>
    rcases ht with rfl | rfl
    · go_wp2_with fail
      go_meet
      exact ⟨rfl, rfl⟩
    · go_wp2_with fail
      go_meet
      exact ⟨rfl, rfl⟩
  case rest =>
  obtain ⟨rfl, rfl⟩ := hcut
  go_wp2_with fail
  go_loop [6, 23] (fun s j => ∃ i : Nat, i ≤ 2 ∧ j = .int .i64 i ∧ s = .int .i64 (tlvSum a b i)) (fun _ j => 2 - (intOf j).toNat)
  case atStart => exact ⟨0, by omega, rfl, rfl⟩
  case round =>
    obtain ⟨i, hi2, rfl, rfl⟩ := hrel
    have h3 : i = 0 ∨ i = 1 ∨ i = 2 := by omega
    rcases h3 with rfl | rfl | rfl
    · simp only [tlvSum]
      go_wp2_with fail
      exact ⟨⟨1, by omega, rfl, rfl⟩, by simp [intOf]⟩
    · simp only [tlvSum]
      go_wp2_with fail
      exact ⟨⟨2, by omega, rfl, rfl⟩, by simp [intOf]⟩
    · simp only [tlvSum]
      go_wp2_with fail
      generalize (Question.appendCap 2 1 5).cut (wc.tape wc.drawn (Question.appendCap 2 1 5)) = C
      generalize hW : World.drew _ = W
      have hb : Below wc.heap.size wc W := by
        rw [← hW]
        repeat (first | exact Below.refl _ _ | refine Below.drew ?_ | refine Below.alloc ?_ (by simp; try omega) _)
      have hs : wc.heap.size + 1 + 1 < W.heap.size := by rw [← hW]; simp
      have k0 : W.cell? ⟨wc.heap.size + 1 + 1, 0, none⟩ = some (.int .u8 tag) := by rw [← hW]; simp [go_sem]; rw [Array.getElem?_append_left (by simp)]; rfl
      have k1 : W.cell? ⟨wc.heap.size + 1 + 1, 1, none⟩ = some (.int .u8 ((a.size : Int) + b.size)) := by rw [← hW]; simp [go_sem]; rw [Array.getElem?_append_left (by simp)]; rfl
      have hcv : ∀ u : Later W, (Go.convert 44 9 (.slice (some ⟨wc.heap.size + 1 + 1, 0, none⟩) 2 C)).run Tryd.prog u.v = .ok (.string (strOfNums [tag, (a.size : Int) + b.size])) u.v := fun u =>
        run_convert_bytes_arg (P := Tryd.prog) u.v 44 5 Tryd.underlying44 Tryd.underlying5 (wc.heap.size + 1 + 1) 0 2 C [tag, (a.size : Int) + b.size] rfl (fun i hi => by
          have h2 : i = 0 ∨ i = 1 := by omega
          rcases h2 with rfl | rfl
          · exact Later.cell hs k0 u
          · exact Later.cell hs k1 u) 9 Tryd.underlying9
      have hgW : g < W.heap.size := by have := hb.size; omega
      have q0 : ∀ u : Later W, u.v.cell? ⟨g, 0, none⟩ = some (.string a) := Later.cell hgW ((hb.cell hg).trans hc0)
      have q1 : ∀ u : Later W, u.v.cell? ⟨g, 1, none⟩ = some (.string b) := Later.cell hgW ((hb.cell hg).trans hc1)
      have hj : ∀ u : Later W, Calls Tryd.prog 40 #[.slice (some ⟨g, 0, none⟩) 2 2, .string ⟨#[]⟩] u.v fun e w' => e = .returned (.string (a ++ b)) ∧ Below u.v.heap.size u.v w' := fun u => join_two a b g u.v (q0 u) (q1 u) (Nat.lt_of_lt_of_le hgW u.size) hn
      have hsz := strOfNums_size
      have hsa : (a ++ b).size = a.size + b.size := ByteArray.size_append
      have HB := Lib.hid hb
      clear hW k0 k1 q0 q1 hb
      refine wp_region_later (by kernel_rfl) (by kernel_rfl) ?_
      repeat (first | go_big_quiet_skip | (go_big_quiet_want; go_big_quiet_op; first | go_big_quiet_on | go_big_quiet_call ((go_at_call 40; exact Later.call (hj _)))))
      refine wpQuiet_nil ?_
      intro w1 hu1
      have HB1 := Lib.hid (Later.out hu1)
      clear hu1
      go_wp2_with fail
      go_ret2
      exact ⟨rfl, HB.out.trans (HB1.out.mono HB.out.size)⟩
end Go.Proofs.YtjfbmjegdjpfbaaDoor
