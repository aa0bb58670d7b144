/- Wrap of the reference at one short content: over the printed texts' contract. -/
import Derived.Test.YtjfbmjegdjpfbaaDoorDatePad
namespace Go.Proofs.YtjfbmjegdjpfbaaDoor
open Go Go.RowKit
open Go.Proofs.YtjfbmjegdjpfbaaDoorW.PrintWords Go.Proofs.YtjfbmjegdjpfbaaDoorW.PrintLast Go.Proofs.YtjfbmjegdjpfbaaDoorW.PrintMore
open PDateEncode (certpathref01_Wrap.f certpathref01_Wrap.j0 certpathref01_Wrap.l0 certpathref01_Wrap.calls)

theorem wrap_f {tag : Int} {b : ByteArray} (ht : tag = 23 ∨ tag = 24) (hb : b.size < 128) : certpathref01_Wrap.f 4 tag [b] = some (strOfNums [tag, (b.size : Int)] ++ b, 0) := by
  have h1 : (Int.tmod tag 32 == 31) = false := by rcases ht with rfl | rfl <;> rfl
  have e0 : (⟨#[]⟩ : ByteArray) ++ b = b := by apply ByteArray.ext; simp
  have z : (⟨#[]⟩ : ByteArray).size = 0 := rfl
  simp only [certpathref01_Wrap.f]
  rw [if_neg (by omega), if_neg (by omega), h1]
  simp only [certpathref01_Wrap.j0]
  rw [if_neg (by simp)]
  simp only [certpathref01_Wrap.l0]
  rw [if_pos (by simp), if_pos (by simp), if_pos (by simp)]
  have hr : rdOf ByteArray.empty [b] 0 = b := rfl
  rw [hr, e0, z, if_pos (by omega)]
  have hw : wrap64 (0 + 1) = 1 := by rw [w64 (by omega)]; rfl
  rw [hw, if_neg (by simp), if_neg (by omega)]
  simp only [Option.bind_some]
  rw [if_neg (by omega), if_neg (by omega), if_neg (by omega), if_pos (by rw [strOfNums_size]; simp; omega)]
  rw [show tag % 256 = tag from by omega, show (b.size : Int) % 256 = b.size from by omega]
theorem refWrap_one (tag : Int) (b : ByteArray) (g : Nat) (w : World) (ht : tag = 23 ∨ tag = 24) (hb : b.size < 128) (hc : w.cell? ⟨g, 0, none⟩ = some (.string b)) :
    Calls Tryd.prog 35 #[.int .i64 tag, .slice (some ⟨g, 0, none⟩) 1 1] w fun e w' => e = .returned (.tuple #[.string (strOfNums [tag, (b.size : Int)] ++ b), .int .i64 0]) ∧ Below w.heap.size w w' := by
  refine certpathref01_Wrap.calls 4 tag (some ⟨g, 0, none⟩) 1 [b] _ 0 w ?_ (by simp) (wrap_f ht hb)
  refine Kd.C_of_reads (d := ByteArray.empty) ⟨rfl, by simp, fun _ => ⟨_, rfl, fun j hj => ?_⟩⟩
  have : j = 0 := by simp at hj; omega
  subst this
  simpa [Addr.add] using hc
end Go.Proofs.YtjfbmjegdjpfbaaDoor
