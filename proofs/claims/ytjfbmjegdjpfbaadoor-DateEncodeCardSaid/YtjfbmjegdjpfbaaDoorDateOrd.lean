/- Later dates have greater texts: the plain law. -/
import Derived.Test.YtjfbmjegdjpfbaaDoorDateFmt
namespace Go.Proofs.YtjfbmjegdjpfbaaDoor
open Go Go.RowKit

def ltI : List Int → List Int → Bool
  | _, [] => false
  | [], _ :: _ => true
  | a :: x, b :: y => decide (a < b) || (decide (a = b) && ltI x y)
def U8 (n : Int) : UInt8 := UInt8.ofNat n.toNat
def InB (l : List Int) : Prop := ∀ x ∈ l, 0 ≤ x ∧ x ≤ 255
theorem toNat_U8 {n : Int} (h : 0 ≤ n ∧ n ≤ 255) : ((U8 n).toNat : Int) = n := by
  unfold U8
  rw [UInt8.toNat_ofNat_of_lt' (by show n.toNat < 256; omega)]
  omega
theorem less_map : ∀ {x y : List Int}, InB x → InB y → Op.bytesLess (x.map U8) (y.map U8) = ltI x y
  | _, [], _, _ => by simp [Op.bytesLess, ltI]
  | [], _ :: _, _, _ => by simp [Op.bytesLess, ltI]
  | a :: x, b :: y, hx, hy => by
    have ha := toNat_U8 (hx a (by simp))
    have hb := toNat_U8 (hy b (by simp))
    have ih := less_map (x := x) (y := y) (fun z hz => hx z (by simp [hz])) (fun z hz => hy z (by simp [hz]))
    simp only [List.map_cons, Op.bytesLess, ltI, ih]
    have e1 : decide (U8 a < U8 b) = decide (a < b) := by rw [decide_eq_decide, UInt8.lt_iff_toNat_lt]; omega
    have e2 : (U8 a == U8 b) = decide (a = b) := by
      rw [Bool.eq_iff_iff, beq_iff_eq, decide_eq_true_eq, ← UInt8.toNat_inj]; omega
    rw [e1, e2]
theorem ltI_irrefl (l : List Int) : ltI l l = false := by
  induction l with
  | nil => rfl
  | cons a l ih => simp [ltI, ih]
theorem ltI_app : ∀ {a b : List Int} (x y : List Int), a.length = b.length → ltI (a ++ x) (b ++ y) = (ltI a b || (decide (a = b) && ltI x y))
  | [], [], x, y, _ => by simp [ltI]
  | c :: a, d :: b, x, y, h => by
    have ih := ltI_app (a := a) (b := b) x y (by simpa using h)
    simp only [List.cons_append, ltI, ih]
    by_cases e : c = d
    · subst e; simp
    · simp [e]
theorem lt_digs2 {n m : Int} (n0 : 0 ≤ n) (n1 : n ≤ 99) (m0 : 0 ≤ m) (m1 : m ≤ 99) : ltI (digs n 2) (digs m 2) = decide (n < m) := by
  simp only [digs, ltI, Int.pow_zero, Int.pow_succ, Int.one_mul, Int.ediv_one, Bool.and_false, Bool.or_false]
  rw [Bool.eq_iff_iff]
  simp only [Bool.or_eq_true, Bool.and_eq_true, decide_eq_true_eq]
  omega
theorem eq_digs2 {n m : Int} (n0 : 0 ≤ n) (n1 : n ≤ 99) (m0 : 0 ≤ m) (m1 : m ≤ 99) : decide (digs n 2 = digs m 2) = decide (n = m) := by
  rw [decide_eq_decide]
  constructor
  · intro h
    simp only [digs, Int.pow_zero, Int.pow_succ, Int.one_mul, Int.ediv_one, List.cons.injEq, and_true] at h
    omega
  · intro h; rw [h]
theorem four {n : Int} (n0 : 0 ≤ n) (n1 : n ≤ 9999) : ∃ a b c d : Int, (0 ≤ a ∧ a ≤ 9) ∧ (0 ≤ b ∧ b ≤ 9) ∧ (0 ≤ c ∧ c ≤ 9) ∧ (0 ≤ d ∧ d ≤ 9) ∧ n = 1000 * a + 100 * b + 10 * c + d ∧ digs n 4 = [48 + a, 48 + b, 48 + c, 48 + d] := by
  refine ⟨n / 1000, n / 100 % 10, n / 10 % 10, n % 10, by omega, by omega, by omega, by omega, by omega, ?_⟩
  simp only [digs, Int.pow_zero, Int.pow_succ, Int.one_mul, Int.ediv_one, show (10 : Int) * 10 = 100 from rfl, show (100 : Int) * 10 = 1000 from rfl]
  rw [show n / 1000 % 10 = n / 1000 from by omega]
theorem lt_digs4 {n m : Int} (n0 : 0 ≤ n) (n1 : n ≤ 9999) (m0 : 0 ≤ m) (m1 : m ≤ 9999) : ltI (digs n 4) (digs m 4) = decide (n < m) := by
  obtain ⟨a, b, c, d, ha, hb, hc, hd, hn, e1⟩ := four n0 n1
  obtain ⟨a', b', c', d', ha', hb', hc', hd', hm, e2⟩ := four m0 m1
  rw [e1, e2]
  simp only [ltI, Bool.and_false, Bool.or_false]
  rw [Bool.eq_iff_iff]
  simp only [Bool.or_eq_true, Bool.and_eq_true, decide_eq_true_eq]
  clear n0 n1 m0 m1 e1 e2
  omega
theorem eq_digs4 {n m : Int} (n0 : 0 ≤ n) (n1 : n ≤ 9999) (m0 : 0 ≤ m) (m1 : m ≤ 9999) : decide (digs n 4 = digs m 4) = decide (n = m) := by
  rw [decide_eq_decide]
  constructor
  · intro h
    obtain ⟨a, b, c, d, ha, hb, hc, hd, hn, e1⟩ := four n0 n1
    obtain ⟨a', b', c', d', ha', hb', hc', hd', hm, e2⟩ := four m0 m1
    rw [e1, e2] at h
    simp only [List.cons.injEq, and_true] at h
    omega
  · intro h; rw [h]
theorem digs_in {n : Int} (_h : 0 ≤ n) (k : Nat) : InB (digs n k) := by
  induction k with
  | zero => intro x hx; cases hx
  | succ k ih =>
    intro x hx
    simp only [digs, List.mem_cons] at hx
    rcases hx with rfl | hx
    · omega
    · exact ih x hx
theorem in_app {a b : List Int} (ha : InB a) (hb : InB b) : InB (a ++ b) := fun x hx => by
  rcases List.mem_append.1 hx with h | h
  · exact ha x h
  · exact hb x h
theorem in_one {a : Int} (h : 0 ≤ a ∧ a ≤ 255) : InB [a] := fun x hx => by rw [List.mem_singleton.1 hx]; exact h

theorem valid_bd {a : DM.D6} (h : DM.Valid a) : (0 ≤ a.y ∧ a.y ≤ 9999) ∧ (0 ≤ a.m ∧ a.m ≤ 99) ∧ (0 ≤ a.d ∧ a.d ≤ 99) ∧ (0 ≤ a.h ∧ a.h ≤ 99) ∧ (0 ≤ a.mi ∧ a.mi ≤ 99) ∧ (0 ≤ a.s ∧ a.s ≤ 99) := by
  obtain ⟨v1, v2, v3, v4, v5, v6, v7, v8, v9, v10, v11, v12⟩ := h
  have := DM.dim_bd a.y a.m
  omega
theorem fmt_in {a : DM.D6} (h : DM.Valid a) : InB (fmtL a) := by
  obtain ⟨⟨y0, _⟩, ⟨m0, _⟩, ⟨d0, _⟩, ⟨h0, _⟩, ⟨i0, _⟩, ⟨s0, _⟩⟩ := valid_bd h
  simp only [fmtL, pre, fld, sepI]
  repeat' apply in_app
  all_goals first | exact digs_in (by assumption) _ | exact in_one (by omega)
theorem fmt_lt {a b : DM.D6} (ha : DM.Valid a) (hb : DM.Valid b) : ltI (fmtL a) (fmtL b) = decide (DM.sec a < DM.sec b) := by
  obtain ⟨⟨ay0, ay1⟩, ⟨am0, am1⟩, ⟨ad0, ad1⟩, ⟨ah0, ah1⟩, ⟨ai0, ai1⟩, ⟨as0, as1⟩⟩ := valid_bd ha
  obtain ⟨⟨by0, by1⟩, ⟨bm0, bm1⟩, ⟨bd0, bd1⟩, ⟨bh0, bh1⟩, ⟨bi0, bi1⟩, ⟨bs0, bs1⟩⟩ := valid_bd hb
  have e1 : ∀ x y : List Int, ltI (45 :: x) (45 :: y) = ltI x y := fun x y => by simp [ltI]
  have e2 : ∀ x y : List Int, ltI (32 :: x) (32 :: y) = ltI x y := fun x y => by simp [ltI]
  have e3 : ∀ x y : List Int, ltI (58 :: x) (58 :: y) = ltI x y := fun x y => by simp [ltI]
  simp only [fmtL, pre, fld, sepI, List.append_assoc, List.cons_append, List.nil_append]
  rw [ltI_app _ _ (by simp [digs_len]), e1, ltI_app _ _ (by simp [digs_len]), e1, ltI_app _ _ (by simp [digs_len]), e2, ltI_app _ _ (by simp [digs_len]), e3, ltI_app _ _ (by simp [digs_len]), e3,
    lt_digs4 ay0 ay1 by0 by1, eq_digs4 ay0 ay1 by0 by1, lt_digs2 am0 am1 bm0 bm1, eq_digs2 am0 am1 bm0 bm1, lt_digs2 ad0 ad1 bd0 bd1, eq_digs2 ad0 ad1 bd0 bd1,
    lt_digs2 ah0 ah1 bh0 bh1, eq_digs2 ah0 ah1 bh0 bh1, lt_digs2 ai0 ai1 bi0 bi1, eq_digs2 ai0 ai1 bi0 bi1, lt_digs2 as0 as1 bs0 bs1]
  rw [Bool.eq_iff_iff]
  simp only [Bool.or_eq_true, Bool.and_eq_true, decide_eq_true_eq]
  clear ay0 ay1 am0 am1 ad0 ad1 ah0 ah1 ai0 ai1 as0 as1 by0 by1 bm0 bm1 bd0 bd1 bh0 bh1 bi0 bi1 bs0 bs1 e1 e2 e3
  obtain ⟨ay, am, ad, ah, ai, az⟩ := a
  obtain ⟨by_, bm, bd, bh, bi, bs⟩ := b
  simp only [DM.Valid, DM.sec] at *
  obtain ⟨a1, a2, a3, a4, a5, a6, a7, a8, a9, a10, a11, a12⟩ := ha
  obtain ⟨b1, b2, b3, b4, b5, b6, b7, b8, b9, b10, b11, b12⟩ := hb
  have ca := DM.cum_succ ay am a3 a4
  have cb := DM.cum_succ by_ bm b3 b4
  have la := DM.cum_mono ay (a := am + 1) (b := 13) (by omega) (by omega) (by omega)
  have lb := DM.cum_mono by_ (a := bm + 1) (b := 13) (by omega) (by omega) (by omega)
  have za := DM.cum_mono ay (a := 1) (b := am) (by omega) (by omega) (by omega)
  have zb := DM.cum_mono by_ (a := 1) (b := bm) (by omega) (by omega) (by omega)
  rw [DM.cum_last] at la lb
  rw [DM.cum_one] at za zb
  have sa := DM.bef_succ ay
  have sb := DM.bef_succ by_
  rcases Int.lt_trichotomy ay by_ with hlt | he | hlt
  · have := DM.bef_mono (a := ay + 1) (b := by_) (by omega); omega
  · subst he
    rcases Int.lt_trichotomy am bm with hlt | he | hlt
    · have := DM.cum_mono ay (a := am + 1) (b := bm) (by omega) (by omega) (by omega); omega
    · subst he; omega
    · have := DM.cum_mono ay (a := bm + 1) (b := am) (by omega) (by omega) (by omega); omega
  · have := DM.bef_mono (a := by_ + 1) (b := ay) (by omega); omega

theorem year_ex (n : Int) (hn : n < 2940202) : ∀ (f : Nat) (y : Int), 1950 ≤ y → y + f = 10000 → DM.bef y ≤ n → ∃ y', 1950 ≤ y' ∧ y' ≤ 9999 ∧ DM.bef y' ≤ n ∧ n < DM.bef (y' + 1)
  | 0, y, _, hf, hb => by
    have : y = 10000 := by omega
    rw [this, DM.bef_top] at hb
    omega
  | f + 1, y, h0, hf, hb => by
    by_cases h : DM.bef (y + 1) ≤ n
    · exact year_ex n hn f (y + 1) (by omega) (by omega) h
    · exact ⟨y, h0, by omega, hb, by omega⟩
theorem month_ex (y r : Int) (hr : r < 365 + DM.lp y) : ∀ (f : Nat) (m : Int), 1 ≤ m → m + f = 13 → DM.cum y m ≤ r → ∃ m', 1 ≤ m' ∧ m' ≤ 12 ∧ DM.cum y m' ≤ r ∧ r < DM.cum y (m' + 1)
  | 0, m, _, hf, hb => by
    have : m = 13 := by omega
    rw [this, DM.cum_last] at hb
    omega
  | f + 1, m, h0, hf, hb => by
    by_cases h : DM.cum y (m + 1) ≤ r
    · exact month_ex y r hr f (m + 1) (by omega) (by omega) h
    · exact ⟨m, h0, by omega, hb, by omega⟩
theorem civ_spec {t : Int} (h0 : 0 ≤ t) (h1 : t ≤ 254033452799) : DM.Valid (DM.civ t) ∧ DM.sec (DM.civ t) = t := by
  have b0 : DM.bef 1950 = 0 := by decide
  obtain ⟨y, y0, y1, yb, yt⟩ := year_ex (t / 86400) (by omega) 8050 1950 (by omega) (by omega) (by omega)
  have hs := DM.bef_succ y
  obtain ⟨m, m0, m1, mb, mt⟩ := month_ex y (t / 86400 - DM.bef y) (by omega) 12 1 (by omega) (by omega) (by rw [DM.cum_one]; omega)
  have cs := DM.cum_succ y m m0 m1
  have hv : DM.Valid ⟨y, m, t / 86400 - DM.bef y - DM.cum y m + 1, t % 86400 / 3600, t % 86400 / 60 % 60, t % 86400 % 60⟩ := by
    simp only [DM.Valid]; omega
  have hq : DM.sec ⟨y, m, t / 86400 - DM.bef y - DM.cum y m + 1, t % 86400 / 3600, t % 86400 / 60 % 60, t % 86400 % 60⟩ = t := by
    simp only [DM.sec]; omega
  rw [DM.civ_eq hv hq]
  exact ⟨hv, hq⟩

theorem str_list (l : List Int) : (strOfNums l).toList = l.map U8 := by
  rw [ByteArray.toList_eq]; rfl
/-- The text of a time. -/
noncomputable def txt (t : Int) : ByteArray := strOfNums (fmtL (DM.civ t))
theorem txt_less {x y : Int} (x0 : 0 ≤ x) (x1 : x ≤ 254033452799) (y0 : 0 ≤ y) (y1 : y ≤ 254033452799) : Op.bytesLess (txt x).toList (txt y).toList = decide (x < y) := by
  obtain ⟨vx, sx⟩ := civ_spec x0 x1
  obtain ⟨vy, sy⟩ := civ_spec y0 y1
  rw [txt, txt, str_list, str_list, less_map (fmt_in vx) (fmt_in vy), fmt_lt vx vy, sx, sy]
theorem txt_eq {x y : Int} (x0 : 0 ≤ x) (x1 : x ≤ 254033452799) (y0 : 0 ≤ y) (y1 : y ≤ 254033452799) : ((txt x).toList == (txt y).toList) = decide (x = y) := by
  rw [Bool.eq_iff_iff, beq_iff_eq, decide_eq_true_eq]
  constructor
  · intro h
    have h1 := txt_less x0 x1 y0 y1
    have h2 := txt_less y0 y1 x0 x1
    have h3 := txt_less y0 y1 y0 y1
    rw [h] at h1 h2
    rw [h3] at h1 h2
    have a := (decide_eq_decide.1 h1.symm)
    have b := (decide_eq_decide.1 h2.symm)
    omega
  · intro h; rw [h]
end Go.Proofs.YtjfbmjegdjpfbaaDoor
