/- Plain arithmetic of dates: leap years, lengths of months, days before a year; a date and the seconds that it stands for; two valid dates with the same seconds are one. No program in sight. -/
namespace Go.Proofs.YtjfbmjegdjpfbaaDoor
namespace DM
def leapB (y : Int) : Bool := decide (y % 4 = 0 ∧ (y % 100 ≠ 0 ∨ y % 400 = 0))
def lp (y : Int) : Int := if leapB y = true then 1 else 0
def tab (m : Int) : Int := if m = 2 then 28 else if m = 4 ∨ m = 6 ∨ m = 9 ∨ m = 11 then 30 else 31
def dim (y m : Int) : Int := if m = 2 ∧ leapB y = true then 29 else tab m
def bef (y : Int) : Int := 365 * (y - 1950) + ((y - 1) / 4 - (y - 1) / 100 + (y - 1) / 400) - 472
def base (m : Int) : Int := if m = 1 then 0 else if m = 2 then 31 else if m = 3 then 59 else if m = 4 then 90 else if m = 5 then 120 else if m = 6 then 151 else if m = 7 then 181 else if m = 8 then 212
  else if m = 9 then 243 else if m = 10 then 273 else if m = 11 then 304 else if m = 12 then 334 else 365
def cum (y m : Int) : Int := base m + (if m > 2 then lp y else 0)

theorem lp_01 (y : Int) : 0 ≤ lp y ∧ lp y ≤ 1 := by unfold lp; split <;> omega
theorem bef_succ (y : Int) : bef (y + 1) = bef y + 365 + lp y := by
  unfold bef lp leapB
  by_cases h : y % 4 = 0 ∧ (y % 100 ≠ 0 ∨ y % 400 = 0)
  · rw [if_pos (by simpa using h)]; omega
  · rw [if_neg (by simpa using h)]; omega
theorem bef_mono {a b : Int} (h : a ≤ b) : bef a ≤ bef b := by unfold bef; omega
theorem bef_bd {y : Int} (h0 : 1950 ≤ y) (h1 : y ≤ 10000) : 0 ≤ bef y ∧ bef y ≤ 2940202 := by unfold bef; omega
theorem bef_guess {n : Int} (h0 : 0 ≤ n) : bef (1950 + n / 366) ≤ n := by unfold bef; omega
theorem bef_top : bef 10000 = 2940202 := by decide
theorem dim_bd (y m : Int) : 28 ≤ dim y m ∧ dim y m ≤ 31 := by
  unfold dim tab; repeat' split
  all_goals omega
theorem base_bd (m : Int) : 0 ≤ base m ∧ base m ≤ 365 := by
  unfold base; omega
theorem cum_bd (y m : Int) : 0 ≤ cum y m ∧ cum y m ≤ 366 := by
  have := lp_01 y
  have := base_bd m
  unfold cum; split <;> omega
theorem cum_one (y : Int) : cum y 1 = 0 := by simp [cum, base]
theorem cum_last (y : Int) : cum y 13 = 365 + lp y := by simp [cum, base]
theorem cum_succ (y m : Int) (h0 : 1 ≤ m) (h1 : m ≤ 12) : cum y (m + 1) = cum y m + dim y m := by
  have hm : m = 1 ∨ m = 2 ∨ m = 3 ∨ m = 4 ∨ m = 5 ∨ m = 6 ∨ m = 7 ∨ m = 8 ∨ m = 9 ∨ m = 10 ∨ m = 11 ∨ m = 12 := by omega
  rcases hm with rfl | rfl | rfl | rfl | rfl | rfl | rfl | rfl | rfl | rfl | rfl | rfl
  all_goals (unfold cum base dim tab lp; cases leapB y <;> simp)
theorem cum_mono (y : Int) {a b : Int} (h0 : 1 ≤ a) (h : a ≤ b) (h1 : b ≤ 13) : cum y a ≤ cum y b := by
  have := lp_01 y
  have ha : a = 1 ∨ a = 2 ∨ a = 3 ∨ a = 4 ∨ a = 5 ∨ a = 6 ∨ a = 7 ∨ a = 8 ∨ a = 9 ∨ a = 10 ∨ a = 11 ∨ a = 12 ∨ a = 13 := by omega
  have hb : b = 1 ∨ b = 2 ∨ b = 3 ∨ b = 4 ∨ b = 5 ∨ b = 6 ∨ b = 7 ∨ b = 8 ∨ b = 9 ∨ b = 10 ∨ b = 11 ∨ b = 12 ∨ b = 13 := by omega
  rcases ha with rfl | rfl | rfl | rfl | rfl | rfl | rfl | rfl | rfl | rfl | rfl | rfl | rfl <;>
  rcases hb with rfl | rfl | rfl | rfl | rfl | rfl | rfl | rfl | rfl | rfl | rfl | rfl | rfl <;>
  first | omega | (simp [cum, base]; try omega)

/-- A date. -/
structure D6 where
  y : Int
  m : Int
  d : Int
  h : Int
  mi : Int
  s : Int
def Valid (x : D6) : Prop := 1950 ≤ x.y ∧ x.y ≤ 9999 ∧ 1 ≤ x.m ∧ x.m ≤ 12 ∧ 1 ≤ x.d ∧ x.d ≤ dim x.y x.m ∧ 0 ≤ x.h ∧ x.h ≤ 23 ∧ 0 ≤ x.mi ∧ x.mi ≤ 59 ∧ 0 ≤ x.s ∧ x.s ≤ 59
def sec (x : D6) : Int := 86400 * (bef x.y + cum x.y x.m + x.d - 1) + 3600 * x.h + 60 * x.mi + x.s

theorem sec_inj {a b : D6} (ha : Valid a) (hb : Valid b) (h : sec a = sec b) : a = b := by
  obtain ⟨ay, am, ad, ah, ami, as⟩ := a
  obtain ⟨by_, bm, bd, bh, bmi, bs⟩ := b
  simp only [Valid, sec] at ha hb h
  obtain ⟨a1, a2, a3, a4, a5, a6, a7, a8, a9, a10, a11, a12⟩ := ha
  obtain ⟨b1, b2, b3, b4, b5, b6, b7, b8, b9, b10, b11, b12⟩ := hb
  have hd : bef ay + cum ay am + ad = bef by_ + cum by_ bm + bd := by omega
  have hs : 3600 * ah + 60 * ami + as = 3600 * bh + 60 * bmi + bs := by omega
  have ca := cum_succ ay am a3 a4
  have cb := cum_succ by_ bm b3 b4
  have la := cum_mono ay (a := am + 1) (b := 13) (by omega) (by omega) (by omega)
  have lb := cum_mono by_ (a := bm + 1) (b := 13) (by omega) (by omega) (by omega)
  have za := cum_mono ay (a := 1) (b := am) (by omega) (by omega) (by omega)
  have zb := cum_mono by_ (a := 1) (b := bm) (by omega) (by omega) (by omega)
  rw [cum_last] at la lb
  rw [cum_one] at za zb
  have sa := bef_succ ay
  have sb := bef_succ by_
  have hy : ay = by_ := by
    rcases Int.lt_trichotomy ay by_ with hlt | he | hlt
    · have := bef_mono (a := ay + 1) (b := by_) (by omega); omega
    · exact he
    · have := bef_mono (a := by_ + 1) (b := ay) (by omega); omega
  subst hy
  have hm : am = bm := by
    rcases Int.lt_trichotomy am bm with hlt | he | hlt
    · have := cum_mono ay (a := am + 1) (b := bm) (by omega) (by omega) (by omega); omega
    · exact he
    · have := cum_mono ay (a := bm + 1) (b := am) (by omega) (by omega) (by omega); omega
  subst hm
  have e1 : ad = bd := by omega
  have e2 : ah = bh := by omega
  have e3 : ami = bmi := by omega
  have e4 : as = bs := by omega
  subst e1 e2 e3 e4
  rfl

theorem sec_bd {a : D6} (ha : Valid a) : 0 ≤ sec a ∧ sec a ≤ 254033452799 := by
  obtain ⟨ay, am, ad, ah, ami, as⟩ := a
  simp only [Valid, sec] at ha ⊢
  obtain ⟨a1, a2, a3, a4, a5, a6, a7, a8, a9, a10, a11, a12⟩ := ha
  have ca := cum_succ ay am a3 a4
  have la := cum_mono ay (a := am + 1) (b := 13) (by omega) (by omega) (by omega)
  rw [cum_last] at la
  have sa := bef_succ ay
  have t1 := bef_mono (a := ay + 1) (b := 10000) (by omega)
  rw [bef_top] at t1
  have := bef_bd a1 (by omega)
  have := cum_bd ay am
  omega

open Classical in
/-- The date of a time. -/
noncomputable def civ (t : Int) : D6 := if h : ∃ d, Valid d ∧ sec d = t then Classical.choose h else ⟨0, 0, 0, 0, 0, 0⟩
theorem civ_eq {t : Int} {d : D6} (hv : Valid d) (hs : sec d = t) : civ t = d := by
  have h : ∃ d, Valid d ∧ sec d = t := ⟨d, hv, hs⟩
  unfold civ
  rw [dif_pos h]
  have hc := Classical.choose_spec h
  exact sec_inj hc.1 hv (hc.2.trans hs.symm)
end DM
end Go.Proofs.YtjfbmjegdjpfbaaDoor
