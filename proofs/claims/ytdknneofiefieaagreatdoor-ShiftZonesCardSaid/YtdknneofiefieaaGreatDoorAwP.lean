import Derived.Test.YtdknneofiefieaaGreatDoorGd

namespace Sh
open Geo Rt

/-- the task of the chapter's examples -/
def two (a b n : Int) : List (Tg × Ci) := [(⟨0, 0, 20, 24, 4, 1, false⟩, ⟨a, 0, n⟩), (⟨50, 0, 20, 24, 4, 1, false⟩, ⟨b, 0, n⟩)]
theorem pok_two {a b n : Int} (ha : -100000 ≤ a ∧ a ≤ 100000) (hb : -100000 ≤ b ∧ b ≤ 100000) (hn : 20 ≤ n ∧ n ≤ 24) : Pok (two a b n) := by
  refine ⟨fun p hp => ?_, fun p hp => ?_, fun p hp => ?_, by unfold two; simp⟩ <;> (unfold two at hp; simp only [List.mem_cons, List.not_mem_nil, or_false] at hp; rcases hp with rfl | rfl)
  · show Tok ⟨0, 0, 20, 24, 4, 1, false⟩
    exact ⟨by decide, by decide, by decide, by decide, by decide, by decide, by decide, by decide, by decide, by decide, by decide, by decide, by decide, by decide⟩
  · show Tok ⟨50, 0, 20, 24, 4, 1, false⟩
    exact ⟨by decide, by decide, by decide, by decide, by decide, by decide, by decide, by decide, by decide, by decide, by decide, by decide, by decide, by decide⟩
  · show Cok ⟨a, 0, n⟩
    exact ⟨ha.1, ha.2, (by decide : (-100000 : Int) ≤ 0), (by decide : (0 : Int) ≤ 100000), by show 1 ≤ n; omega, by show n ≤ 100000; omega⟩
  · show Cok ⟨b, 0, n⟩
    exact ⟨hb.1, hb.2, (by decide : (-100000 : Int) ≤ 0), (by decide : (0 : Int) ≤ 100000), by show 1 ≤ n; omega, by show n ≤ 100000; omega⟩
  · show Win ⟨0, 0, 20, 24, 4, 1, false⟩ ⟨a, 0, n⟩
    exact ⟨hn.1, hn.2⟩
  · show Win ⟨50, 0, 20, 24, 4, 1, false⟩ ⟨b, 0, n⟩
    exact ⟨hn.1, hn.2⟩
theorem pok_a : Pok (two 3 53 20) := pok_two (by decide) (by decide) (by decide)
theorem pok_b : Pok (two (-3) 53 20) := pok_two (by decide) (by decide) (by decide)
theorem pok_c : Pok (two (-3) 53 22) := pok_two (by decide) (by decide) (by decide)

/-- all discs hold a place -/
def allf (l : List Dc) (x y : Rat) : Bool := l.all fun d => decide (f d x y ≤ 0)
theorem allf_iff (l : List Dc) (x y : Rat) : allf l x y = true ↔ ∀ d ∈ l, f d x y ≤ 0 := by
  unfold allf; rw [List.all_eq_true]; simp
theorem two_does : allf (zs (two 3 53 20) (-1)) (-1) 0 = true := by decide +kernel
theorem two_does' : allf (zs (two (-3) 53 22) (-1)) 0 0 = true := by decide +kernel
theorem two_fs : feas (zs (two 3 53 20) (-1)) = true := (pok_a.iff (by decide)).2 ⟨-1, 0, (allf_iff _ _ _).1 two_does⟩
theorem two_2 : feas (zs (two 3 53 20) 2) = true := (pok_a.iff (by decide)).2 ⟨-1, 0, (allf_iff _ _ _).1 (by decide +kernel)⟩

theorem f_around (p q d : Int) (x y : Rat) : f (around p q d) x y * 4 = 4 * ((x - p) * (x - p) + (y - q) * (y - q)) - (d : Rat) * (d : Rat) := by
  have h := around_s p q d
  have e1 : (around p q d).x = (p : Rat) := rfl
  have e2 : (around p q d).y = (q : Rat) := rfl
  unfold f
  rw [e1, e2]
  generalize (around p q d).s = s at *
  grind
theorem zone_two (a n : Int) : zone ⟨0, 0, 20, 24, 4, 1, false⟩ ⟨a, 0, n⟩ = around (0 - a) (0 - 0) (4 + (n - 20)) := rfl
theorem zone_two' (b n : Int) : zone ⟨50, 0, 20, 24, 4, 1, false⟩ ⟨b, 0, n⟩ = around (50 - b) (0 - 0) (4 + (n - 20)) := rfl

theorem two_1 : feas (zs (two 3 53 20) 1) = false := by
  rw [Bool.eq_false_iff, ne_eq, pok_a.iff (by decide)]
  rintro ⟨x, y, h⟩
  have h1 := h (around (-3) 0 4) (by decide +kernel)
  have h2 := h (around 0 0 1) (by decide +kernel)
  have k1 := f_around (-3) 0 4 x y
  have k2 := f_around 0 0 1 x y
  have c1 : ((-3 : Int) : Rat) = -3 := by decide
  have c2 : ((0 : Int) : Rat) = 0 := by decide
  have c3 : ((4 : Int) : Rat) = 4 := by decide
  have c4 : ((1 : Int) : Rat) = 1 := by decide
  rw [c1, c2, c3] at k1
  rw [c2, c4] at k2
  have s1 := sqnn (2 * x + 1)
  have s2 := sqnn y
  generalize f (around (-3) 0 4) x y = u at *
  generalize f (around 0 0 1) x y = v at *
  grind
theorem two_no : feas (zs (two (-3) 53 20) (-1)) = false := by
  rw [Bool.eq_false_iff, ne_eq, pok_b.iff (by decide)]
  rintro ⟨x, y, h⟩
  have h1 := h (around 3 0 4) (by decide +kernel)
  have h2 := h (around (-3) 0 4) (by decide +kernel)
  have k1 := f_around 3 0 4 x y
  have k2 := f_around (-3) 0 4 x y
  have c1 : ((-3 : Int) : Rat) = -3 := by decide
  have c2 : ((0 : Int) : Rat) = 0 := by decide
  have c3 : ((4 : Int) : Rat) = 4 := by decide
  have c4 : ((3 : Int) : Rat) = 3 := by decide
  rw [c4, c2, c3] at k1
  rw [c1, c2, c3] at k2
  have s1 := sqnn x
  have s2 := sqnn y
  generalize f (around 3 0 4) x y = u at *
  generalize f (around (-3) 0 4) x y = v at *
  grind
/-- the least play of the example -/
theorem two_need {n : Int} (h0 : 0 ≤ n) (h1 : n ≤ 100000) (hf : feas (zs (two 3 53 20) n) = true) (hl : ∀ p, 0 ≤ p → p < n → feas (zs (two 3 53 20) p) = false) : n = 2 := by
  by_cases a : 2 < n
  · have := hl 2 (by decide) a; rw [two_2] at this; cases this
  · by_cases b : n < 2
    · have := pok_a.more h0 (show n ≤ 1 by omega) (by decide) hf
      rw [two_1] at this; cases this
    · omega
theorem two_far : feas (zs (two 3 53 20) 100000) = true := pok_a.more (p := 2) (by decide) (by decide) (by decide) two_2
theorem zs_two (a b n : Int) : zs (two a b n) (-1) = [around (0 - a) (0 - 0) (4 + (n - 20)), around (50 - b) (0 - 0) (4 + (n - 20))] := by
  unfold zs two
  rw [if_pos (by decide), List.append_nil]
  rfl
/-- and its contradiction -/
theorem two_ctr {o : List Nat} (h : Ctr (zs (two (-3) 53 20) (-1)) o) : o = [0, 1] := by
  have hl : (zs (two (-3) 53 20) (-1)).length = 2 := by rw [zs_two]; rfl
  rcases h with ⟨rfl, h2, _⟩ | ⟨i, j, h1, h2, rfl, _⟩ | ⟨i, j, k, h1, h2, h3, _⟩
  · have := h2 0 1 (by decide) (by omega)
    have e : [zc (zs (two (-3) 53 20) (-1)) 0, zc (zs (two (-3) 53 20) (-1)) 1] = zs (two (-3) 53 20) (-1) := by rw [zs_two]; rfl
    rw [e, two_no] at this; cases this
  · rw [hl] at h2
    have : i = 0 := by omega
    have : j = 1 := by omega
    subst_vars; rfl
  · rw [hl] at h3; omega
end Sh
