import Derived.Test.YtdknneofiefieaaGreatDoorGd

namespace Sh
open Geo Rt
/-- the plain law behind ShiftKeeps -/
theorem keeps_more {ts : List (Tg × Ci)} (h : Pok ts) {play : Int} (p2 : play ≤ 100000) (hf : feas (zs ts 0) = true) : feas (zs ts play) = true := by
  by_cases hp : play < 0
  · have h1 := h.free (by decide) hf
    have e : zs ts play = zs ts (-1) := by unfold zs; rw [if_pos hp, if_pos (by decide)]
    rw [e]; exact h1
  · exact h.more (by decide) (by omega) p2 hf
theorem keeps_wide {t : Tg} {tr : List Tg} {c : Ci} {cr : List Ci} {m play q : Int} (h : Pok ((t :: tr).zip (c :: cr))) (hm : 0 ≤ m) (h' : Pok ((moreT t m :: tr).zip (c :: cr))) (p2 : play ≤ 100000) (q2 : q ≤ 100000)
    (hq : play < 0 ∧ q = play ∨ 0 ≤ play ∧ play ≤ q) (hf : feas (zs ((t :: tr).zip (c :: cr)) play) = true) : feas (zs ((moreT t m :: tr).zip (c :: cr)) q) = true :=
  Pok.wide h hm h' p2 q2 hq hf
end Sh
