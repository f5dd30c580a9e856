import Derived.Test.YtdknneofiefieaaGreatDoorRfB
import Derived.Test.YtdknneofiefieaaGreatDoorGo

namespace Go.Proofs.YtdknneofiefieaaGreatDoor
open Go.RowKit Go.Lib Rt Geo Sh

/-- a task as a value, whatever it holds -/
def tkg (p : Option Addr) (n cp : Nat) (p' : Option Addr) (n' cp' : Nat) (play : Int) : Array Value := #[.slice p n cp, .slice p' n' cp', .int .i64 play]

set_option maxRecDepth 100000 in
set_option maxHeartbeats 2000000 in
theorem rins_a {x y lo hi tol mat n : Int} {pin : Bool} (k1 : n < lo) (w : World) :
    Calls Tryz.prog 45 #[.agg #[.int .i64 x, .int .i64 y, .int .i64 lo, .int .i64 hi, .int .i64 tol, .int .i64 mat, .bool pin], .int .i64 n] w (RB (.bool false) w) := by
  go_enter Tryz.func45, Tryz.ntmps45
  go_wp2
  go_ret
  exact ⟨rfl, (Below.refl _ w).alloc (Nat.le_refl _) _⟩
set_option maxRecDepth 100000 in
set_option maxHeartbeats 2000000 in
theorem rins_b {x y lo hi tol mat n : Int} {pin : Bool} (k1 : lo ≤ n) (k2 : ¬ n ≤ hi) (w : World) :
    Calls Tryz.prog 45 #[.agg #[.int .i64 x, .int .i64 y, .int .i64 lo, .int .i64 hi, .int .i64 tol, .int .i64 mat, .bool pin], .int .i64 n] w (RB (.bool false) w) := by
  go_enter Tryz.func45, Tryz.ntmps45
  go_wp2
  go_ret
  exact ⟨rfl, (Below.refl _ w).alloc (Nat.le_refl _) _⟩
set_option maxRecDepth 100000 in
set_option maxHeartbeats 2000000 in
theorem rins_c {x y lo hi tol mat n : Int} {pin : Bool} (k1 : lo ≤ n) (k2 : n ≤ hi) (w : World) :
    Calls Tryz.prog 45 #[.agg #[.int .i64 x, .int .i64 y, .int .i64 lo, .int .i64 hi, .int .i64 tol, .int .i64 mat, .bool pin], .int .i64 n] w (RB (.bool true) w) := by
  go_enter Tryz.func45, Tryz.ntmps45
  go_wp2
  go_ret
  exact ⟨rfl, (Below.refl _ w).alloc (Nat.le_refl _) _⟩
theorem rinside_c (t : Tg) (c : Ci) (w : World) : Calls Tryz.prog 45 #[.agg (tcells t), .int .i64 c.n] w (RB (.bool (winb t c)) w) := by
  unfold winb tcells
  by_cases k1 : t.lo ≤ c.n
  · by_cases k2 : c.n ≤ t.hi
    · rw [decide_eq_true k1, decide_eq_true k2]; exact rins_c k1 k2 w
    · rw [decide_eq_true k1, decide_eq_false k2]; exact rins_b k1 k2 w
  · rw [decide_eq_false k1]; exact rins_a (by omega) w

set_option maxRecDepth 100000 in
set_option maxHeartbeats 2000000 in
theorem rschk_c {ts : List Tg} {cs : List Ci} {p p' : Option Addr} {cp cp' : Nat} {play : Int} (w : World) (hT : TL w p ts) (hC : CL w p' cs) :
    Calls Tryz.prog 18 #[.agg (tkg p ts.length cp p' cs.length cp' play)] w (RB (.int .i64 (schk ts cs play)) w) := by
  unfold tkg
  obtain ⟨W, hW⟩ : ∃ W, w.alloc (.cells #[.slice p ts.length cp, .slice p' cs.length cp', .int .i64 play] 34) = W := ⟨_, rfl⟩
  have q1 : W.heap[w.heap.size]? = some (.cells #[.slice p ts.length cp, .slice p' cs.length cp', .int .i64 play] 34 (0, 0)) := hW ▸ heap_alloc_new w _
  have bW : Below w.heap.size w W := hW ▸ (Below.refl _ w).alloc (Nat.le_refl _) _
  have hT1 := hT.step bW
  have hC1 := hC.step bW
  have P := rplate_c (cp := cp) (cp' := cp') W hT1 hC1
  have e0 : W.cell? ⟨w.heap.size, 0, none⟩ = some (.slice p ts.length cp) := cell_of_row W _ 0 _ _ _ q1
  have e1 : W.cell? ⟨w.heap.size, 1, none⟩ = some (.slice p' cs.length cp') := cell_of_row W _ 1 _ _ _ q1
  clear hT hC
  have hP : pchk ts cs = 0 → cs.length = ts.length ∧ ts.length ≤ 16 := fun h => by obtain ⟨a, b, _⟩ := (pchk_iff ts cs).1 h; exact ⟨b, a⟩
  have S1 : pchk ts cs ≠ 0 → schk ts cs play = pchk ts cs := fun h => by unfold schk; rw [if_pos h]
  have S2 : pchk ts cs = 0 → ts.length = 0 → schk ts cs play = 13 := fun h h' => by unfold schk; rw [if_neg (fun k => k h), if_pos (List.length_eq_zero_iff.1 h')]
  have S3 : pchk ts cs = 0 → ts.length ≠ 0 → wins ts cs = false → schk ts cs play = 14 := fun h h' h'' => by unfold schk; rw [if_neg (fun k => k h), if_neg (fun k => h' (by rw [k]; rfl)), if_pos h'']
  have S4 : pchk ts cs = 0 → ts.length ≠ 0 → wins ts cs = true → schk ts cs play = if play < -1 ∨ 100000 < play then 2 else 0 := fun h h' h'' => by unfold schk; rw [if_neg (fun k => k h), if_neg (fun k => h' (by rw [k]; rfl)), if_neg (by rw [h'']; decide)]
  generalize schk ts cs play = r at *
  by_cases hp : pchk ts cs = 0
  · obtain ⟨hl, h16⟩ := hP hp
    rw [hp] at P
    by_cases h0 : ts.length = 0
    · have hr := S2 hp h0
      obtain rfl : ts = [] := List.length_eq_zero_iff.1 h0
      obtain rfl : cs = [] := List.length_eq_zero_iff.1 (by rw [hl]; rfl)
      subst hr
      clear S1 S2 S3 S4 hP hT1 hC1 hl h0 hp h16
      simp only [List.length_nil] at *
      go_enter Tryz.func18, Tryz.ntmps18
      go_wp2_with fail
      clear hW
      refine P.mono ?_
      rintro e w1 ⟨rfl, b1⟩
      have e0 : w1.cell? ⟨w.heap.size, 0, none⟩ = some (.slice p 0 cp) := cell_of_row w1 _ 0 _ _ _ (blk_below q1 b1)
      go_wp2_with fail
      go_ret
      exact ⟨rfl, Bl.trans bW b1⟩
    · have h0i : ¬ (ts.length : Int) = 0 := by omega
      have S3 := Lib.hid (S3 hp h0)
      have S4 := Lib.hid (S4 hp h0)
      have hl16 : (ts.length : Int) ≤ 16 := by omega
      have hl1 : ((ts.length : Int) == 0) = false := by rw [beq_eq_false_iff_ne]; exact h0i
      have HL := Lib.hid hl
      clear S1 S2 hP hl hp
      go_enter Tryz.func18, Tryz.ntmps18
      go_wp2_with fail
      clear hW
      refine P.mono ?_
      rintro e w1 ⟨rfl, b1⟩
      have B1 := Bl.trans bW b1
      have q2 := blk_below q1 b1
      have hT2 := Lib.hid (hT1.step b1)
      have hC2 := Lib.hid (hC1.step b1)
      clear e0 e1 hT1 hC1 P q1
      have e0 : w1.cell? ⟨w.heap.size, 0, none⟩ = some (.slice p ts.length cp) := cell_of_row w1 _ 0 _ _ _ q2
      go_wp2_with fail
      clear e0
      go_loopg [4] ts.length (fun m i wr => ∃ k : Nat, k + m = ts.length ∧ i = .int .i64 k ∧ Below w1.heap.size w1 wr ∧ wins ts cs = wins (ts.drop k) (cs.drop k))
      case atStart => exact ⟨0, by omega, rfl, Below.refl _ _, rfl⟩
      case round =>
        obtain ⟨k, hm, rfl, hB, hF⟩ := hrel
        have q3 := blk_below q2 hB
        have e0 : wr.cell? ⟨w.heap.size, 0, none⟩ = some (.slice p ts.length cp) := cell_of_row wr _ 0 _ _ _ q3
        have e1 : wr.cell? ⟨w.heap.size, 1, none⟩ = some (.slice p' cs.length cp') := cell_of_row wr _ 1 _ _ _ q3
        by_cases hlt : k < ts.length
        · have hlti : (k : Int) < (ts.length : Int) := by omega
          have hltc : (k : Int) < (cs.length : Int) := by have := HL.out; omega
          obtain ⟨q, hq⟩ : ∃ q, ts[k]? = some q := ⟨_, List.getElem?_eq_getElem hlt⟩
          obtain ⟨c, hc⟩ : ∃ c, cs[k]? = some c := ⟨_, List.getElem?_eq_getElem (by have := HL.out; omega)⟩
          obtain ⟨b, o, hpp, hA⟩ := hT2.out.get k q hq
          obtain ⟨b', o', hpp', hA'⟩ := hC2.out.get k c hc
          obtain ⟨a0, a1, a2, a3, a4, a5, a6⟩ := hA.step hB
          obtain ⟨d0, d1, d2⟩ := hA'.step hB
          have II := fun w => rinside_c q c w
          unfold tcells at II
          rw [wins_drop hq hc] at hF
          have HM := Lib.hid hm
          clear hm hA hA' hq hc
          subst hpp
          subst hpp'
          cases hwin : winb q c with
          | true =>
            rw [hwin] at II hF
            have HF := Lib.hid hF
            clear hF
            go_wp2_with fail
            refine Reg.walk (by kernel_rfl) 13 (by kernel_rfl) (by decide) (by kernel_rfl) (fun _ => false) (fun _ => [(some 24, .pointer (some ⟨w.heap.size, 0, none⟩)), (some 25, .slice (some ⟨b, o, none⟩) ts.length cp), (some 26, .int .i64 (k : Nat)), (some 27, .pointer (some ⟨b, o + k * 7, none⟩)), (some 28, .agg #[.int .i64 q.x, .int .i64 q.y, .int .i64 q.lo, .int .i64 q.hi, .int .i64 q.tol, .int .i64 q.mat, .bool q.pin]), (some 29, .pointer (some ⟨w.heap.size, 1, none⟩)), (some 30, .slice (some ⟨b', o', none⟩) cs.length cp'), (some 31, .int .i64 (k : Nat)), (some 32, .pointer (some ⟨b', o' + k * 3, none⟩)), (some 33, .pointer (some ⟨b', o' + k * 3 + 2, none⟩)), (some 34, .int .i64 c.n), (some 35, .bool true), (some 36, .bool false)])
              (fun _ => rfl) (fun _ _ _ => rfl) (fun _ _ _ h => by cases h) (fun _ _ _ => True) (fun _ _ _ _ _ _ => trivial)
              (fun W' => Below wr.heap.size wr W')
              ((Below.refl _ wr).drew) ?_ ?_
            · intro i o hi ho Q' a w' hw hon hoff K hK
              match i, hi with
              | 0, _ =>
                obtain rfl := Option.some.inj ho
                clear ho
                have o1 : a.tmps[1]?.getD undef = .pointer (some ⟨w.heap.size, 0, none⟩) := hoff 1 (by kernel_rfl)
                clear hon hoff
                rw [if_pos (by rfl)]
                go_simp
                exact hK _ _ rfl hw (Below.refl _ _)
              | 1, _ =>
                obtain rfl := Option.some.inj ho
                clear ho
                have o24 : a.tmps[24]?.getD undef = .pointer (some ⟨w.heap.size, 0, none⟩) := (Option.some.inj (hon 0 _ _ (by kernel_rfl) (by decide) rfl rfl rfl)).symm
                clear hon hoff
                rw [if_pos (by rfl)]
                have e0 := cell_bl hw e0
                go_simp
                exact hK _ _ rfl hw (Below.refl _ _)
              | 2, _ =>
                obtain rfl := Option.some.inj ho
                clear ho
                have o4 : a.tmps[4]?.getD undef = .int .i64 (k : Nat) := hoff 4 (by kernel_rfl)
                clear hon hoff
                rw [if_pos (by rfl)]
                go_simp
                exact hK _ _ rfl hw (Below.refl _ _)
              | 3, _ =>
                obtain rfl := Option.some.inj ho
                clear ho
                have o25 : a.tmps[25]?.getD undef = .slice (some ⟨b, o, none⟩) ts.length cp := (Option.some.inj (hon 1 _ _ (by kernel_rfl) (by decide) rfl rfl rfl)).symm
                have o26 : a.tmps[26]?.getD undef = .int .i64 (k : Nat) := (Option.some.inj (hon 2 _ _ (by kernel_rfl) (by decide) rfl rfl rfl)).symm
                clear hon hoff
                rw [if_pos (by rfl)]
                go_simp
                exact hK _ _ rfl hw (Below.refl _ _)
              | 4, _ =>
                obtain rfl := Option.some.inj ho
                clear ho
                have o27 : a.tmps[27]?.getD undef = .pointer (some ⟨b, o + k * 7, none⟩) := (Option.some.inj (hon 3 _ _ (by kernel_rfl) (by decide) rfl rfl rfl)).symm
                clear hon hoff
                rw [if_pos (by rfl)]
                have a0 := cell_bl hw a0
                have a1 := cell_bl hw a1
                have a2 := cell_bl hw a2
                have a3 := cell_bl hw a3
                have a4 := cell_bl hw a4
                have a5 := cell_bl hw a5
                have a6 := cell_bl hw a6
                go_simp
                exact hK _ _ rfl hw (Below.refl _ _)
              | 5, _ =>
                obtain rfl := Option.some.inj ho
                clear ho
                have o1 : a.tmps[1]?.getD undef = .pointer (some ⟨w.heap.size, 0, none⟩) := hoff 1 (by kernel_rfl)
                clear hon hoff
                rw [if_pos (by rfl)]
                go_simp
                exact hK _ _ rfl hw (Below.refl _ _)
              | 6, _ =>
                obtain rfl := Option.some.inj ho
                clear ho
                have o29 : a.tmps[29]?.getD undef = .pointer (some ⟨w.heap.size, 1, none⟩) := (Option.some.inj (hon 5 _ _ (by kernel_rfl) (by decide) rfl rfl rfl)).symm
                clear hon hoff
                rw [if_pos (by rfl)]
                have e1 := cell_bl hw e1
                go_simp
                exact hK _ _ rfl hw (Below.refl _ _)
              | 7, _ =>
                obtain rfl := Option.some.inj ho
                clear ho
                have o4 : a.tmps[4]?.getD undef = .int .i64 (k : Nat) := hoff 4 (by kernel_rfl)
                clear hon hoff
                rw [if_pos (by rfl)]
                go_simp
                exact hK _ _ rfl hw (Below.refl _ _)
              | 8, _ =>
                obtain rfl := Option.some.inj ho
                clear ho
                have o30 : a.tmps[30]?.getD undef = .slice (some ⟨b', o', none⟩) cs.length cp' := (Option.some.inj (hon 6 _ _ (by kernel_rfl) (by decide) rfl rfl rfl)).symm
                have o31 : a.tmps[31]?.getD undef = .int .i64 (k : Nat) := (Option.some.inj (hon 7 _ _ (by kernel_rfl) (by decide) rfl rfl rfl)).symm
                clear hon hoff
                rw [if_pos (by rfl)]
                go_simp
                exact hK _ _ rfl hw (Below.refl _ _)
              | 9, _ =>
                obtain rfl := Option.some.inj ho
                clear ho
                have o32 : a.tmps[32]?.getD undef = .pointer (some ⟨b', o' + k * 3, none⟩) := (Option.some.inj (hon 8 _ _ (by kernel_rfl) (by decide) rfl rfl rfl)).symm
                clear hon hoff
                rw [if_pos (by rfl)]
                go_simp
                exact hK _ _ rfl hw (Below.refl _ _)
              | 10, _ =>
                obtain rfl := Option.some.inj ho
                clear ho
                have o33 : a.tmps[33]?.getD undef = .pointer (some ⟨b', o' + k * 3 + 2, none⟩) := (Option.some.inj (hon 9 _ _ (by kernel_rfl) (by decide) rfl rfl rfl)).symm
                clear hon hoff
                rw [if_pos (by rfl)]
                have d2 := cell_bl hw d2
                go_simp
                exact hK _ _ rfl hw (Below.refl _ _)
              | 11, _ =>
                obtain rfl := Option.some.inj ho
                clear ho
                have o28 : a.tmps[28]?.getD undef = .agg #[.int .i64 q.x, .int .i64 q.y, .int .i64 q.lo, .int .i64 q.hi, .int .i64 q.tol, .int .i64 q.mat, .bool q.pin] := (Option.some.inj (hon 4 _ _ (by kernel_rfl) (by decide) rfl rfl rfl)).symm
                have o34 : a.tmps[34]?.getD undef = .int .i64 c.n := (Option.some.inj (hon 10 _ _ (by kernel_rfl) (by decide) rfl rfl rfl)).symm
                clear hon hoff
                rw [if_pos (by rfl)]
                go_simp
                refine (II _).mono ?_
                rintro e w1 ⟨rfl, b1⟩
                exact hK _ _ rfl (Bl.trans hw b1) b1
              | 12, _ =>
                obtain rfl := Option.some.inj ho
                clear ho
                have o35 : a.tmps[35]?.getD undef = .bool true := (Option.some.inj (hon 11 _ _ (by kernel_rfl) (by decide) rfl rfl rfl)).symm
                clear hon hoff
                rw [if_pos (by rfl)]
                go_simp
                exact hK _ _ rfl hw (Below.refl _ _)
              | i + 13, h => exact absurd h (by omega)
            · intro g2 w' hw _ _
              simp only [List.drop_succ_cons, List.drop_zero, Reg.puts, Act.put, List.setIfInBounds_toArray, List.set_cons_succ, List.set_cons_zero]
              go_wp2_with fail
              go_roundg (gk - 1)
              case measure => have := HM.out; omega
              case rel => exact ⟨k + 1, by have := HM.out; omega, by go_num, Bl.trans hB hw, HF.out⟩
          | false =>
            rw [hwin] at II hF
            have hr := S3.out hF
            subst hr
            clear hF
            go_wp2_with fail
            refine Reg.walk (by kernel_rfl) 13 (by kernel_rfl) (by decide) (by kernel_rfl) (fun _ => false) (fun _ => [(some 24, .pointer (some ⟨w.heap.size, 0, none⟩)), (some 25, .slice (some ⟨b, o, none⟩) ts.length cp), (some 26, .int .i64 (k : Nat)), (some 27, .pointer (some ⟨b, o + k * 7, none⟩)), (some 28, .agg #[.int .i64 q.x, .int .i64 q.y, .int .i64 q.lo, .int .i64 q.hi, .int .i64 q.tol, .int .i64 q.mat, .bool q.pin]), (some 29, .pointer (some ⟨w.heap.size, 1, none⟩)), (some 30, .slice (some ⟨b', o', none⟩) cs.length cp'), (some 31, .int .i64 (k : Nat)), (some 32, .pointer (some ⟨b', o' + k * 3, none⟩)), (some 33, .pointer (some ⟨b', o' + k * 3 + 2, none⟩)), (some 34, .int .i64 c.n), (some 35, .bool false), (some 36, .bool true)])
              (fun _ => rfl) (fun _ _ _ => rfl) (fun _ _ _ h => by cases h) (fun _ _ _ => True) (fun _ _ _ _ _ _ => trivial)
              (fun W' => Below wr.heap.size wr W')
              ((Below.refl _ wr).drew) ?_ ?_
            · intro i o hi ho Q' a w' hw hon hoff K hK
              match i, hi with
              | 0, _ =>
                obtain rfl := Option.some.inj ho
                clear ho
                have o1 : a.tmps[1]?.getD undef = .pointer (some ⟨w.heap.size, 0, none⟩) := hoff 1 (by kernel_rfl)
                clear hon hoff
                rw [if_pos (by rfl)]
                go_simp
                exact hK _ _ rfl hw (Below.refl _ _)
              | 1, _ =>
                obtain rfl := Option.some.inj ho
                clear ho
                have o24 : a.tmps[24]?.getD undef = .pointer (some ⟨w.heap.size, 0, none⟩) := (Option.some.inj (hon 0 _ _ (by kernel_rfl) (by decide) rfl rfl rfl)).symm
                clear hon hoff
                rw [if_pos (by rfl)]
                have e0 := cell_bl hw e0
                go_simp
                exact hK _ _ rfl hw (Below.refl _ _)
              | 2, _ =>
                obtain rfl := Option.some.inj ho
                clear ho
                have o4 : a.tmps[4]?.getD undef = .int .i64 (k : Nat) := hoff 4 (by kernel_rfl)
                clear hon hoff
                rw [if_pos (by rfl)]
                go_simp
                exact hK _ _ rfl hw (Below.refl _ _)
              | 3, _ =>
                obtain rfl := Option.some.inj ho
                clear ho
                have o25 : a.tmps[25]?.getD undef = .slice (some ⟨b, o, none⟩) ts.length cp := (Option.some.inj (hon 1 _ _ (by kernel_rfl) (by decide) rfl rfl rfl)).symm
                have o26 : a.tmps[26]?.getD undef = .int .i64 (k : Nat) := (Option.some.inj (hon 2 _ _ (by kernel_rfl) (by decide) rfl rfl rfl)).symm
                clear hon hoff
                rw [if_pos (by rfl)]
                go_simp
                exact hK _ _ rfl hw (Below.refl _ _)
              | 4, _ =>
                obtain rfl := Option.some.inj ho
                clear ho
                have o27 : a.tmps[27]?.getD undef = .pointer (some ⟨b, o + k * 7, none⟩) := (Option.some.inj (hon 3 _ _ (by kernel_rfl) (by decide) rfl rfl rfl)).symm
                clear hon hoff
                rw [if_pos (by rfl)]
                have a0 := cell_bl hw a0
                have a1 := cell_bl hw a1
                have a2 := cell_bl hw a2
                have a3 := cell_bl hw a3
                have a4 := cell_bl hw a4
                have a5 := cell_bl hw a5
                have a6 := cell_bl hw a6
                go_simp
                exact hK _ _ rfl hw (Below.refl _ _)
              | 5, _ =>
                obtain rfl := Option.some.inj ho
                clear ho
                have o1 : a.tmps[1]?.getD undef = .pointer (some ⟨w.heap.size, 0, none⟩) := hoff 1 (by kernel_rfl)
                clear hon hoff
                rw [if_pos (by rfl)]
                go_simp
                exact hK _ _ rfl hw (Below.refl _ _)
              | 6, _ =>
                obtain rfl := Option.some.inj ho
                clear ho
                have o29 : a.tmps[29]?.getD undef = .pointer (some ⟨w.heap.size, 1, none⟩) := (Option.some.inj (hon 5 _ _ (by kernel_rfl) (by decide) rfl rfl rfl)).symm
                clear hon hoff
                rw [if_pos (by rfl)]
                have e1 := cell_bl hw e1
                go_simp
                exact hK _ _ rfl hw (Below.refl _ _)
              | 7, _ =>
                obtain rfl := Option.some.inj ho
                clear ho
                have o4 : a.tmps[4]?.getD undef = .int .i64 (k : Nat) := hoff 4 (by kernel_rfl)
                clear hon hoff
                rw [if_pos (by rfl)]
                go_simp
                exact hK _ _ rfl hw (Below.refl _ _)
              | 8, _ =>
                obtain rfl := Option.some.inj ho
                clear ho
                have o30 : a.tmps[30]?.getD undef = .slice (some ⟨b', o', none⟩) cs.length cp' := (Option.some.inj (hon 6 _ _ (by kernel_rfl) (by decide) rfl rfl rfl)).symm
                have o31 : a.tmps[31]?.getD undef = .int .i64 (k : Nat) := (Option.some.inj (hon 7 _ _ (by kernel_rfl) (by decide) rfl rfl rfl)).symm
                clear hon hoff
                rw [if_pos (by rfl)]
                go_simp
                exact hK _ _ rfl hw (Below.refl _ _)
              | 9, _ =>
                obtain rfl := Option.some.inj ho
                clear ho
                have o32 : a.tmps[32]?.getD undef = .pointer (some ⟨b', o' + k * 3, none⟩) := (Option.some.inj (hon 8 _ _ (by kernel_rfl) (by decide) rfl rfl rfl)).symm
                clear hon hoff
                rw [if_pos (by rfl)]
                go_simp
                exact hK _ _ rfl hw (Below.refl _ _)
              | 10, _ =>
                obtain rfl := Option.some.inj ho
                clear ho
                have o33 : a.tmps[33]?.getD undef = .pointer (some ⟨b', o' + k * 3 + 2, none⟩) := (Option.some.inj (hon 9 _ _ (by kernel_rfl) (by decide) rfl rfl rfl)).symm
                clear hon hoff
                rw [if_pos (by rfl)]
                have d2 := cell_bl hw d2
                go_simp
                exact hK _ _ rfl hw (Below.refl _ _)
              | 11, _ =>
                obtain rfl := Option.some.inj ho
                clear ho
                have o28 : a.tmps[28]?.getD undef = .agg #[.int .i64 q.x, .int .i64 q.y, .int .i64 q.lo, .int .i64 q.hi, .int .i64 q.tol, .int .i64 q.mat, .bool q.pin] := (Option.some.inj (hon 4 _ _ (by kernel_rfl) (by decide) rfl rfl rfl)).symm
                have o34 : a.tmps[34]?.getD undef = .int .i64 c.n := (Option.some.inj (hon 10 _ _ (by kernel_rfl) (by decide) rfl rfl rfl)).symm
                clear hon hoff
                rw [if_pos (by rfl)]
                go_simp
                refine (II _).mono ?_
                rintro e w1 ⟨rfl, b1⟩
                exact hK _ _ rfl (Bl.trans hw b1) b1
              | 12, _ =>
                obtain rfl := Option.some.inj ho
                clear ho
                have o35 : a.tmps[35]?.getD undef = .bool false := (Option.some.inj (hon 11 _ _ (by kernel_rfl) (by decide) rfl rfl rfl)).symm
                clear hon hoff
                rw [if_pos (by rfl)]
                go_simp
                exact hK _ _ rfl hw (Below.refl _ _)
              | i + 13, h => exact absurd h (by omega)
            · intro g2 w' hw _ _
              simp only [List.drop_succ_cons, List.drop_zero, Reg.puts, Act.put, List.setIfInBounds_toArray, List.set_cons_succ, List.set_cons_zero]
              go_wp2_with fail
              go_ret
              exact ⟨rfl, Bl.trans B1 (Bl.trans hB hw)⟩
        · have hk : k = ts.length := by omega
          have hwn : wins ts cs = true := by rw [hF, hk, List.drop_length]; rfl
          have hr := S4.out hwn
          have e2 : wr.cell? ⟨w.heap.size, 2, none⟩ = some (.int .i64 play) := cell_of_row wr _ 2 _ _ _ q3
          have hnl : ¬ (k : Int) < (ts.length : Int) := by omega
          clear hF hm hlt
          by_cases c1 : play < -1
          · rw [if_pos (.inl c1)] at hr
            subst hr
            go_wp2_with fail
            go_ret
            exact ⟨rfl, Bl.trans B1 hB⟩
          · have c1' : -1 ≤ play := by omega
            by_cases c2 : 100000 < play
            · rw [if_pos (.inr c2)] at hr
              subst hr
              go_wp2_with fail
              go_ret
              exact ⟨rfl, Bl.trans B1 hB⟩
            · have c2' : play ≤ 100000 := by omega
              rw [if_neg (by omega)] at hr
              subst hr
              go_wp2_with fail
              go_ret
              exact ⟨rfl, Bl.trans B1 hB⟩
  · have hr := S1 hp
    clear S1 S2 S3 S4 hP hT1 hC1
    generalize pchk ts cs = z at *
    subst hr
    go_enter Tryz.func18, Tryz.ntmps18
    go_wp2_with fail
    clear hW
    refine P.mono ?_
    rintro e w1 ⟨rfl, b1⟩
    go_wp2_with fail
    go_ret
    exact ⟨rfl, Bl.trans bW b1⟩

set_option maxRecDepth 100000 in
set_option maxHeartbeats 2000000 in
theorem own_c {p p' : Option Addr} {n n' cp cp' : Nat} {play : Int} (w : World) : Calls Tryz.prog 16 #[.agg (tkg p n cp p' n' cp' play)] w (RB (.agg (tkg p n cp p' n' cp' play)) w) := by
  unfold tkg
  go_enter Tryz.func16, Tryz.ntmps16
  go_wp2_with fail
  have B : ∀ o1 o2 : Obj, Below w.heap.size w ((w.alloc o1).alloc o2) := fun o1 o2 => ((Below.refl _ w).alloc (Nat.le_refl _) o1).alloc (by simp) o2
  refine bodyPost_ret (v := .agg #[.slice p n cp, .slice p' n' cp', .int .i64 play]) ?_ rfl ⟨rfl, B _ _⟩
  simp [results, Tryz.f16, go_sem]

set_option maxRecDepth 100000 in
set_option maxHeartbeats 2000000 in
theorem rfew44_a {p p' : Option Addr} {n n' cp cp' : Nat} (k1 : 32 < n) (w : World) : Calls Tryz.prog 12 #[.slice p n cp, .slice p' n' cp'] w (RB (.bool false) w) := by
  have i1 : (32 : Int) < (n : Int) := by omega
  go_enter Tryz.func12, Tryz.ntmps12
  go_wp2_with fail
  go_ret
  exact ⟨rfl, Below.refl _ w⟩
set_option maxRecDepth 100000 in
set_option maxHeartbeats 2000000 in
theorem rfew44_b {p p' : Option Addr} {n n' cp cp' : Nat} (k1 : n ≤ 32) (k2 : 32 < n') (w : World) : Calls Tryz.prog 12 #[.slice p n cp, .slice p' n' cp'] w (RB (.bool false) w) := by
  have i1 : (n : Int) ≤ 32 := by omega
  have i2 : ¬ (n' : Int) ≤ 32 := by omega
  go_enter Tryz.func12, Tryz.ntmps12
  go_wp2_with fail
  go_ret
  exact ⟨rfl, Below.refl _ w⟩
set_option maxRecDepth 100000 in
set_option maxHeartbeats 2000000 in
theorem rfew44_c {p p' : Option Addr} {n n' cp cp' : Nat} (k1 : n ≤ 32) (k2 : n' ≤ 32) (w : World) : Calls Tryz.prog 12 #[.slice p n cp, .slice p' n' cp'] w (RB (.bool true) w) := by
  have i1 : (n : Int) ≤ 32 := by omega
  have i2 : (n' : Int) ≤ 32 := by omega
  go_enter Tryz.func12, Tryz.ntmps12
  go_wp2_with fail
  go_ret
  exact ⟨rfl, Below.refl _ w⟩
set_option maxRecDepth 100000 in
set_option maxHeartbeats 2000000 in
theorem rfew_a {p p' : Option Addr} {n n' cp cp' : Nat} {play : Int}  (w : World)
    (F : ∀ w, Calls Tryz.prog 12 #[.slice p n cp, .slice p' n' cp'] w (RB (.bool false) w)) :
    Calls Tryz.prog 23 #[.agg #[.slice p n cp, .slice p' n' cp', .int .i64 play]] w (RB (.bool false) w) := by
  obtain ⟨W, hW⟩ : ∃ W, w.alloc (.cells #[.slice p n cp, .slice p' n' cp', .int .i64 play] 34) = W := ⟨_, rfl⟩
  have q1 : W.heap[w.heap.size]? = some (.cells #[.slice p n cp, .slice p' n' cp', .int .i64 play] 34 (0, 0)) := hW ▸ heap_alloc_new w _
  have bW : Below w.heap.size w W := hW ▸ (Below.refl _ w).alloc (Nat.le_refl _) _
  have e0 : W.cell? ⟨w.heap.size, 0, none⟩ = some (.slice p n cp) := cell_of_row W _ 0 _ _ _ q1
  have e1 : W.cell? ⟨w.heap.size, 1, none⟩ = some (.slice p' n' cp') := cell_of_row W _ 1 _ _ _ q1
  have FF := F W
  clear F
  go_enter Tryz.func23, Tryz.ntmps23
  go_wp2_with fail
  clear hW
  refine FF.mono ?_
  rintro e w1 ⟨rfl, b1⟩
  have B1 := Bl.trans bW b1
  go_wp2_with fail
  go_ret
  exact ⟨by first | rfl | (simp; omega), B1⟩
set_option maxRecDepth 100000 in
set_option maxHeartbeats 2000000 in
theorem rfew_b {p p' : Option Addr} {n n' cp cp' : Nat} {play : Int} (k1 : n ≤ 4) (k2 : n' ≤ 4) (w : World)
    (F : ∀ w, Calls Tryz.prog 12 #[.slice p n cp, .slice p' n' cp'] w (RB (.bool true) w)) :
    Calls Tryz.prog 23 #[.agg #[.slice p n cp, .slice p' n' cp', .int .i64 play]] w (RB (.bool true) w) := by
  have i_n1 : (n : Int) ≤ 4 := by omega
  have i_n2 : (n' : Int) ≤ 4 := by omega
  obtain ⟨W, hW⟩ : ∃ W, w.alloc (.cells #[.slice p n cp, .slice p' n' cp', .int .i64 play] 34) = W := ⟨_, rfl⟩
  have q1 : W.heap[w.heap.size]? = some (.cells #[.slice p n cp, .slice p' n' cp', .int .i64 play] 34 (0, 0)) := hW ▸ heap_alloc_new w _
  have bW : Below w.heap.size w W := hW ▸ (Below.refl _ w).alloc (Nat.le_refl _) _
  have e0 : W.cell? ⟨w.heap.size, 0, none⟩ = some (.slice p n cp) := cell_of_row W _ 0 _ _ _ q1
  have e1 : W.cell? ⟨w.heap.size, 1, none⟩ = some (.slice p' n' cp') := cell_of_row W _ 1 _ _ _ q1
  have FF := F W
  clear F
  go_enter Tryz.func23, Tryz.ntmps23
  go_wp2_with fail
  clear hW
  refine FF.mono ?_
  rintro e w1 ⟨rfl, b1⟩
  have B1 := Bl.trans bW b1
  have q2 := blk_below q1 b1
  clear e0 e1
  have e0 : w1.cell? ⟨w.heap.size, 0, none⟩ = some (.slice p n cp) := cell_of_row w1 _ 0 _ _ _ q2
  have e1 : w1.cell? ⟨w.heap.size, 1, none⟩ = some (.slice p' n' cp') := cell_of_row w1 _ 1 _ _ _ q2
  have e2 : w1.cell? ⟨w.heap.size, 2, none⟩ = some (.int .i64 play) := cell_of_row w1 _ 2 _ _ _ q2
  go_wp2_with fail
  go_ret
  exact ⟨by first | rfl | (simp; omega), B1⟩
set_option maxRecDepth 100000 in
set_option maxHeartbeats 2000000 in
theorem rfew_c0 {p p' : Option Addr} {n n' cp cp' : Nat} {play : Int} (k1 : n ≤ 4) (k2 : 4 < n') (w : World)
    (F : ∀ w, Calls Tryz.prog 12 #[.slice p n cp, .slice p' n' cp'] w (RB (.bool true) w))
    (K : ∀ w', Below w.heap.size w w' → Calls Tryz.prog 18 #[.agg #[.slice p n cp, .slice p' n' cp', .int .i64 play]] w' (RB (.int .i64 0) w')) :
    Calls Tryz.prog 23 #[.agg #[.slice p n cp, .slice p' n' cp', .int .i64 play]] w (RB (.bool false) w) := by
  have i_n1 : (n : Int) ≤ 4 := by omega
  have i_n2 : ¬ (n' : Int) ≤ 4 := by omega
  obtain ⟨W, hW⟩ : ∃ W, w.alloc (.cells #[.slice p n cp, .slice p' n' cp', .int .i64 play] 34) = W := ⟨_, rfl⟩
  have q1 : W.heap[w.heap.size]? = some (.cells #[.slice p n cp, .slice p' n' cp', .int .i64 play] 34 (0, 0)) := hW ▸ heap_alloc_new w _
  have bW : Below w.heap.size w W := hW ▸ (Below.refl _ w).alloc (Nat.le_refl _) _
  have e0 : W.cell? ⟨w.heap.size, 0, none⟩ = some (.slice p n cp) := cell_of_row W _ 0 _ _ _ q1
  have e1 : W.cell? ⟨w.heap.size, 1, none⟩ = some (.slice p' n' cp') := cell_of_row W _ 1 _ _ _ q1
  have FF := F W
  clear F
  go_enter Tryz.func23, Tryz.ntmps23
  go_wp2_with fail
  clear hW
  refine FF.mono ?_
  rintro e w1 ⟨rfl, b1⟩
  have B1 := Bl.trans bW b1
  have q2 := blk_below q1 b1
  clear e0 e1
  have e0 : w1.cell? ⟨w.heap.size, 0, none⟩ = some (.slice p n cp) := cell_of_row w1 _ 0 _ _ _ q2
  have e1 : w1.cell? ⟨w.heap.size, 1, none⟩ = some (.slice p' n' cp') := cell_of_row w1 _ 1 _ _ _ q2
  have e2 : w1.cell? ⟨w.heap.size, 2, none⟩ = some (.int .i64 play) := cell_of_row w1 _ 2 _ _ _ q2
  have KK := K w1 B1
  clear K
  go_wp2_with fail
  refine KK.mono ?_
  rintro e w2 ⟨rfl, b2⟩
  go_wp2_with fail
  go_ret
  exact ⟨by first | rfl | (simp; omega), Bl.trans B1 b2⟩
set_option maxRecDepth 100000 in
set_option maxHeartbeats 2000000 in
theorem rfew_c1 {p p' : Option Addr} {n n' cp cp' : Nat} {play : Int} {s : Int} (hs : ¬ s = 0) (k1 : n ≤ 4) (k2 : 4 < n') (w : World)
    (F : ∀ w, Calls Tryz.prog 12 #[.slice p n cp, .slice p' n' cp'] w (RB (.bool true) w))
    (K : ∀ w', Below w.heap.size w w' → Calls Tryz.prog 18 #[.agg #[.slice p n cp, .slice p' n' cp', .int .i64 play]] w' (RB (.int .i64 s) w')) :
    Calls Tryz.prog 23 #[.agg #[.slice p n cp, .slice p' n' cp', .int .i64 play]] w (RB (.bool true) w) := by
  have i_n1 : (n : Int) ≤ 4 := by omega
  have i_n2 : ¬ (n' : Int) ≤ 4 := by omega
  have hs1 : (s != 0) = true := by simpa using hs
  obtain ⟨W, hW⟩ : ∃ W, w.alloc (.cells #[.slice p n cp, .slice p' n' cp', .int .i64 play] 34) = W := ⟨_, rfl⟩
  have q1 : W.heap[w.heap.size]? = some (.cells #[.slice p n cp, .slice p' n' cp', .int .i64 play] 34 (0, 0)) := hW ▸ heap_alloc_new w _
  have bW : Below w.heap.size w W := hW ▸ (Below.refl _ w).alloc (Nat.le_refl _) _
  have e0 : W.cell? ⟨w.heap.size, 0, none⟩ = some (.slice p n cp) := cell_of_row W _ 0 _ _ _ q1
  have e1 : W.cell? ⟨w.heap.size, 1, none⟩ = some (.slice p' n' cp') := cell_of_row W _ 1 _ _ _ q1
  have FF := F W
  clear F
  go_enter Tryz.func23, Tryz.ntmps23
  go_wp2_with fail
  clear hW
  refine FF.mono ?_
  rintro e w1 ⟨rfl, b1⟩
  have B1 := Bl.trans bW b1
  have q2 := blk_below q1 b1
  clear e0 e1
  have e0 : w1.cell? ⟨w.heap.size, 0, none⟩ = some (.slice p n cp) := cell_of_row w1 _ 0 _ _ _ q2
  have e1 : w1.cell? ⟨w.heap.size, 1, none⟩ = some (.slice p' n' cp') := cell_of_row w1 _ 1 _ _ _ q2
  have e2 : w1.cell? ⟨w.heap.size, 2, none⟩ = some (.int .i64 play) := cell_of_row w1 _ 2 _ _ _ q2
  have KK := K w1 B1
  clear K
  go_wp2_with fail
  refine KK.mono ?_
  rintro e w2 ⟨rfl, b2⟩
  go_wp2_with fail
  go_ret
  exact ⟨by first | rfl | (simp; omega), Bl.trans B1 b2⟩
set_option maxRecDepth 100000 in
set_option maxHeartbeats 2000000 in
theorem rfew_d0 {p p' : Option Addr} {n n' cp cp' : Nat} {play : Int} (k1 : 4 < n) (w : World)
    (F : ∀ w, Calls Tryz.prog 12 #[.slice p n cp, .slice p' n' cp'] w (RB (.bool true) w))
    (K : ∀ w', Below w.heap.size w w' → Calls Tryz.prog 18 #[.agg #[.slice p n cp, .slice p' n' cp', .int .i64 play]] w' (RB (.int .i64 0) w')) :
    Calls Tryz.prog 23 #[.agg #[.slice p n cp, .slice p' n' cp', .int .i64 play]] w (RB (.bool false) w) := by
  have i_n1 : ¬ (n : Int) ≤ 4 := by omega
  obtain ⟨W, hW⟩ : ∃ W, w.alloc (.cells #[.slice p n cp, .slice p' n' cp', .int .i64 play] 34) = W := ⟨_, rfl⟩
  have q1 : W.heap[w.heap.size]? = some (.cells #[.slice p n cp, .slice p' n' cp', .int .i64 play] 34 (0, 0)) := hW ▸ heap_alloc_new w _
  have bW : Below w.heap.size w W := hW ▸ (Below.refl _ w).alloc (Nat.le_refl _) _
  have e0 : W.cell? ⟨w.heap.size, 0, none⟩ = some (.slice p n cp) := cell_of_row W _ 0 _ _ _ q1
  have e1 : W.cell? ⟨w.heap.size, 1, none⟩ = some (.slice p' n' cp') := cell_of_row W _ 1 _ _ _ q1
  have FF := F W
  clear F
  go_enter Tryz.func23, Tryz.ntmps23
  go_wp2_with fail
  clear hW
  refine FF.mono ?_
  rintro e w1 ⟨rfl, b1⟩
  have B1 := Bl.trans bW b1
  have q2 := blk_below q1 b1
  clear e0 e1
  have e0 : w1.cell? ⟨w.heap.size, 0, none⟩ = some (.slice p n cp) := cell_of_row w1 _ 0 _ _ _ q2
  have e1 : w1.cell? ⟨w.heap.size, 1, none⟩ = some (.slice p' n' cp') := cell_of_row w1 _ 1 _ _ _ q2
  have e2 : w1.cell? ⟨w.heap.size, 2, none⟩ = some (.int .i64 play) := cell_of_row w1 _ 2 _ _ _ q2
  have KK := K w1 B1
  clear K
  go_wp2_with fail
  refine KK.mono ?_
  rintro e w2 ⟨rfl, b2⟩
  go_wp2_with fail
  go_ret
  exact ⟨by first | rfl | (simp; omega), Bl.trans B1 b2⟩
set_option maxRecDepth 100000 in
set_option maxHeartbeats 2000000 in
theorem rfew_d1 {p p' : Option Addr} {n n' cp cp' : Nat} {play : Int} {s : Int} (hs : ¬ s = 0) (k1 : 4 < n) (w : World)
    (F : ∀ w, Calls Tryz.prog 12 #[.slice p n cp, .slice p' n' cp'] w (RB (.bool true) w))
    (K : ∀ w', Below w.heap.size w w' → Calls Tryz.prog 18 #[.agg #[.slice p n cp, .slice p' n' cp', .int .i64 play]] w' (RB (.int .i64 s) w')) :
    Calls Tryz.prog 23 #[.agg #[.slice p n cp, .slice p' n' cp', .int .i64 play]] w (RB (.bool true) w) := by
  have i_n1 : ¬ (n : Int) ≤ 4 := by omega
  have hs1 : (s != 0) = true := by simpa using hs
  obtain ⟨W, hW⟩ : ∃ W, w.alloc (.cells #[.slice p n cp, .slice p' n' cp', .int .i64 play] 34) = W := ⟨_, rfl⟩
  have q1 : W.heap[w.heap.size]? = some (.cells #[.slice p n cp, .slice p' n' cp', .int .i64 play] 34 (0, 0)) := hW ▸ heap_alloc_new w _
  have bW : Below w.heap.size w W := hW ▸ (Below.refl _ w).alloc (Nat.le_refl _) _
  have e0 : W.cell? ⟨w.heap.size, 0, none⟩ = some (.slice p n cp) := cell_of_row W _ 0 _ _ _ q1
  have e1 : W.cell? ⟨w.heap.size, 1, none⟩ = some (.slice p' n' cp') := cell_of_row W _ 1 _ _ _ q1
  have FF := F W
  clear F
  go_enter Tryz.func23, Tryz.ntmps23
  go_wp2_with fail
  clear hW
  refine FF.mono ?_
  rintro e w1 ⟨rfl, b1⟩
  have B1 := Bl.trans bW b1
  have q2 := blk_below q1 b1
  clear e0 e1
  have e0 : w1.cell? ⟨w.heap.size, 0, none⟩ = some (.slice p n cp) := cell_of_row w1 _ 0 _ _ _ q2
  have e1 : w1.cell? ⟨w.heap.size, 1, none⟩ = some (.slice p' n' cp') := cell_of_row w1 _ 1 _ _ _ q2
  have e2 : w1.cell? ⟨w.heap.size, 2, none⟩ = some (.int .i64 play) := cell_of_row w1 _ 2 _ _ _ q2
  have KK := K w1 B1
  clear K
  go_wp2_with fail
  refine KK.mono ?_
  rintro e w2 ⟨rfl, b2⟩
  go_wp2_with fail
  go_ret
  exact ⟨by first | rfl | (simp; omega), Bl.trans B1 b2⟩
set_option maxRecDepth 100000 in
set_option maxHeartbeats 2000000 in
theorem right_a {p p' : Option Addr} {n n' cp cp' : Nat} {play : Int}  (w : World)
    (O : ∀ w, Calls Tryz.prog 16 #[.agg #[.slice p n cp, .slice p' n' cp', .int .i64 play]] w (RB (.agg #[.slice p n cp, .slice p' n' cp', .int .i64 play]) w))
    (F : ∀ w', Below w.heap.size w w' → Calls Tryz.prog 23 #[.agg #[.slice p n cp, .slice p' n' cp', .int .i64 play]] w' (RB (.bool false) w')) :
    Calls Tryz.prog 31 #[.agg #[.slice p n cp, .slice p' n' cp', .int .i64 play]] w (RB (.bool false) w) := by
  obtain ⟨W, hW⟩ : ∃ W, w.alloc (.cells #[.slice p n cp, .slice p' n' cp', .int .i64 play] 25) = W := ⟨_, rfl⟩
  have q1 : W.heap[w.heap.size]? = some (.cells #[.slice p n cp, .slice p' n' cp', .int .i64 play] 25 (0, 0)) := hW ▸ heap_alloc_new w _
  have bW : Below w.heap.size w W := hW ▸ (Below.refl _ w).alloc (Nat.le_refl _) _
  have e0 : W.cell? ⟨w.heap.size, 0, none⟩ = some (.slice p n cp) := cell_of_row W _ 0 _ _ _ q1
  have e1 : W.cell? ⟨w.heap.size, 1, none⟩ = some (.slice p' n' cp') := cell_of_row W _ 1 _ _ _ q1
  have e2 : W.cell? ⟨w.heap.size, 2, none⟩ = some (.int .i64 play) := cell_of_row W _ 2 _ _ _ q1
  go_enter Tryz.func31, Tryz.ntmps31
  go_wp2_with fail
  clear hW
  refine (O W).mono ?_
  rintro e w1 ⟨rfl, b1⟩
  have B1 := Bl.trans bW b1
  have FF := F w1 B1
  clear e0 e1 e2 F
  go_wp2_with fail
  refine FF.mono ?_
  rintro e w2 ⟨rfl, b2⟩
  have B2 := Bl.trans B1 b2
  go_wp2_with fail
  go_ret
  exact ⟨rfl, B2⟩
set_option maxRecDepth 100000 in
set_option maxHeartbeats 2000000 in
theorem right_b {p p' : Option Addr} {n n' cp cp' : Nat} {play : Int}  (w : World)
    (O : ∀ w, Calls Tryz.prog 16 #[.agg #[.slice p n cp, .slice p' n' cp', .int .i64 play]] w (RB (.agg #[.slice p n cp, .slice p' n' cp', .int .i64 play]) w))
    (F : ∀ w', Below w.heap.size w w' → Calls Tryz.prog 23 #[.agg #[.slice p n cp, .slice p' n' cp', .int .i64 play]] w' (RB (.bool true) w'))
    (K : ∀ w', Below w.heap.size w w' → Calls Tryz.prog 18 #[.agg #[.slice p n cp, .slice p' n' cp', .int .i64 play]] w' (RB (.int .i64 0) w')) :
    Calls Tryz.prog 31 #[.agg #[.slice p n cp, .slice p' n' cp', .int .i64 play]] w (RB (.bool true) w) := by
  obtain ⟨W, hW⟩ : ∃ W, w.alloc (.cells #[.slice p n cp, .slice p' n' cp', .int .i64 play] 25) = W := ⟨_, rfl⟩
  have q1 : W.heap[w.heap.size]? = some (.cells #[.slice p n cp, .slice p' n' cp', .int .i64 play] 25 (0, 0)) := hW ▸ heap_alloc_new w _
  have bW : Below w.heap.size w W := hW ▸ (Below.refl _ w).alloc (Nat.le_refl _) _
  have e0 : W.cell? ⟨w.heap.size, 0, none⟩ = some (.slice p n cp) := cell_of_row W _ 0 _ _ _ q1
  have e1 : W.cell? ⟨w.heap.size, 1, none⟩ = some (.slice p' n' cp') := cell_of_row W _ 1 _ _ _ q1
  have e2 : W.cell? ⟨w.heap.size, 2, none⟩ = some (.int .i64 play) := cell_of_row W _ 2 _ _ _ q1
  go_enter Tryz.func31, Tryz.ntmps31
  go_wp2_with fail
  clear hW
  refine (O W).mono ?_
  rintro e w1 ⟨rfl, b1⟩
  have B1 := Bl.trans bW b1
  have FF := F w1 B1
  clear e0 e1 e2 F
  go_wp2_with fail
  refine FF.mono ?_
  rintro e w2 ⟨rfl, b2⟩
  have B2 := Bl.trans B1 b2
  have q2 := blk_below (blk_below q1 b1) b2
  have e0 : w2.cell? ⟨w.heap.size, 0, none⟩ = some (.slice p n cp) := cell_of_row w2 _ 0 _ _ _ q2
  have e1 : w2.cell? ⟨w.heap.size, 1, none⟩ = some (.slice p' n' cp') := cell_of_row w2 _ 1 _ _ _ q2
  have e2 : w2.cell? ⟨w.heap.size, 2, none⟩ = some (.int .i64 play) := cell_of_row w2 _ 2 _ _ _ q2
  have O2 := O w2
  clear O
  go_wp2_with fail
  refine O2.mono ?_
  rintro e w3 ⟨rfl, b3⟩
  have B3 := Bl.trans B2 b3
  have KK := K w3 B3
  clear K e0 e1 e2
  go_wp2_with fail
  refine KK.mono ?_
  rintro e w4 ⟨rfl, b4⟩
  go_wp2_with fail
  go_ret
  exact ⟨rfl, Bl.trans B3 b4⟩
set_option maxRecDepth 100000 in
set_option maxHeartbeats 2000000 in
theorem right_c {p p' : Option Addr} {n n' cp cp' : Nat} {play : Int} {s : Int} (hs : (s == 0) = false) (w : World)
    (O : ∀ w, Calls Tryz.prog 16 #[.agg #[.slice p n cp, .slice p' n' cp', .int .i64 play]] w (RB (.agg #[.slice p n cp, .slice p' n' cp', .int .i64 play]) w))
    (F : ∀ w', Below w.heap.size w w' → Calls Tryz.prog 23 #[.agg #[.slice p n cp, .slice p' n' cp', .int .i64 play]] w' (RB (.bool true) w'))
    (K : ∀ w', Below w.heap.size w w' → Calls Tryz.prog 18 #[.agg #[.slice p n cp, .slice p' n' cp', .int .i64 play]] w' (RB (.int .i64 s) w')) :
    Calls Tryz.prog 31 #[.agg #[.slice p n cp, .slice p' n' cp', .int .i64 play]] w (RB (.bool false) w) := by
  obtain ⟨W, hW⟩ : ∃ W, w.alloc (.cells #[.slice p n cp, .slice p' n' cp', .int .i64 play] 25) = W := ⟨_, rfl⟩
  have q1 : W.heap[w.heap.size]? = some (.cells #[.slice p n cp, .slice p' n' cp', .int .i64 play] 25 (0, 0)) := hW ▸ heap_alloc_new w _
  have bW : Below w.heap.size w W := hW ▸ (Below.refl _ w).alloc (Nat.le_refl _) _
  have e0 : W.cell? ⟨w.heap.size, 0, none⟩ = some (.slice p n cp) := cell_of_row W _ 0 _ _ _ q1
  have e1 : W.cell? ⟨w.heap.size, 1, none⟩ = some (.slice p' n' cp') := cell_of_row W _ 1 _ _ _ q1
  have e2 : W.cell? ⟨w.heap.size, 2, none⟩ = some (.int .i64 play) := cell_of_row W _ 2 _ _ _ q1
  go_enter Tryz.func31, Tryz.ntmps31
  go_wp2_with fail
  clear hW
  refine (O W).mono ?_
  rintro e w1 ⟨rfl, b1⟩
  have B1 := Bl.trans bW b1
  have FF := F w1 B1
  clear e0 e1 e2 F
  go_wp2_with fail
  refine FF.mono ?_
  rintro e w2 ⟨rfl, b2⟩
  have B2 := Bl.trans B1 b2
  have q2 := blk_below (blk_below q1 b1) b2
  have e0 : w2.cell? ⟨w.heap.size, 0, none⟩ = some (.slice p n cp) := cell_of_row w2 _ 0 _ _ _ q2
  have e1 : w2.cell? ⟨w.heap.size, 1, none⟩ = some (.slice p' n' cp') := cell_of_row w2 _ 1 _ _ _ q2
  have e2 : w2.cell? ⟨w.heap.size, 2, none⟩ = some (.int .i64 play) := cell_of_row w2 _ 2 _ _ _ q2
  have O2 := O w2
  clear O
  go_wp2_with fail
  refine O2.mono ?_
  rintro e w3 ⟨rfl, b3⟩
  have B3 := Bl.trans B2 b3
  have KK := K w3 B3
  clear K e0 e1 e2
  go_wp2_with fail
  refine KK.mono ?_
  rintro e w4 ⟨rfl, b4⟩
  go_wp2_with fail
  go_ret
  exact ⟨rfl, Bl.trans B3 b4⟩

/-- a task is right and small -/
def rgtb (ts : List Tg) (cs : List Ci) (play : Int) : Bool := decide (ts.length ≤ 4 ∧ cs.length ≤ 4 ∧ schk ts cs play = 0)
/-- is it few -/
def fewb (ts : List Tg) (cs : List Ci) (play : Int) : Bool := decide ((ts.length ≤ 32 ∧ cs.length ≤ 32) ∧ ((ts.length ≤ 4 ∧ cs.length ≤ 4) ∨ schk ts cs play ≠ 0))
theorem rfew_c {ts : List Tg} {cs : List Ci} {p p' : Option Addr} {cp cp' : Nat} {play : Int} (w : World) (hT : TL w p ts) (hC : CL w p' cs) :
    Calls Tryz.prog 23 #[.agg (tkg p ts.length cp p' cs.length cp' play)] w (RB (.bool (fewb ts cs play)) w) := by
  have K : ∀ w', Below w.heap.size w w' → Calls Tryz.prog 18 #[.agg (tkg p ts.length cp p' cs.length cp' play)] w' (RB (.int .i64 (schk ts cs play)) w') := fun w' hB => rschk_c w' (hT.step hB) (hC.step hB)
  unfold fewb
  unfold tkg at *
  by_cases a : ts.length ≤ 32
  · by_cases b : cs.length ≤ 32
    · have F := fun w => rfew44_c (p := p) (p' := p') (cp := cp) (cp' := cp') a b w
      by_cases c : ts.length ≤ 4
      · by_cases d : cs.length ≤ 4
        · rw [decide_eq_true ⟨⟨a, b⟩, .inl ⟨c, d⟩⟩]; exact rfew_b c d w F
        · by_cases e : schk ts cs play = 0
          · rw [decide_eq_false (by rintro ⟨_, ⟨_, h⟩ | h⟩ <;> contradiction)]; rw [e] at K; exact rfew_c0 c (by omega) w F K
          · rw [decide_eq_true ⟨⟨a, b⟩, .inr e⟩]; exact rfew_c1 e c (by omega) w F K
      · by_cases e : schk ts cs play = 0
        · rw [decide_eq_false (by rintro ⟨_, ⟨h, _⟩ | h⟩ <;> contradiction)]; rw [e] at K; exact rfew_d0 (by omega) w F K
        · rw [decide_eq_true ⟨⟨a, b⟩, .inr e⟩]; exact rfew_d1 e (by omega) w F K
    · rw [decide_eq_false (by rintro ⟨⟨_, h⟩, _⟩; contradiction)]
      exact rfew_a w (fun w => rfew44_b a (by omega) w)
  · rw [decide_eq_false (by rintro ⟨⟨h, _⟩, _⟩; contradiction)]
    exact rfew_a w (fun w => rfew44_a (by omega) w)
theorem right_law {ts : List Tg} {cs : List Ci} {p p' : Option Addr} {cp cp' : Nat} {play : Int} (w : World) (hT : TL w p ts) (hC : CL w p' cs) :
    Calls Tryz.prog 31 #[.agg (tkg p ts.length cp p' cs.length cp' play)] w (RB (.bool (rgtb ts cs play)) w) := by
  have K : ∀ w', Below w.heap.size w w' → Calls Tryz.prog 18 #[.agg (tkg p ts.length cp p' cs.length cp' play)] w' (RB (.int .i64 (schk ts cs play)) w') := fun w' hB => rschk_c w' (hT.step hB) (hC.step hB)
  have F : ∀ w', Below w.heap.size w w' → Calls Tryz.prog 23 #[.agg (tkg p ts.length cp p' cs.length cp' play)] w' (RB (.bool (fewb ts cs play)) w') := fun w' hB => rfew_c w' (hT.step hB) (hC.step hB)
  have O : ∀ w, Calls Tryz.prog 16 #[.agg (tkg p ts.length cp p' cs.length cp' play)] w (RB (.agg (tkg p ts.length cp p' cs.length cp' play)) w) := fun w => own_c w
  have hfr : fewb ts cs play = true → schk ts cs play = 0 → rgtb ts cs play = true := fun h h' => by
    unfold fewb at h; unfold rgtb
    obtain ⟨_, ⟨h1, h2⟩ | h3⟩ := of_decide_eq_true h
    · exact decide_eq_true ⟨h1, h2, h'⟩
    · exact absurd h' h3
  have hrf : rgtb ts cs play = true → fewb ts cs play = true ∧ schk ts cs play = 0 := fun h => by
    unfold rgtb at h; unfold fewb
    obtain ⟨h1, h2, h3⟩ := of_decide_eq_true h
    exact ⟨decide_eq_true ⟨⟨by omega, by omega⟩, .inl ⟨h1, h2⟩⟩, h3⟩
  unfold tkg at *
  cases hf : fewb ts cs play with
  | false =>
    rw [hf] at F
    have : rgtb ts cs play = false := by
      cases h : rgtb ts cs play with
      | false => rfl
      | true => have := (hrf h).1; rw [hf] at this; cases this
    rw [this]
    exact right_a w O F
  | true =>
    rw [hf] at F
    by_cases hs : schk ts cs play = 0
    · rw [hfr hf hs]; rw [hs] at K; exact right_b w O F K
    · have : rgtb ts cs play = false := by
        cases h : rgtb ts cs play with
        | false => rfl
        | true => exact absurd (hrf h).2 hs
      rw [this]
      exact right_c (by simpa using hs) w O F K
/-- and then all is right -/
theorem rgt_pok {ts : List Tg} {cs : List Ci} {play : Int} (h : rgtb ts cs play = true) : Pok (ts.zip cs) ∧ ts.length ≤ 4 ∧ cs.length = ts.length ∧ -1 ≤ play ∧ play ≤ 100000 := by
  unfold rgtb at h
  obtain ⟨h1, _, h3⟩ := of_decide_eq_true h
  obtain ⟨⟨_, h4, h5⟩, h6, h7⟩ := (schk_iff ts cs play).1 h3
  exact ⟨h5, h1, h4, h6, h7⟩
end Go.Proofs.YtdknneofiefieaaGreatDoor
