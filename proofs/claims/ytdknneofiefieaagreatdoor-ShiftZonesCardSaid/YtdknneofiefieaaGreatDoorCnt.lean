import Derived.Deep.QuietTactic
import Derived.BigQuiet
import Derived.Test.YtdknneofiefieaaGreatDoorGw
import Derived.Test.YtdknneofiefieaaGreatDoorGo

namespace Go.Proofs.YtdknneofiefieaaGreatDoor
open Go.RowKit Go.Lib Dec Rt Geo Sh

set_option maxRecDepth 100000 in
set_option maxHeartbeats 2000000 in
theorem dcont_t {t1 t2 t3 tx ty tf : ByteArray} {r : Int} (hr : decide (r ≤ 0) = true) (w : World) (g : Gd w)
    (K : ∀ w, Gd w → Calls Tryz.prog 80 #[.agg #[.string t1, .string t2, .string t3]] w (RB (.int .i64 0) w))
    (H : ∀ t ∈ [tx, ty], ∀ w, Gd w → Calls Tryz.prog 47 #[.string t] w fun e w' => e = .returned (.int .i64 0) ∧ Below w.heap.size w w')
    (H1 : ∀ p w, Sd p w → Calls Tryz.prog 82 #[.pointer (some ⟨p, 0, none⟩), .agg #[.string t1, .string t2], .agg #[.string tx, .string ty]] w (RB (.string tf) w))
    (H2 : ∀ p w, Sd p w → Calls Tryz.prog 81 #[.pointer (some ⟨p, 0, none⟩), .string tf, .string t3] w (RB (.int .i64 r) w)) :
    Calls Tryz.prog 48 #[.agg #[.string t1, .string t2, .string t3], .agg #[.string tx, .string ty]] w (RB (.tuple #[.bool true, .int .i64 0]) w) := by
  obtain ⟨W, hW⟩ : ∃ W, (w.alloc (.cells #[.string t1, .string t2, .string t3] 43)).alloc (.cells #[.string tx, .string ty] 41) = W := ⟨_, rfl⟩
  have q1 : W.heap[w.heap.size]? = some (.cells #[.string t1, .string t2, .string t3] 43 (0, 0)) := hW ▸ (Below.heap_alloc _ _ _ (by simp)).trans (heap_alloc_new w _)
  have q2 : W.heap[w.heap.size + 1]? = some (.cells #[.string tx, .string ty] 41 (0, 0)) := by
    have := heap_alloc_new (w.alloc (.cells #[.string t1, .string t2, .string t3] 43)) (.cells #[.string tx, .string ty] 41 (0, 0))
    rw [World.size_alloc] at this
    rw [← hW]; exact this
  have bW : Below w.heap.size w W := hW ▸ ((Below.refl _ w).alloc (Nat.le_refl _) _).alloc (by simp) _
  have KK := K W (g.below bW)
  have a0 : W.cell? ⟨w.heap.size, 0, none⟩ = some (.string t1) := cell_of_row W _ 0 _ _ _ q1
  have a1 : W.cell? ⟨w.heap.size, 1, none⟩ = some (.string t2) := cell_of_row W _ 1 _ _ _ q1
  have a2 : W.cell? ⟨w.heap.size, 2, none⟩ = some (.string t3) := cell_of_row W _ 2 _ _ _ q1
  have H1 := Lib.hid H1
  have H2 := Lib.hid H2
  have H := Lib.hid H
  clear K
  go_enter Tryz.func48, Tryz.ntmps48
  go_wp2_with fail
  clear hW
  refine KK.mono ?_
  rintro e w1 ⟨rfl, b1⟩
  have B1 := Bl.trans bW b1
  have q3 := blk_below q1 b1
  have q4 := blk_below q2 b1
  clear a0 a1 a2
  have a0 : w1.cell? ⟨w.heap.size + 1, 0, none⟩ = some (.string tx) := cell_of_row w1 _ 0 _ _ _ q4
  have a1 : w1.cell? ⟨w.heap.size + 1, 1, none⟩ = some (.string ty) := cell_of_row w1 _ 1 _ _ _ q4
  have qn := heap_alloc_new w1 (.cells #[.string tx, .string ty] 39)
  have bn : Below w1.heap.size w1 (w1.alloc (.cells #[.string tx, .string ty] 39)) := (Below.refl _ w1).alloc (Nat.le_refl _) _
  go_wp2_with fail
  go_loopg [8, 9, 23] 2 (fun m _ _ i wr => ∃ k : Nat, k + m = 2 ∧ i = .int .i64 k ∧ Below w1.heap.size w1 wr ∧ wr.heap[w1.heap.size]? = some (.cells #[.string tx, .string ty] 39 (0, 0)))
  case atStart => exact ⟨0, by omega, rfl, bn, qn⟩
  case round =>
    obtain ⟨k, hm, rfl, hB, h0⟩ := hrel
    by_cases hlt : k < 2
    · obtain ⟨x, hx, hxc⟩ : ∃ x : ByteArray, x ∈ [tx, ty] ∧ (#[Value.string tx, .string ty])[k]? = some (.string x) := by
        match k, hlt with
        | 0, _ => exact ⟨tx, by simp, rfl⟩
        | 1, _ => exact ⟨ty, by simp, rfl⟩
      have hcell := (cell_of_row wr _ k _ _ _ h0).trans hxc
      have KK := H.out x hx wr (g.below (Bl.trans B1 hB))
      have HM := Lib.hid hm
      have H0 := Lib.hid h0
      clear H hm h0 hx hxc a0 a1
      go_wp2_with (go_at_call 47; refine KK.mono ?_; rintro e w2 ⟨rfl, b2⟩)
      go_roundg (gk - 1)
      case measure => have := HM.out; omega
      case rel => exact ⟨k + 1, by have := HM.out; omega, by go_num, Bl.trans hB b2, blk_below H0.out b2⟩
    · have hk : k = 2 := by omega
      subst hk
      have S1 := Sd.new wr (g.below (Bl.trans B1 hB))
      have bs : Below wr.heap.size wr (wr.alloc (.cells #[.int .i64 0] 142)) := (Below.refl _ wr).alloc (Nat.le_refl _) _
      have BX := Bl.trans (Bl.trans B1 hB) bs
      have x0 := ((Bw.start S1).add (blk_below (blk_below q3 hB) bs)).add (blk_below (blk_below q4 hB) bs)
      clear h0 q1 q2 q3 q4 qn a0 a1 H hm hlt bn bs
      go_wp2_with fail
      revert BX S1 x0
      generalize wr.alloc (.cells #[.int .i64 0] 142) = X
      intro S1 BX x0
      refine Reg.walk (by kernel_rfl) 10 (by kernel_rfl) (by decide) (by kernel_rfl) (fun _ => false) (fun _ => [(some 35, .pointer (some ⟨wr.heap.size, 0, none⟩)), (some 36, .pointer (some ⟨wr.heap.size, 0, none⟩)), (some 37, .pointer (some ⟨w.heap.size, 0, none⟩)), (some 38, .agg #[.string t1, .string t2]), (some 39, .agg #[.string tx, .string ty]), (some 40, .string tf), (some 41, .pointer (some ⟨w.heap.size, 2, none⟩)), (some 42, .string t3), (some 43, .int .i64 r), (some 44, .bool true)])
        (fun _ => rfl) (fun _ _ _ => rfl) (fun _ _ _ h => by cases h) (fun _ _ _ => True) (fun _ _ _ _ _ _ => trivial)
        (fun W' => Bw wr.heap.size X [(w.heap.size + 1, .cells #[.string tx, .string ty] 41), (w.heap.size, .cells #[.string t1, .string t2, .string t3] 43)] W')
        (x0.drew) ?_ ?_
      · intro i o hi ho Q' a w' hw hon hoff K hK
        match i, hi with
        | 0, _ =>
          obtain rfl := Option.some.inj ho
          clear ho
          have o10 : a.tmps[10]?.getD undef = .pointer (some ⟨wr.heap.size, 0, none⟩) := hoff 10 (by kernel_rfl)
          clear hon hoff
          rw [if_pos (by rfl)]
          go_simp
          exact hK _ _ rfl hw (Below.refl _ _)
        | 1, _ =>
          obtain rfl := Option.some.inj ho
          clear ho
          have o10 : a.tmps[10]?.getD undef = .pointer (some ⟨wr.heap.size, 0, none⟩) := hoff 10 (by kernel_rfl)
          clear hon hoff
          rw [if_pos (by rfl)]
          go_simp
          exact hK _ _ rfl hw (Below.refl _ _)
        | 2, _ =>
          obtain rfl := Option.some.inj ho
          clear ho
          have o2 : a.tmps[2]?.getD undef = .pointer (some ⟨w.heap.size, 0, none⟩) := hoff 2 (by kernel_rfl)
          clear hon hoff
          rw [if_pos (by rfl)]
          go_simp
          exact hK _ _ rfl hw (Below.refl _ _)
        | 3, _ =>
          obtain rfl := Option.some.inj ho
          clear ho
          have o37 : a.tmps[37]?.getD undef = .pointer (some ⟨w.heap.size, 0, none⟩) := (Option.some.inj (hon 2 _ _ (by kernel_rfl) (by decide) rfl rfl rfl)).symm
          clear hon hoff
          rw [if_pos (by rfl)]
          have c0_0 := hw.cell 0 rfl 0 rfl
          have c0_1 := hw.cell 0 rfl 1 rfl
          have c1_0 := hw.cell 1 rfl 0 rfl
          have c1_1 := hw.cell 1 rfl 1 rfl
          have c1_2 := hw.cell 1 rfl 2 rfl
          go_simp
          exact hK _ _ rfl hw (Below.refl _ _)
        | 4, _ =>
          obtain rfl := Option.some.inj ho
          clear ho
          have o3 : a.tmps[3]?.getD undef = .pointer (some ⟨w.heap.size + 1, 0, none⟩) := hoff 3 (by kernel_rfl)
          clear hon hoff
          rw [if_pos (by rfl)]
          have c0_0 := hw.cell 0 rfl 0 rfl
          have c0_1 := hw.cell 0 rfl 1 rfl
          have c1_0 := hw.cell 1 rfl 0 rfl
          have c1_1 := hw.cell 1 rfl 1 rfl
          have c1_2 := hw.cell 1 rfl 2 rfl
          go_simp
          exact hK _ _ rfl hw (Below.refl _ _)
        | 5, _ =>
          obtain rfl := Option.some.inj ho
          clear ho
          have o36 : a.tmps[36]?.getD undef = .pointer (some ⟨wr.heap.size, 0, none⟩) := (Option.some.inj (hon 1 _ _ (by kernel_rfl) (by decide) rfl rfl rfl)).symm
          have o38 : a.tmps[38]?.getD undef = .agg #[.string t1, .string t2] := (Option.some.inj (hon 3 _ _ (by kernel_rfl) (by decide) rfl rfl rfl)).symm
          have o39 : a.tmps[39]?.getD undef = .agg #[.string tx, .string ty] := (Option.some.inj (hon 4 _ _ (by kernel_rfl) (by decide) rfl rfl rfl)).symm
          clear hon hoff
          rw [if_pos (by rfl)]
          go_simp
          refine (H1.out _ _ hw.s).mono ?_
          rintro e w1 ⟨rfl, b1⟩
          exact hK _ _ rfl (hw.step b1) b1
        | 6, _ =>
          obtain rfl := Option.some.inj ho
          clear ho
          have o2 : a.tmps[2]?.getD undef = .pointer (some ⟨w.heap.size, 0, none⟩) := hoff 2 (by kernel_rfl)
          clear hon hoff
          rw [if_pos (by rfl)]
          go_simp
          exact hK _ _ rfl hw (Below.refl _ _)
        | 7, _ =>
          obtain rfl := Option.some.inj ho
          clear ho
          have o41 : a.tmps[41]?.getD undef = .pointer (some ⟨w.heap.size, 2, none⟩) := (Option.some.inj (hon 6 _ _ (by kernel_rfl) (by decide) rfl rfl rfl)).symm
          clear hon hoff
          rw [if_pos (by rfl)]
          have c0_0 := hw.cell 0 rfl 0 rfl
          have c0_1 := hw.cell 0 rfl 1 rfl
          have c1_0 := hw.cell 1 rfl 0 rfl
          have c1_1 := hw.cell 1 rfl 1 rfl
          have c1_2 := hw.cell 1 rfl 2 rfl
          go_simp
          exact hK _ _ rfl hw (Below.refl _ _)
        | 8, _ =>
          obtain rfl := Option.some.inj ho
          clear ho
          have o35 : a.tmps[35]?.getD undef = .pointer (some ⟨wr.heap.size, 0, none⟩) := (Option.some.inj (hon 0 _ _ (by kernel_rfl) (by decide) rfl rfl rfl)).symm
          have o40 : a.tmps[40]?.getD undef = .string tf := (Option.some.inj (hon 5 _ _ (by kernel_rfl) (by decide) rfl rfl rfl)).symm
          have o42 : a.tmps[42]?.getD undef = .string t3 := (Option.some.inj (hon 7 _ _ (by kernel_rfl) (by decide) rfl rfl rfl)).symm
          clear hon hoff
          rw [if_pos (by rfl)]
          go_simp
          refine (H2.out _ _ hw.s).mono ?_
          rintro e w1 ⟨rfl, b1⟩
          exact hK _ _ rfl (hw.step b1) b1
        | 9, _ =>
          obtain rfl := Option.some.inj ho
          clear ho
          have o43 : a.tmps[43]?.getD undef = .int .i64 r := (Option.some.inj (hon 8 _ _ (by kernel_rfl) (by decide) rfl rfl rfl)).symm
          clear hon hoff
          rw [if_pos (by rfl)]
          go_simp
          exact hK _ _ rfl hw (Below.refl _ _)
        | i + 10, h => exact absurd h (by omega)
      · intro g2 w' hw _ _
        simp only [List.drop_succ_cons, List.drop_zero, Reg.puts, Act.put, List.setIfInBounds_toArray, List.set_cons_succ, List.set_cons_zero]
        have c0 := hw.s.cell
        have B9 := Bl.trans BX hw.b
        go_wp2_with fail
        go_quiet (fail)
        go_wp2_with fail
        go_ret2
        exact ⟨rfl, below_drewN B9 _⟩

set_option maxRecDepth 100000 in
set_option maxHeartbeats 2000000 in
theorem dcont_f {t1 t2 t3 tx ty tf : ByteArray} {r : Int} (hr : decide (r ≤ 0) = false) (w : World) (g : Gd w)
    (K : ∀ w, Gd w → Calls Tryz.prog 80 #[.agg #[.string t1, .string t2, .string t3]] w (RB (.int .i64 0) w))
    (H : ∀ t ∈ [tx, ty], ∀ w, Gd w → Calls Tryz.prog 47 #[.string t] w fun e w' => e = .returned (.int .i64 0) ∧ Below w.heap.size w w')
    (H1 : ∀ p w, Sd p w → Calls Tryz.prog 82 #[.pointer (some ⟨p, 0, none⟩), .agg #[.string t1, .string t2], .agg #[.string tx, .string ty]] w (RB (.string tf) w))
    (H2 : ∀ p w, Sd p w → Calls Tryz.prog 81 #[.pointer (some ⟨p, 0, none⟩), .string tf, .string t3] w (RB (.int .i64 r) w)) :
    Calls Tryz.prog 48 #[.agg #[.string t1, .string t2, .string t3], .agg #[.string tx, .string ty]] w (RB (.tuple #[.bool false, .int .i64 0]) w) := by
  obtain ⟨W, hW⟩ : ∃ W, (w.alloc (.cells #[.string t1, .string t2, .string t3] 43)).alloc (.cells #[.string tx, .string ty] 41) = W := ⟨_, rfl⟩
  have q1 : W.heap[w.heap.size]? = some (.cells #[.string t1, .string t2, .string t3] 43 (0, 0)) := hW ▸ (Below.heap_alloc _ _ _ (by simp)).trans (heap_alloc_new w _)
  have q2 : W.heap[w.heap.size + 1]? = some (.cells #[.string tx, .string ty] 41 (0, 0)) := by
    have := heap_alloc_new (w.alloc (.cells #[.string t1, .string t2, .string t3] 43)) (.cells #[.string tx, .string ty] 41 (0, 0))
    rw [World.size_alloc] at this
    rw [← hW]; exact this
  have bW : Below w.heap.size w W := hW ▸ ((Below.refl _ w).alloc (Nat.le_refl _) _).alloc (by simp) _
  have KK := K W (g.below bW)
  have a0 : W.cell? ⟨w.heap.size, 0, none⟩ = some (.string t1) := cell_of_row W _ 0 _ _ _ q1
  have a1 : W.cell? ⟨w.heap.size, 1, none⟩ = some (.string t2) := cell_of_row W _ 1 _ _ _ q1
  have a2 : W.cell? ⟨w.heap.size, 2, none⟩ = some (.string t3) := cell_of_row W _ 2 _ _ _ q1
  have H1 := Lib.hid H1
  have H2 := Lib.hid H2
  have H := Lib.hid H
  clear K
  go_enter Tryz.func48, Tryz.ntmps48
  go_wp2_with fail
  clear hW
  refine KK.mono ?_
  rintro e w1 ⟨rfl, b1⟩
  have B1 := Bl.trans bW b1
  have q3 := blk_below q1 b1
  have q4 := blk_below q2 b1
  clear a0 a1 a2
  have a0 : w1.cell? ⟨w.heap.size + 1, 0, none⟩ = some (.string tx) := cell_of_row w1 _ 0 _ _ _ q4
  have a1 : w1.cell? ⟨w.heap.size + 1, 1, none⟩ = some (.string ty) := cell_of_row w1 _ 1 _ _ _ q4
  have qn := heap_alloc_new w1 (.cells #[.string tx, .string ty] 39)
  have bn : Below w1.heap.size w1 (w1.alloc (.cells #[.string tx, .string ty] 39)) := (Below.refl _ w1).alloc (Nat.le_refl _) _
  go_wp2_with fail
  go_loopg [8, 9, 23] 2 (fun m _ _ i wr => ∃ k : Nat, k + m = 2 ∧ i = .int .i64 k ∧ Below w1.heap.size w1 wr ∧ wr.heap[w1.heap.size]? = some (.cells #[.string tx, .string ty] 39 (0, 0)))
  case atStart => exact ⟨0, by omega, rfl, bn, qn⟩
  case round =>
    obtain ⟨k, hm, rfl, hB, h0⟩ := hrel
    by_cases hlt : k < 2
    · obtain ⟨x, hx, hxc⟩ : ∃ x : ByteArray, x ∈ [tx, ty] ∧ (#[Value.string tx, .string ty])[k]? = some (.string x) := by
        match k, hlt with
        | 0, _ => exact ⟨tx, by simp, rfl⟩
        | 1, _ => exact ⟨ty, by simp, rfl⟩
      have hcell := (cell_of_row wr _ k _ _ _ h0).trans hxc
      have KK := H.out x hx wr (g.below (Bl.trans B1 hB))
      have HM := Lib.hid hm
      have H0 := Lib.hid h0
      clear H hm h0 hx hxc a0 a1
      go_wp2_with (go_at_call 47; refine KK.mono ?_; rintro e w2 ⟨rfl, b2⟩)
      go_roundg (gk - 1)
      case measure => have := HM.out; omega
      case rel => exact ⟨k + 1, by have := HM.out; omega, by go_num, Bl.trans hB b2, blk_below H0.out b2⟩
    · have hk : k = 2 := by omega
      subst hk
      have S1 := Sd.new wr (g.below (Bl.trans B1 hB))
      have bs : Below wr.heap.size wr (wr.alloc (.cells #[.int .i64 0] 142)) := (Below.refl _ wr).alloc (Nat.le_refl _) _
      have BX := Bl.trans (Bl.trans B1 hB) bs
      have x0 := ((Bw.start S1).add (blk_below (blk_below q3 hB) bs)).add (blk_below (blk_below q4 hB) bs)
      clear h0 q1 q2 q3 q4 qn a0 a1 H hm hlt bn bs
      go_wp2_with fail
      revert BX S1 x0
      generalize wr.alloc (.cells #[.int .i64 0] 142) = X
      intro S1 BX x0
      refine Reg.walk (by kernel_rfl) 10 (by kernel_rfl) (by decide) (by kernel_rfl) (fun _ => false) (fun _ => [(some 35, .pointer (some ⟨wr.heap.size, 0, none⟩)), (some 36, .pointer (some ⟨wr.heap.size, 0, none⟩)), (some 37, .pointer (some ⟨w.heap.size, 0, none⟩)), (some 38, .agg #[.string t1, .string t2]), (some 39, .agg #[.string tx, .string ty]), (some 40, .string tf), (some 41, .pointer (some ⟨w.heap.size, 2, none⟩)), (some 42, .string t3), (some 43, .int .i64 r), (some 44, .bool false)])
        (fun _ => rfl) (fun _ _ _ => rfl) (fun _ _ _ h => by cases h) (fun _ _ _ => True) (fun _ _ _ _ _ _ => trivial)
        (fun W' => Bw wr.heap.size X [(w.heap.size + 1, .cells #[.string tx, .string ty] 41), (w.heap.size, .cells #[.string t1, .string t2, .string t3] 43)] W')
        (x0.drew) ?_ ?_
      · intro i o hi ho Q' a w' hw hon hoff K hK
        match i, hi with
        | 0, _ =>
          obtain rfl := Option.some.inj ho
          clear ho
          have o10 : a.tmps[10]?.getD undef = .pointer (some ⟨wr.heap.size, 0, none⟩) := hoff 10 (by kernel_rfl)
          clear hon hoff
          rw [if_pos (by rfl)]
          go_simp
          exact hK _ _ rfl hw (Below.refl _ _)
        | 1, _ =>
          obtain rfl := Option.some.inj ho
          clear ho
          have o10 : a.tmps[10]?.getD undef = .pointer (some ⟨wr.heap.size, 0, none⟩) := hoff 10 (by kernel_rfl)
          clear hon hoff
          rw [if_pos (by rfl)]
          go_simp
          exact hK _ _ rfl hw (Below.refl _ _)
        | 2, _ =>
          obtain rfl := Option.some.inj ho
          clear ho
          have o2 : a.tmps[2]?.getD undef = .pointer (some ⟨w.heap.size, 0, none⟩) := hoff 2 (by kernel_rfl)
          clear hon hoff
          rw [if_pos (by rfl)]
          go_simp
          exact hK _ _ rfl hw (Below.refl _ _)
        | 3, _ =>
          obtain rfl := Option.some.inj ho
          clear ho
          have o37 : a.tmps[37]?.getD undef = .pointer (some ⟨w.heap.size, 0, none⟩) := (Option.some.inj (hon 2 _ _ (by kernel_rfl) (by decide) rfl rfl rfl)).symm
          clear hon hoff
          rw [if_pos (by rfl)]
          have c0_0 := hw.cell 0 rfl 0 rfl
          have c0_1 := hw.cell 0 rfl 1 rfl
          have c1_0 := hw.cell 1 rfl 0 rfl
          have c1_1 := hw.cell 1 rfl 1 rfl
          have c1_2 := hw.cell 1 rfl 2 rfl
          go_simp
          exact hK _ _ rfl hw (Below.refl _ _)
        | 4, _ =>
          obtain rfl := Option.some.inj ho
          clear ho
          have o3 : a.tmps[3]?.getD undef = .pointer (some ⟨w.heap.size + 1, 0, none⟩) := hoff 3 (by kernel_rfl)
          clear hon hoff
          rw [if_pos (by rfl)]
          have c0_0 := hw.cell 0 rfl 0 rfl
          have c0_1 := hw.cell 0 rfl 1 rfl
          have c1_0 := hw.cell 1 rfl 0 rfl
          have c1_1 := hw.cell 1 rfl 1 rfl
          have c1_2 := hw.cell 1 rfl 2 rfl
          go_simp
          exact hK _ _ rfl hw (Below.refl _ _)
        | 5, _ =>
          obtain rfl := Option.some.inj ho
          clear ho
          have o36 : a.tmps[36]?.getD undef = .pointer (some ⟨wr.heap.size, 0, none⟩) := (Option.some.inj (hon 1 _ _ (by kernel_rfl) (by decide) rfl rfl rfl)).symm
          have o38 : a.tmps[38]?.getD undef = .agg #[.string t1, .string t2] := (Option.some.inj (hon 3 _ _ (by kernel_rfl) (by decide) rfl rfl rfl)).symm
          have o39 : a.tmps[39]?.getD undef = .agg #[.string tx, .string ty] := (Option.some.inj (hon 4 _ _ (by kernel_rfl) (by decide) rfl rfl rfl)).symm
          clear hon hoff
          rw [if_pos (by rfl)]
          go_simp
          refine (H1.out _ _ hw.s).mono ?_
          rintro e w1 ⟨rfl, b1⟩
          exact hK _ _ rfl (hw.step b1) b1
        | 6, _ =>
          obtain rfl := Option.some.inj ho
          clear ho
          have o2 : a.tmps[2]?.getD undef = .pointer (some ⟨w.heap.size, 0, none⟩) := hoff 2 (by kernel_rfl)
          clear hon hoff
          rw [if_pos (by rfl)]
          go_simp
          exact hK _ _ rfl hw (Below.refl _ _)
        | 7, _ =>
          obtain rfl := Option.some.inj ho
          clear ho
          have o41 : a.tmps[41]?.getD undef = .pointer (some ⟨w.heap.size, 2, none⟩) := (Option.some.inj (hon 6 _ _ (by kernel_rfl) (by decide) rfl rfl rfl)).symm
          clear hon hoff
          rw [if_pos (by rfl)]
          have c0_0 := hw.cell 0 rfl 0 rfl
          have c0_1 := hw.cell 0 rfl 1 rfl
          have c1_0 := hw.cell 1 rfl 0 rfl
          have c1_1 := hw.cell 1 rfl 1 rfl
          have c1_2 := hw.cell 1 rfl 2 rfl
          go_simp
          exact hK _ _ rfl hw (Below.refl _ _)
        | 8, _ =>
          obtain rfl := Option.some.inj ho
          clear ho
          have o35 : a.tmps[35]?.getD undef = .pointer (some ⟨wr.heap.size, 0, none⟩) := (Option.some.inj (hon 0 _ _ (by kernel_rfl) (by decide) rfl rfl rfl)).symm
          have o40 : a.tmps[40]?.getD undef = .string tf := (Option.some.inj (hon 5 _ _ (by kernel_rfl) (by decide) rfl rfl rfl)).symm
          have o42 : a.tmps[42]?.getD undef = .string t3 := (Option.some.inj (hon 7 _ _ (by kernel_rfl) (by decide) rfl rfl rfl)).symm
          clear hon hoff
          rw [if_pos (by rfl)]
          go_simp
          refine (H2.out _ _ hw.s).mono ?_
          rintro e w1 ⟨rfl, b1⟩
          exact hK _ _ rfl (hw.step b1) b1
        | 9, _ =>
          obtain rfl := Option.some.inj ho
          clear ho
          have o43 : a.tmps[43]?.getD undef = .int .i64 r := (Option.some.inj (hon 8 _ _ (by kernel_rfl) (by decide) rfl rfl rfl)).symm
          clear hon hoff
          rw [if_pos (by rfl)]
          go_simp
          exact hK _ _ rfl hw (Below.refl _ _)
        | i + 10, h => exact absurd h (by omega)
      · intro g2 w' hw _ _
        simp only [List.drop_succ_cons, List.drop_zero, Reg.puts, Act.put, List.setIfInBounds_toArray, List.set_cons_succ, List.set_cons_zero]
        have c0 := hw.s.cell
        have B9 := Bl.trans BX hw.b
        go_wp2_with fail
        go_quiet (fail)
        go_wp2_with fail
        go_ret2
        exact ⟨rfl, below_drewN B9 _⟩

/-- sizes of what Contains computes -/
structure CtS (N : Nat) (d : Dc) (px py : Rat) : Prop where
  n : N + N < 1024
  x : Sm N d.x
  y : Sm N d.y
  s : Sm N d.s
  qx : Sm N px
  qy : Sm N py
  dx : Sm N (d.x - px)
  dy : Sm N (d.y - py)
  xx : Sm N ((d.x - px) * (d.x - px))
  yy : Sm N ((d.y - py) * (d.y - py))
  far : Sm N ((d.x - px) * (d.x - px) + (d.y - py) * (d.y - py))
  df : Sm 80 ((d.x - px) * (d.x - px) + (d.y - py) * (d.y - py) - d.s)
theorem sg_le (a : Rat) : sg a ≤ 0 ↔ a ≤ 0 := by
  unfold sg
  split
  · constructor
    · intro _; grind
    · intro _; decide
  · split
    · constructor
      · intro h; exact absurd h (by decide)
      · intro h; grind
    · constructor
      · intro _; grind
      · intro _; decide
theorem dcontains_c {N : Nat} {d : Dc} {px py : Rat} (hd : Ds d) (k : CtS N d px py) (w : World) (g : Gd w) :
    Calls Tryz.prog 48 #[.agg #[.string (rt d.x), .string (rt d.y), .string (rt d.s)], .agg #[.string (rt px), .string (rt py)]] w (RB (.tuple #[.bool (decide (f d px py ≤ 0)), .int .i64 0]) w) := by
  have K := fun w g => dCheck_c hd w g
  have hN := k.n
  have H : ∀ t ∈ [rt px, rt py], ∀ w, Gd w → Calls Tryz.prog 47 #[.string t] w fun e w' => e = .returned (.int .i64 0) ∧ Below w.heap.size w w' := by
    intro t ht w g
    simp only [List.mem_cons, List.not_mem_nil, or_false] at ht
    rcases ht with rfl | rfl
    · exact rCheck_c (Sm.sq (N := N) k.qx (by omega)) w g
    · exact rCheck_c (Sm.sq (N := N) k.qy (by omega)) w g
  have H1 := fun p w s => dfar_c k.x k.y k.qx k.qy k.dx k.dy k.xx k.yy k.n p w s
  have H2 := fun p w s => dorder_c k.far k.s k.n k.df p w s
  have e : f d px py = (d.x - px) * (d.x - px) + (d.y - py) * (d.y - py) - d.s := by unfold f; grind
  rw [e]
  by_cases hr : sg ((d.x - px) * (d.x - px) + (d.y - py) * (d.y - py) - d.s) ≤ 0
  · rw [decide_eq_true ((sg_le _).1 hr)]
    exact dcont_t (decide_eq_true hr) w g K H H1 H2
  · rw [decide_eq_false (fun h => hr ((sg_le _).2 h))]
    exact dcont_f (decide_eq_false hr) w g K H H1 H2
end Go.Proofs.YtdknneofiefieaaGreatDoor
