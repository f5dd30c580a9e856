import Derived.Test.YtdknneofiefieaaGreatDoorHd
import Derived.Test.YtdknneofiefieaaGreatDoorHc
import Derived.Test.YtdknneofiefieaaGreatDoorLawA

namespace Go.Proofs.YtdknneofiefieaaGreatDoor
open Go.RowKit Go.Lib Rt Geo Sh

set_option maxRecDepth 100000 in
set_option maxHeartbeats 2000000 in
theorem zones_e {p p' : Option Addr} {n n' cp cp' : Nat} {play s : Int} (w : World) (hs : (s != 0) = true)
    (C : ∀ w', Below w.heap.size w w' → Calls Tryz.prog 17 #[.agg (tkg p n cp p' n' cp' play)] w' (RB (.int .i64 s) w')) :
    Calls Tryz.prog 14 #[.agg (tkg p n cp p' n' cp' play)] w (RB (.tuple #[.slice none 0 0, .int .i64 s]) w) := by
  unfold tkg at *
  have hs0 : ¬ s = 0 := bne_iff_ne.1 hs
  obtain ⟨W, hW⟩ : ∃ W, w.alloc (.cells #[.slice p n cp, .slice p' n' cp', .int .i64 play] 25) = W := ⟨_, rfl⟩
  have q1 : W.heap[w.heap.size]? = some (.cells #[.slice p n cp, .slice p' n' cp', .int .i64 play] 25 (0, 0)) := hW ▸ heap_alloc_new w _
  have bW : Below w.heap.size w W := hW ▸ (Below.refl _ w).alloc (Nat.le_refl _) _
  have e0 : W.cell? ⟨w.heap.size, 0, none⟩ = some (.slice p n cp) := cell_of_row W _ 0 _ _ _ q1
  have e1 : W.cell? ⟨w.heap.size, 1, none⟩ = some (.slice p' n' cp') := cell_of_row W _ 1 _ _ _ q1
  have e2 : W.cell? ⟨w.heap.size, 2, none⟩ = some (.int .i64 play) := cell_of_row W _ 2 _ _ _ q1
  have CC := C W bW
  clear C
  go_enter Tryz.func14, Tryz.ntmps14
  go_wp2_with fail
  clear hW
  refine CC.mono ?_
  rintro e w1 ⟨rfl, b1⟩
  go_wp2_with fail
  go_ret2
  exact ⟨rfl, Bl.trans bW b1⟩

set_option maxRecDepth 100000 in
set_option maxHeartbeats 2000000 in
theorem rzones_e {p p' : Option Addr} {n n' cp cp' : Nat} {play s : Int} (w : World) (hs : (s != 0) = true)
    (C : ∀ w', Below w.heap.size w w' → Calls Tryz.prog 18 #[.agg (tkg p n cp p' n' cp' play)] w' (RB (.int .i64 s) w')) :
    Calls Tryz.prog 15 #[.agg (tkg p n cp p' n' cp' play)] w (RB (.tuple #[.slice none 0 0, .int .i64 s]) w) := by
  unfold tkg at *
  have hs0 : ¬ s = 0 := bne_iff_ne.1 hs
  obtain ⟨W, hW⟩ : ∃ W, w.alloc (.cells #[.slice p n cp, .slice p' n' cp', .int .i64 play] 34) = W := ⟨_, rfl⟩
  have q1 : W.heap[w.heap.size]? = some (.cells #[.slice p n cp, .slice p' n' cp', .int .i64 play] 34 (0, 0)) := hW ▸ heap_alloc_new w _
  have bW : Below w.heap.size w W := hW ▸ (Below.refl _ w).alloc (Nat.le_refl _) _
  have e0 : W.cell? ⟨w.heap.size, 0, none⟩ = some (.slice p n cp) := cell_of_row W _ 0 _ _ _ q1
  have e1 : W.cell? ⟨w.heap.size, 1, none⟩ = some (.slice p' n' cp') := cell_of_row W _ 1 _ _ _ q1
  have e2 : W.cell? ⟨w.heap.size, 2, none⟩ = some (.int .i64 play) := cell_of_row W _ 2 _ _ _ q1
  have CC := C W bW
  clear C
  go_enter Tryz.func15, Tryz.ntmps15
  go_wp2_with fail
  clear hW
  refine CC.mono ?_
  rintro e w1 ⟨rfl, b1⟩
  go_wp2_with fail
  go_ret2
  exact ⟨rfl, Bl.trans bW b1⟩

set_option maxRecDepth 100000 in
set_option maxHeartbeats 2000000 in
theorem rzones_y {ts : List (Tg × Ci)} {b o b' o' n cp cp' : Nat} {play : Int} (hl : ts.length = n) (h : Pok ts) (hn : ts.length ≤ 16) (p1 : -1 ≤ play) (p2 : play ≤ 100000) (w : World) (hm : PM w b o b' o' ts)
    (C : ∀ w', Below w.heap.size w w' → Calls Tryz.prog 18 #[.agg (tkv b o n cp b' o' cp' play)] w' (RB (.int .i64 0) w')) :
    Calls Tryz.prog 15 #[.agg (tkv b o n cp b' o' cp' play)] w fun e w' => (∃ v, e = .returned (.tuple #[v, .int .i64 0]) ∧ w'.ownsRow w.heap.size 43 3 v (zs ts play).length (dcs (zs ts play))) ∧ Below w.heap.size w w' := by
  subst hl
  have AL := fun w' (hB : Below w.heap.size w w') => rall_c (cp := cp) (cp' := cp') h hn p1 p2 w' (hm.step hB)
  unfold tkv at *
  obtain ⟨W, hW⟩ : ∃ W, w.alloc (.cells #[.slice (some ⟨b, o, none⟩) ts.length cp, .slice (some ⟨b', o', none⟩) ts.length cp', .int .i64 play] 34) = W := ⟨_, rfl⟩
  have q1 : W.heap[w.heap.size]? = some (.cells #[.slice (some ⟨b, o, none⟩) ts.length cp, .slice (some ⟨b', o', none⟩) ts.length cp', .int .i64 play] 34 (0, 0)) := hW ▸ heap_alloc_new w _
  have bW : Below w.heap.size w W := hW ▸ (Below.refl _ w).alloc (Nat.le_refl _) _
  have e0 : W.cell? ⟨w.heap.size, 0, none⟩ = some (.slice (some ⟨b, o, none⟩) ts.length cp) := cell_of_row W _ 0 _ _ _ q1
  have e1 : W.cell? ⟨w.heap.size, 1, none⟩ = some (.slice (some ⟨b', o', none⟩) ts.length cp') := cell_of_row W _ 1 _ _ _ q1
  have e2 : W.cell? ⟨w.heap.size, 2, none⟩ = some (.int .i64 play) := cell_of_row W _ 2 _ _ _ q1
  have CC := C W bW
  have AL := Lib.hid AL
  clear C
  go_enter Tryz.func15, Tryz.ntmps15
  go_wp2_with fail
  clear hW
  refine CC.mono ?_
  rintro e w1 ⟨rfl, b1⟩
  have q2 := blk_below q1 b1
  have B1 := Bl.trans bW b1
  have AA := AL.out w1 B1
  clear e0 e1 e2
  have e0 : w1.cell? ⟨w.heap.size, 0, none⟩ = some (.slice (some ⟨b, o, none⟩) ts.length cp) := cell_of_row w1 _ 0 _ _ _ q2
  have e1 : w1.cell? ⟨w.heap.size, 1, none⟩ = some (.slice (some ⟨b', o', none⟩) ts.length cp') := cell_of_row w1 _ 1 _ _ _ q2
  have e2 : w1.cell? ⟨w.heap.size, 2, none⟩ = some (.int .i64 play) := cell_of_row w1 _ 2 _ _ _ q2
  go_wp2_with fail
  refine AA.mono ?_
  rintro e w2 ⟨⟨v, rfl, ho⟩, b2⟩
  go_wp2_with fail
  go_ret2
  exact ⟨⟨v, rfl, owns_mono ho B1.size⟩, Bl.trans B1 b2⟩
end Go.Proofs.YtdknneofiefieaaGreatDoor

namespace Go.Proofs.YtdknneofiefieaaGreatDoor
open Go.RowKit Go.Lib Rt Geo Sh

set_option maxRecDepth 100000 in
set_option maxHeartbeats 2000000 in
theorem deq_nil {cp cp' : Nat} (w : World) : Calls Tryz.prog 19 #[.slice none 0 cp, .slice none 0 cp'] w fun e w' => e = .returned (.bool true) ∧ ∃ q, w' = w.drewN q := by
  go_enter Tryz.func19, Tryz.ntmps19
  go_wp2_with fail
  go_loopg [13] 0 (fun _m i wr => i = .int .i64 0 ∧ wr = w)
  case atStart => exact ⟨rfl, rfl⟩
  case round =>
    obtain ⟨rfl, rfl⟩ := hrel
    go_wp2_with fail
    go_ret
    exact ⟨rfl, 0, rfl⟩

set_option maxRecDepth 100000 in
set_option maxHeartbeats 2000000 in
theorem deq_c {g1 g2 n cp cp' : Nat} {c : Nat → Dc} (hn : n ≤ 1000) (w : World) (h1 : DL w g1 n c) (h2 : DL w g2 n c) :
    Calls Tryz.prog 19 #[.slice (some ⟨g1, 0, none⟩) n cp, .slice (some ⟨g2, 0, none⟩) n cp'] w fun e w' => e = .returned (.bool true) ∧ ∃ q, w' = w.drewN q := by
  have hni : (n : Int) ≤ 1000 := by omega
  go_enter Tryz.func19, Tryz.ntmps19
  go_wp2_with fail
  go_loopg [13] n (fun m i wr => ∃ k q : Nat, k + m = n ∧ i = .int .i64 k ∧ wr = w.drewN q)
  case atStart => exact ⟨0, 0, by omega, rfl, rfl⟩
  case round =>
    obtain ⟨k, q, hm, rfl, rfl⟩ := hrel
    by_cases hlt : k < n
    · have hlti : (k : Int) < (n : Int) := by omega
      obtain ⟨a1, a2, a3⟩ := h1.a k hlt
      obtain ⟨b1, b2, b3⟩ := h2.a k hlt
      generalize rt (c k).x = tx at *
      generalize rt (c k).y = ty at *
      generalize rt (c k).s = ts at *
      have HM := Lib.hid hm
      clear hm h1 h2
      go_wp2_with fail
      go_region
      go_wp2_with fail
      go_roundg (gk - 1)
      case measure => have := HM.out; omega
      case rel => exact ⟨k + 1, _, by have := HM.out; omega, by go_num, rfl⟩
    · have hk : n = k := by omega
      clear hm hlt h1 h2
      subst hk
      go_wp2_with fail
      go_ret
      exact ⟨rfl, q, rfl⟩
end Go.Proofs.YtdknneofiefieaaGreatDoor

namespace Go.Proofs.YtdknneofiefieaaGreatDoor
open Go.RowKit Go.Lib Rt Geo Sh

set_option maxRecDepth 100000 in
set_option maxHeartbeats 4000000 in
theorem zones_n {p p' : Option Addr} {n n' cp cp' : Nat} {play : Int} (w : World) (g : Gd w)
    (R : ∀ w', Below w.heap.size w w' → Calls Tryz.prog 12 #[.slice p n cp, .slice p' n' cp'] w' (RB (.bool false) w')) :
    Calls Tryz.prog 3 #[.agg (tkg p n cp p' n' cp' play)] w (RB (.bool true) w) := by
  unfold tkg at *
  obtain ⟨W, hW⟩ : ∃ W, w.alloc (.cells #[.slice p n cp, .slice p' n' cp', .int .i64 play] 25) = W := ⟨_, rfl⟩
  have q1 : W.heap[w.heap.size]? = some (.cells #[.slice p n cp, .slice p' n' cp', .int .i64 play] 25 (0, 0)) := hW ▸ heap_alloc_new w _
  have bW : Below w.heap.size w W := hW ▸ (Below.refl _ w).alloc (Nat.le_refl _) _
  have e0 : W.cell? ⟨w.heap.size, 0, none⟩ = some (.slice p n cp) := cell_of_row W _ 0 _ _ _ q1
  have e1 : W.cell? ⟨w.heap.size, 1, none⟩ = some (.slice p' n' cp') := cell_of_row W _ 1 _ _ _ q1
  have RR := R W bW
  clear R
  go_enter Tryz.func3, Tryz.ntmps3
  go_wp2_with fail
  clear hW
  refine RR.mono ?_
  rintro e w1 ⟨rfl, b1⟩
  have B1 := Bl.trans bW b1
  have AA := awake_c w1 (g.below B1)
  go_wp2_with fail
  refine AA.mono ?_
  rintro e w2 ⟨rfl, b2⟩
  go_wp2_with fail
  go_ret
  exact ⟨rfl, Bl.trans B1 b2⟩

set_option maxRecDepth 100000 in
set_option maxHeartbeats 4000000 in
theorem zones_w {p p' : Option Addr} {n n' cp cp' : Nat} {play s : Int} (PA PB : Value → World → Prop) (w : World) (g : Gd w)
    (R : ∀ w', Below w.heap.size w w' → Calls Tryz.prog 12 #[.slice p n cp, .slice p' n' cp'] w' (RB (.bool true) w'))
    (Z : ∀ w', Below w.heap.size w w' → Calls Tryz.prog 14 #[.agg (tkg p n cp p' n' cp' play)] w' fun e x => (∃ v, e = .returned (.tuple #[v, .int .i64 s]) ∧ PA v x) ∧ Below w'.heap.size w' x)
    (RZ : ∀ w', Below w.heap.size w w' → Calls Tryz.prog 15 #[.agg (tkg p n cp p' n' cp' play)] w' fun e x => (∃ v, e = .returned (.tuple #[v, .int .i64 s]) ∧ PB v x) ∧ Below w'.heap.size w' x)
    (CK : ∀ w', Below w.heap.size w w' → Calls Tryz.prog 17 #[.agg (tkg p n cp p' n' cp' play)] w' (RB (.int .i64 s) w'))
    (RK : ∀ w', Below w.heap.size w w' → Calls Tryz.prog 18 #[.agg (tkg p n cp p' n' cp' play)] w' (RB (.int .i64 s) w'))
    (EQ : ∀ va vb x1 x2 x3, PA va x1 → Below x1.heap.size x1 x2 → PB vb x2 → Below x2.heap.size x2 x3 → Calls Tryz.prog 19 #[va, vb] x3 (RB (.bool true) x3)) :
    Calls Tryz.prog 3 #[.agg (tkg p n cp p' n' cp' play)] w (RB (.bool true) w) := by
  have OW := fun w => own_c (p := p) (n := n) (cp := cp) (p' := p') (n' := n') (cp' := cp') (play := play) w
  have AW := fun x (hB : Below w.heap.size w x) => awake_c x (g.below hB)
  unfold tkg at *
  obtain ⟨W, hW⟩ : ∃ W, w.alloc (.cells #[.slice p n cp, .slice p' n' cp', .int .i64 play] 25) = W := ⟨_, rfl⟩
  have q1 : W.heap[w.heap.size]? = some (.cells #[.slice p n cp, .slice p' n' cp', .int .i64 play] 25 (0, 0)) := hW ▸ heap_alloc_new w _
  have bW : Below w.heap.size w W := hW ▸ (Below.refl _ w).alloc (Nat.le_refl _) _
  have e0 : W.cell? ⟨w.heap.size, 0, none⟩ = some (.slice p n cp) := cell_of_row W _ 0 _ _ _ q1
  have e1 : W.cell? ⟨w.heap.size, 1, none⟩ = some (.slice p' n' cp') := cell_of_row W _ 1 _ _ _ q1
  have RR := R W bW
  have Z' := Lib.hid Z
  have RZ' := Lib.hid RZ
  have CK' := Lib.hid CK
  have RK' := Lib.hid RK
  have EQ' := Lib.hid EQ
  have OW' := Lib.hid OW
  have AW' := Lib.hid AW
  clear R Z RZ CK RK EQ OW AW
  go_enter Tryz.func3, Tryz.ntmps3
  go_wp2_with fail
  clear hW
  refine RR.mono ?_
  rintro e w1 ⟨rfl, b1⟩
  have B1 := Bl.trans bW b1
  have q2 := blk_below q1 b1
  clear e0 e1 q1 RR
  have e0 : w1.cell? ⟨w.heap.size, 0, none⟩ = some (.slice p n cp) := cell_of_row w1 _ 0 _ _ _ q2
  have e1 : w1.cell? ⟨w.heap.size, 1, none⟩ = some (.slice p' n' cp') := cell_of_row w1 _ 1 _ _ _ q2
  have e2 : w1.cell? ⟨w.heap.size, 2, none⟩ = some (.int .i64 play) := cell_of_row w1 _ 2 _ _ _ q2
  go_wp2_with fail
  refine (Z'.out _ B1).mono ?_
  rintro e w2 ⟨⟨va, rfl, hA⟩, b2⟩
  have B2 := Bl.trans B1 b2
  have q3 := blk_below q2 b2
  have hA := Lib.hid hA
  clear e0 e1 e2 q2
  have e0 : w2.cell? ⟨w.heap.size, 0, none⟩ = some (.slice p n cp) := cell_of_row w2 _ 0 _ _ _ q3
  have e1 : w2.cell? ⟨w.heap.size, 1, none⟩ = some (.slice p' n' cp') := cell_of_row w2 _ 1 _ _ _ q3
  have e2 : w2.cell? ⟨w.heap.size, 2, none⟩ = some (.int .i64 play) := cell_of_row w2 _ 2 _ _ _ q3
  go_wp2_with fail
  refine (OW'.out _).mono ?_
  rintro e w3 ⟨rfl, b3⟩
  have B3 := Bl.trans B2 b3
  have q4 := blk_below q3 b3
  clear e0 e1 e2 q3
  go_wp2_with fail
  refine (RZ'.out _ B3).mono ?_
  rintro e Y ⟨⟨vb, rfl, hB⟩, b4⟩
  have BY := Bl.trans B3 b4
  have qY := blk_below q4 b4
  have EE : ∀ x, Below Y.heap.size Y x → Calls Tryz.prog 19 #[va, vb] x (RB (.bool true) x) := fun x hx => EQ'.out va vb w2 Y x hA.out (Bl.trans b3 b4) hB hx
  have EE' := Lib.hid EE
  clear EE hB hA q4
  go_wp2_with fail
  refine RegT.walk (by kernel_rfl) 19 (by kernel_rfl) (by decide) (by kernel_rfl) (fun _ => false) (fun _ g => .pointer (some ⟨g, 0, none⟩)) (fun _ _ h => by cases h) (fun _ => [(some 25, .agg #[.slice p n cp, .slice p' n' cp', .int .i64 play]), (some 26, .int .i64 s), (some 27, .agg #[.slice p n cp, .slice p' n' cp', .int .i64 play]), (some 28, .agg #[.slice p n cp, .slice p' n' cp', .int .i64 play]), (some 29, .int .i64 s), (some 30, .bool true), (some 31, .bool true), (some 32, va), (some 33, vb), (some 34, .bool true), (some 35, .bool true), (some 36, .bool true), (some 37, .int .i64 s), (some 38, .int .i64 s), (some 39, .bool true), (some 40, .bool true), (some 41, .bool true), (some 42, .bool true), (some 43, .bool true)])
    (fun _ => rfl) (fun _ _ _ => rfl) (fun _ _ _ h => by cases h) (fun _ _ _ => True) (fun _ _ _ _ _ _ => trivial)
    (fun x => Below Y.heap.size Y x)
    ((Below.refl _ _).drew) ?_ ?_
  · intro i o hi ho Q' a w' hw hon hoff K hK
    match i, hi with
    | 0, _ =>
      obtain rfl := Option.some.inj ho
      clear ho
      have o1 : a.tmps[1]?.getD undef = .pointer (some ⟨w.heap.size, 0, none⟩) := hoff 1 (by kernel_rfl)
      clear hon hoff
      rw [if_pos (by rfl)]
      have hq := blk_below qY hw
      have e0 : w'.cell? ⟨w.heap.size, 0, none⟩ = some (.slice p n cp) := cell_of_row w' _ 0 _ _ _ hq
      have e1 : w'.cell? ⟨w.heap.size, 1, none⟩ = some (.slice p' n' cp') := cell_of_row w' _ 1 _ _ _ hq
      have e2 : w'.cell? ⟨w.heap.size, 2, none⟩ = some (.int .i64 play) := cell_of_row w' _ 2 _ _ _ hq
      clear hq
      go_simp
      exact hK _ _ rfl hw (Below.refl _ _)
    | 1, _ =>
      obtain rfl := Option.some.inj ho
      clear ho
      have o25 : a.tmps[25]?.getD undef = .agg #[.slice p n cp, .slice p' n' cp', .int .i64 play] := (Option.some.inj (hon 0 _ _ (by kernel_rfl) (by decide) rfl rfl rfl)).symm
      clear hon hoff
      rw [if_pos (by rfl)]
      go_simp
      refine (CK'.out _ (Bl.trans BY hw)).mono ?_
      rintro e v1 ⟨rfl, b1⟩
      exact hK _ _ rfl (Bl.trans hw b1) b1
    | 2, _ =>
      obtain rfl := Option.some.inj ho
      clear ho
      have o1 : a.tmps[1]?.getD undef = .pointer (some ⟨w.heap.size, 0, none⟩) := hoff 1 (by kernel_rfl)
      clear hon hoff
      rw [if_pos (by rfl)]
      have hq := blk_below qY hw
      have e0 : w'.cell? ⟨w.heap.size, 0, none⟩ = some (.slice p n cp) := cell_of_row w' _ 0 _ _ _ hq
      have e1 : w'.cell? ⟨w.heap.size, 1, none⟩ = some (.slice p' n' cp') := cell_of_row w' _ 1 _ _ _ hq
      have e2 : w'.cell? ⟨w.heap.size, 2, none⟩ = some (.int .i64 play) := cell_of_row w' _ 2 _ _ _ hq
      clear hq
      go_simp
      exact hK _ _ rfl hw (Below.refl _ _)
    | 3, _ =>
      obtain rfl := Option.some.inj ho
      clear ho
      have o27 : a.tmps[27]?.getD undef = .agg #[.slice p n cp, .slice p' n' cp', .int .i64 play] := (Option.some.inj (hon 2 _ _ (by kernel_rfl) (by decide) rfl rfl rfl)).symm
      clear hon hoff
      rw [if_pos (by rfl)]
      go_simp
      refine (OW'.out _).mono ?_
      rintro e v1 ⟨rfl, b1⟩
      exact hK _ _ rfl (Bl.trans hw b1) b1
    | 4, _ =>
      obtain rfl := Option.some.inj ho
      clear ho
      have o28 : a.tmps[28]?.getD undef = .agg #[.slice p n cp, .slice p' n' cp', .int .i64 play] := (Option.some.inj (hon 3 _ _ (by kernel_rfl) (by decide) rfl rfl rfl)).symm
      clear hon hoff
      rw [if_pos (by rfl)]
      go_simp
      refine (RK'.out _ (Bl.trans BY hw)).mono ?_
      rintro e v1 ⟨rfl, b1⟩
      exact hK _ _ rfl (Bl.trans hw b1) b1
    | 5, _ =>
      obtain rfl := Option.some.inj ho
      clear ho
      have o26 : a.tmps[26]?.getD undef = .int .i64 s := (Option.some.inj (hon 1 _ _ (by kernel_rfl) (by decide) rfl rfl rfl)).symm
      have o29 : a.tmps[29]?.getD undef = .int .i64 s := (Option.some.inj (hon 4 _ _ (by kernel_rfl) (by decide) rfl rfl rfl)).symm
      clear hon hoff
      rw [if_pos (by rfl)]
      go_simp
      exact hK _ _ rfl hw (Below.refl _ _)
    | 6, _ =>
      obtain rfl := Option.some.inj ho
      clear ho
      have o30 : a.tmps[30]?.getD undef = .bool true := (Option.some.inj (hon 5 _ _ (by kernel_rfl) (by decide) rfl rfl rfl)).symm
      clear hon hoff
      rw [if_pos (by rfl)]
      go_simp
      exact hK _ _ rfl hw (Below.refl _ _)
    | 7, _ =>
      obtain rfl := Option.some.inj ho
      clear ho
      have o3 : a.tmps[3]?.getD undef = va := hoff 3 (by kernel_rfl)
      have og : a.tmps[31]?.getD undef = .bool true := (Option.some.inj (hon 6 _ _ (by kernel_rfl) (by decide) rfl rfl rfl)).symm
      clear hon hoff
      rw [if_pos (RegT.guard_yes (by rfl) (by rfl) og)]
      go_simp
      exact hK _ _ rfl hw (Below.refl _ _)
    | 8, _ =>
      obtain rfl := Option.some.inj ho
      clear ho
      have o5 : a.tmps[5]?.getD undef = vb := hoff 5 (by kernel_rfl)
      have og : a.tmps[31]?.getD undef = .bool true := (Option.some.inj (hon 6 _ _ (by kernel_rfl) (by decide) rfl rfl rfl)).symm
      clear hon hoff
      rw [if_pos (RegT.guard_yes (by rfl) (by rfl) og)]
      go_simp
      exact hK _ _ rfl hw (Below.refl _ _)
    | 9, _ =>
      obtain rfl := Option.some.inj ho
      clear ho
      have o32 : a.tmps[32]?.getD undef = va := (Option.some.inj (hon 7 _ _ (by kernel_rfl) (by decide) rfl rfl rfl)).symm
      have o33 : a.tmps[33]?.getD undef = vb := (Option.some.inj (hon 8 _ _ (by kernel_rfl) (by decide) rfl rfl rfl)).symm
      have og : a.tmps[31]?.getD undef = .bool true := (Option.some.inj (hon 6 _ _ (by kernel_rfl) (by decide) rfl rfl rfl)).symm
      clear hon hoff
      rw [if_pos (RegT.guard_yes (by rfl) (by rfl) og)]
      go_simp
      refine (EE'.out _ hw).mono ?_
      rintro e v1 ⟨rfl, b1⟩
      exact hK _ _ rfl (Bl.trans hw b1) b1
    | 10, _ =>
      obtain rfl := Option.some.inj ho
      clear ho
      have o31 : a.tmps[31]?.getD undef = .bool true := (Option.some.inj (hon 6 _ _ (by kernel_rfl) (by decide) rfl rfl rfl)).symm
      have o34 : a.tmps[34]?.getD undef = .bool true := (Option.some.inj (hon 9 _ _ (by kernel_rfl) (by decide) rfl rfl rfl)).symm
      clear hon hoff
      rw [if_pos (by rfl)]
      go_simp
      exact hK _ _ rfl hw (Below.refl _ _)
    | 11, _ =>
      obtain rfl := Option.some.inj ho
      clear ho
      have o35 : a.tmps[35]?.getD undef = .bool true := (Option.some.inj (hon 10 _ _ (by kernel_rfl) (by decide) rfl rfl rfl)).symm
      clear hon hoff
      rw [if_pos (by rfl)]
      go_simp
      exact hK _ _ rfl hw (Below.refl _ _)
    | 12, _ =>
      obtain rfl := Option.some.inj ho
      clear ho
      have o4 : a.tmps[4]?.getD undef = .int .i64 s := hoff 4 (by kernel_rfl)
      have og : a.tmps[36]?.getD undef = .bool true := (Option.some.inj (hon 11 _ _ (by kernel_rfl) (by decide) rfl rfl rfl)).symm
      clear hon hoff
      rw [if_pos (RegT.guard_yes (by rfl) (by rfl) og)]
      go_simp
      exact hK _ _ rfl hw (Below.refl _ _)
    | 13, _ =>
      obtain rfl := Option.some.inj ho
      clear ho
      have o6 : a.tmps[6]?.getD undef = .int .i64 s := hoff 6 (by kernel_rfl)
      have og : a.tmps[36]?.getD undef = .bool true := (Option.some.inj (hon 11 _ _ (by kernel_rfl) (by decide) rfl rfl rfl)).symm
      clear hon hoff
      rw [if_pos (RegT.guard_yes (by rfl) (by rfl) og)]
      go_simp
      exact hK _ _ rfl hw (Below.refl _ _)
    | 14, _ =>
      obtain rfl := Option.some.inj ho
      clear ho
      have o37 : a.tmps[37]?.getD undef = .int .i64 s := (Option.some.inj (hon 12 _ _ (by kernel_rfl) (by decide) rfl rfl rfl)).symm
      have o38 : a.tmps[38]?.getD undef = .int .i64 s := (Option.some.inj (hon 13 _ _ (by kernel_rfl) (by decide) rfl rfl rfl)).symm
      have og : a.tmps[36]?.getD undef = .bool true := (Option.some.inj (hon 11 _ _ (by kernel_rfl) (by decide) rfl rfl rfl)).symm
      clear hon hoff
      rw [if_pos (RegT.guard_yes (by rfl) (by rfl) og)]
      go_simp
      exact hK _ _ rfl hw (Below.refl _ _)
    | 15, _ =>
      obtain rfl := Option.some.inj ho
      clear ho
      have o36 : a.tmps[36]?.getD undef = .bool true := (Option.some.inj (hon 11 _ _ (by kernel_rfl) (by decide) rfl rfl rfl)).symm
      have o39 : a.tmps[39]?.getD undef = .bool true := (Option.some.inj (hon 14 _ _ (by kernel_rfl) (by decide) rfl rfl rfl)).symm
      clear hon hoff
      rw [if_pos (by rfl)]
      go_simp
      exact hK _ _ rfl hw (Below.refl _ _)
    | 16, _ =>
      obtain rfl := Option.some.inj ho
      clear ho
      have o40 : a.tmps[40]?.getD undef = .bool true := (Option.some.inj (hon 15 _ _ (by kernel_rfl) (by decide) rfl rfl rfl)).symm
      clear hon hoff
      rw [if_pos (by rfl)]
      go_simp
      exact hK _ _ rfl hw (Below.refl _ _)
    | 17, _ =>
      obtain rfl := Option.some.inj ho
      clear ho
      have og : a.tmps[41]?.getD undef = .bool true := (Option.some.inj (hon 16 _ _ (by kernel_rfl) (by decide) rfl rfl rfl)).symm
      clear hon hoff
      rw [if_pos (RegT.guard_yes (by rfl) (by rfl) og)]
      go_simp
      refine (AW'.out _ (Bl.trans BY hw)).mono ?_
      rintro e v1 ⟨rfl, b1⟩
      exact hK _ _ rfl (Bl.trans hw b1) b1
    | 18, _ =>
      obtain rfl := Option.some.inj ho
      clear ho
      have o41 : a.tmps[41]?.getD undef = .bool true := (Option.some.inj (hon 16 _ _ (by kernel_rfl) (by decide) rfl rfl rfl)).symm
      have o42 : a.tmps[42]?.getD undef = .bool true := (Option.some.inj (hon 17 _ _ (by kernel_rfl) (by decide) rfl rfl rfl)).symm
      clear hon hoff
      rw [if_pos (by rfl)]
      go_simp
      exact hK _ _ rfl hw (Below.refl _ _)
    | i + 19, h => exact absurd h (by omega)
  · intro g v5 hw _ _
    simp only [List.drop_succ_cons, List.drop_zero, RegT.puts, Act.put, List.setIfInBounds_toArray, List.set_cons_succ, List.set_cons_zero]
    go_wp2_with fail
    go_ret
    exact ⟨rfl, Bl.trans BY hw⟩
end Go.Proofs.YtdknneofiefieaaGreatDoor

namespace Go.Proofs.YtdknneofiefieaaGreatDoor
open Go.RowKit Go.Lib Rt Geo Sh

theorem owns_dl' {x : World} {base : Nat} {v : Value} {l : List Dc} (hl : l ≠ []) (h : x.ownsRow base 43 3 v l.length (dcs l)) : ∃ g cap, v = .slice (some ⟨g, 0, none⟩) l.length cap ∧ DL x g l.length (zc l) := by
  have hp : 0 < l.length := List.length_pos_iff.2 hl
  rcases h.2 with h0 | ⟨g, cap, cur, h1, _, _, _⟩
  · exfalso
    have := h0.2
    omega
  · subst h1
    exact ⟨g, cap, rfl, owns_dl h rfl⟩

theorem zones_law {ts : List Tg} {cs : List Ci} {p p' : Option Addr} {cp cp' : Nat} {play : Int} (w : World) (g : Gd w) (hT : TL w p ts) (hC : CL w p' cs) :
    Calls Tryz.prog 3 #[.agg (tkg p ts.length cp p' cs.length cp' play)] w (RB (.bool true) w) := by
  have CK := fun w' (hB : Below w.heap.size w w') => bschk_c (cp := cp) (cp' := cp') (play := play) w' (hT.step hB) (hC.step hB)
  have RK := fun w' (hB : Below w.heap.size w w') => rschk_c (cp := cp) (cp' := cp') (play := play) w' (hT.step hB) (hC.step hB)
  by_cases k1 : ts.length ≤ 32
  · by_cases k2 : cs.length ≤ 32
    · have F : ∀ w', Below w.heap.size w w' → Calls Tryz.prog 12 #[.slice p ts.length cp, .slice p' cs.length cp'] w' (RB (.bool true) w') := fun w' _ => rfew44_c k1 k2 w'
      by_cases hs : schk ts cs play = 0
      · rw [hs] at CK RK
        obtain ⟨⟨h16, hl, hpok⟩, p1, p2⟩ := (schk_iff ts cs play).1 hs
        obtain ⟨b, o, b', o', rfl, rfl, hm⟩ := pm_of hT hC hl hpok.n
        have hz := zip_len hl
        rw [hl] at CK RK F ⊢
        have hne : zs (ts.zip cs) play ≠ [] := by
          intro e
          have := congrArg List.length e
          unfold zs at this
          rw [List.length_append, List.length_map] at this
          have h1 : 0 < (ts.zip cs).length := List.length_pos_iff.2 hpok.n
          simp only [List.length_nil] at this
          omega
        have hlen : (zs (ts.zip cs) play).length ≤ 1000 := by
          unfold zs
          rw [List.length_append, List.length_map]
          split <;> simp <;> omega
        refine zones_w (fun v x => ∃ base, x.ownsRow base 43 3 v (zs (ts.zip cs) play).length (dcs (zs (ts.zip cs) play))) (fun v x => ∃ base, x.ownsRow base 43 3 v (zs (ts.zip cs) play).length (dcs (zs (ts.zip cs) play))) w g F ?_ ?_ CK RK ?_
        · intro w' hB
          have := zones_c (cp := cp) (cp' := cp') hpok (by omega) p1 p2 w' (g.below hB) (hm.step hB)
          rw [hz] at this
          refine this.mono ?_
          rintro e x ⟨⟨v, n, he, hn, ho⟩, hb⟩
          rw [hn] at ho
          exact ⟨⟨v, he, _, ho⟩, hb⟩
        · intro w' hB
          refine (rzones_y (cp := cp) (cp' := cp') hz hpok (by omega) p1 p2 w' (hm.step hB) (fun w'' hB' => RK w'' (Bl.trans hB hB'))).mono ?_
          rintro e x ⟨⟨v, he, ho⟩, hb⟩
          exact ⟨⟨v, he, _, ho⟩, hb⟩
        · rintro va vb x1 x2 x3 ⟨ba, oa⟩ h12 ⟨bb, ob⟩ h23
          obtain ⟨ga, ca, rfl, da⟩ := owns_dl' hne oa
          obtain ⟨gb, cb, rfl, db⟩ := owns_dl' hne ob
          refine (deq_c hlen x3 ((da.step h12).step h23) (db.step h23)).mono ?_
          rintro e x ⟨rfl, q, rfl⟩
          exact ⟨rfl, below_drewN (Below.refl _ _) q⟩
      · have hsb : (schk ts cs play != 0) = true := bne_iff_ne.2 hs
        refine zones_w (fun v _ => v = .slice none 0 0) (fun v _ => v = .slice none 0 0) w g F ?_ ?_ CK RK ?_
        · intro w' hB
          refine (zones_e w' hsb (fun w'' hB' => CK w'' (Bl.trans hB hB'))).mono ?_
          rintro e x ⟨he, hb⟩
          exact ⟨⟨_, he, rfl⟩, hb⟩
        · intro w' hB
          refine (rzones_e w' hsb (fun w'' hB' => RK w'' (Bl.trans hB hB'))).mono ?_
          rintro e x ⟨he, hb⟩
          exact ⟨⟨_, he, rfl⟩, hb⟩
        · rintro va vb x1 x2 x3 rfl _ rfl _
          refine (deq_nil x3).mono ?_
          rintro e x ⟨rfl, q, rfl⟩
          exact ⟨rfl, below_drewN (Below.refl _ _) q⟩
    · exact zones_n w g fun w' _ => rfew44_b k1 (by omega) w'
  · exact zones_n w g fun w' _ => rfew44_a (by omega) w'
end Go.Proofs.YtdknneofiefieaaGreatDoor
