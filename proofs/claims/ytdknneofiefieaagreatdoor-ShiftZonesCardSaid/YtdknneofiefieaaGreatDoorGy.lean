import Derived.Test.YtdknneofiefieaaGreatDoorGx
import Derived.Test.YtdknneofiefieaaGreatDoorGw
import Derived.Test.YtdknneofiefieaaGreatDoorGd
import Derived.Test.YtdknneofiefieaaGreatDoorPm

namespace Go.Proofs.YtdknneofiefieaaGreatDoor
open Go.RowKit Go.Lib Dec Wd Rt Geo Sh

theorem ten6 {d : Int} (hd : d.natAbs ≤ 10 ^ 6) : (d * d).natAbs ≤ 1000000000000 := by
  rw [Int.natAbs_mul]
  exact Nat.le_trans (Nat.mul_le_mul hd hd) (by decide)

set_option maxRecDepth 100000 in
set_option maxHeartbeats 1000000 in
theorem around_w {x y d dd : Int} {t1 t2 t3 : ByteArray} (hw : IntKind.i64.wrap (d * d) = dd) (w : World) (g : Gd w)
    (O : ∀ w, Gd w → Calls Tryz.prog 105 #[.int .i64 dd, .int .i64 4] w (RB (.tuple #[.string t3, .int .i64 0]) w))
    (X : ∀ w, Gd w → Calls Tryz.prog 106 #[.int .i64 x] w (RB (.string t1) w))
    (Y : ∀ w, Gd w → Calls Tryz.prog 106 #[.int .i64 y] w (RB (.string t2) w)) :
    Calls Tryz.prog 69 #[.int .i64 x, .int .i64 y, .int .i64 d] w (RB (.tuple #[.agg #[.string t1, .string t2, .string t3], .int .i64 0]) w) := by
  obtain ⟨W, hW⟩ : ∃ W, w.alloc (.cells #[.string ⟨#[]⟩, .string ⟨#[]⟩, .string ⟨#[]⟩] 43) = W := ⟨_, rfl⟩
  have h0 : W.heap[w.heap.size]? = some (.cells #[.string ⟨#[]⟩, .string ⟨#[]⟩, .string ⟨#[]⟩] 43 (0, 0)) := hW ▸ heap_alloc_new w _
  have bW : Below w.heap.size w W := hW ▸ (Below.refl _ w).alloc (Nat.le_refl _) _
  go_enter Tryz.func69, Tryz.ntmps69
  go_wp2_with fail
  clear hW
  refine (O _ (g.below bW)).mono ?_
  rintro e w1 ⟨rfl, b1⟩
  have B1 := Bl.trans bW b1
  have h1 := blk_below h0 b1
  go_wp2_with fail
  refine (X _ (g.below B1)).mono ?_
  rintro e w2 ⟨rfl, b2⟩
  have B2 := Bl.trans B1 b2
  have h2 := blk_below h1 b2
  go_wp2_with fail
  refine (Y _ (g.below B2)).mono ?_
  rintro e w3 ⟨rfl, b3⟩
  have B3 := Bl.trans B2 b3
  have h3 := blk_below h2 b3
  have r0 := cell_of_row w3 _ 0 _ _ _ h3
  have r1 := cell_of_row w3 _ 1 _ _ _ h3
  have r2 := cell_of_row w3 _ 2 _ _ _ h3
  simp at r0 r1 r2
  have f0 : ∀ o, w3.frozen? ⟨w.heap.size, o, none⟩ = false := fun o => by unfold World.frozen?; simp [h3]
  have q0 := f0 0
  have q1 := f0 1
  have q2 := f0 2
  clear f0
  go_wp2_with fail
  try simp only [Exit.then]
  refine bodyPost_ret (v := .tuple #[.agg #[.string t1, .string t2, .string t3], .int .i64 0]) ?_ rfl ⟨rfl, ((B3.setCell (p := ⟨w.heap.size, 0, none⟩) (Nat.le_refl _) _).setCell (p := ⟨w.heap.size, 1, none⟩) (Nat.le_refl _) _).setCell (p := ⟨w.heap.size, 2, none⟩) (Nat.le_refl _) _⟩
  simp [results, Tryz.f69, go_sem, r0, r1, r2]

theorem sAround_c {x y d : Int} (hx : x.natAbs ≤ 10 ^ 6) (hy : y.natAbs ≤ 10 ^ 6) (hd : d.natAbs ≤ 10 ^ 6) (w : World) (g : Gd w) :
    Calls Tryz.prog 69 #[.int .i64 x, .int .i64 y, .int .i64 d] w (RB (.tuple #[.agg #[.string (rt (around x y d).x), .string (rt (around x y d).y), .string (rt (around x y d).s)], .int .i64 0]) w) := by
  have h1 := ten6 hd
  exact around_w (dd := d * d) (IntWalk.i64_in _ (by omega)) w g (fun w g => rOf_c (num := d * d) (den := 4) h1 (by decide) (by decide) w g) (fun w g => rWhole_c x (by omega) w g) (fun w g => rWhole_c y (by omega) w g)
end Go.Proofs.YtdknneofiefieaaGreatDoor

namespace Go.Proofs.YtdknneofiefieaaGreatDoor
open Go.RowKit Go.Lib Rt Geo Sh

set_option maxRecDepth 100000 in
set_option maxHeartbeats 1000000 in
theorem bBonus_w {x y lo hi tol mat n sd r : Int} {pin : Bool} (_k1 : lo ≤ n) (_k2 : n ≤ hi) (w : World) (g : Gd w)
    (C : ∀ w, Calls Tryz.prog 72 #[.agg #[.int .i64 x, .int .i64 y, .int .i64 lo, .int .i64 hi, .int .i64 tol, .int .i64 mat, .bool pin]] w (RB (.int .i64 0) w))
    (O : ∀ w, Gd w → Calls Tryz.prog 101 #[.agg #[.int .i64 x, .int .i64 y, .int .i64 lo, .int .i64 hi, .int .i64 tol, .int .i64 mat, .bool pin]] w (RB (.agg #[.int .i64 x, .int .i64 y, .int .i64 lo, .int .i64 hi, .int .i64 tol, .int .i64 mat, .bool pin, .int .i64 sd]) w))
    (E : ∀ w, Calls Tryz.prog 102 #[.agg #[.int .i64 x, .int .i64 y, .int .i64 lo, .int .i64 hi, .int .i64 tol, .int .i64 mat, .bool pin, .int .i64 sd], .int .i64 n] w (RB (.int .i64 r) w))
    (I : ∀ w, Calls Tryz.prog 103 #[.agg #[.int .i64 x, .int .i64 y, .int .i64 lo, .int .i64 hi, .int .i64 tol, .int .i64 mat, .bool pin], .int .i64 n] w (RB (.bool true) w)) :
    Calls Tryz.prog 104 #[.agg #[.int .i64 x, .int .i64 y, .int .i64 lo, .int .i64 hi, .int .i64 tol, .int .i64 mat, .bool pin], .int .i64 n] w (RB (.tuple #[.int .i64 r, .int .i64 0]) w) := by
  obtain ⟨W, hW⟩ : ∃ W, w.alloc (.cells #[.int .i64 x, .int .i64 y, .int .i64 lo, .int .i64 hi, .int .i64 tol, .int .i64 mat, .bool pin] 85) = W := ⟨_, rfl⟩
  have q1 : W.heap[w.heap.size]? = some (.cells #[.int .i64 x, .int .i64 y, .int .i64 lo, .int .i64 hi, .int .i64 tol, .int .i64 mat, .bool pin] 85 (0, 0)) := hW ▸ heap_alloc_new w _
  have bW : Below w.heap.size w W := hW ▸ (Below.refl _ w).alloc (Nat.le_refl _) _
  have cc : ∀ X : World, X.heap[w.heap.size]? = some (.cells #[.int .i64 x, .int .i64 y, .int .i64 lo, .int .i64 hi, .int .i64 tol, .int .i64 mat, .bool pin] 85 (0, 0)) →
      X.cell? ⟨w.heap.size, 0, none⟩ = some (.int .i64 x) ∧ X.cell? ⟨w.heap.size, 1, none⟩ = some (.int .i64 y) ∧ X.cell? ⟨w.heap.size, 2, none⟩ = some (.int .i64 lo) ∧ X.cell? ⟨w.heap.size, 3, none⟩ = some (.int .i64 hi) ∧ X.cell? ⟨w.heap.size, 4, none⟩ = some (.int .i64 tol) ∧ X.cell? ⟨w.heap.size, 5, none⟩ = some (.int .i64 mat) ∧ X.cell? ⟨w.heap.size, 6, none⟩ = some (.bool pin) := fun X h =>
    ⟨cell_of_row X _ 0 _ _ _ h, cell_of_row X _ 1 _ _ _ h, cell_of_row X _ 2 _ _ _ h, cell_of_row X _ 3 _ _ _ h, cell_of_row X _ 4 _ _ _ h, cell_of_row X _ 5 _ _ _ h, cell_of_row X _ 6 _ _ _ h⟩
  obtain ⟨a0, a1, a2, a3, a4, a5, a6⟩ := cc W q1
  have CC := Lib.hid cc
  clear cc
  go_enter Tryz.func104, Tryz.ntmps104
  go_wp2_with fail
  clear hW
  refine (C _).mono ?_
  rintro e w1 ⟨rfl, b1⟩
  have B1 := Bl.trans bW b1
  have q2 := blk_below q1 b1
  clear a0 a1 a2 a3 a4 a5 a6
  obtain ⟨a0, a1, a2, a3, a4, a5, a6⟩ := CC.out w1 q2
  go_wp2_with fail
  refine (I _).mono ?_
  rintro e w2 ⟨rfl, b2⟩
  have B2 := Bl.trans B1 b2
  have q3 := blk_below q2 b2
  clear a0 a1 a2 a3 a4 a5 a6
  obtain ⟨a0, a1, a2, a3, a4, a5, a6⟩ := CC.out w2 q3
  go_wp2_with fail
  refine (O _ (g.below B2)).mono ?_
  rintro e w3 ⟨rfl, b3⟩
  have B3 := Bl.trans B2 b3
  go_wp2_with fail
  refine (E _).mono ?_
  rintro e w4 ⟨rfl, b4⟩
  go_wp2_with fail
  go_ret2
  exact ⟨rfl, Bl.trans B3 b4⟩

set_option maxRecDepth 100000 in
set_option maxHeartbeats 1000000 in
theorem bwithin_c {x y lo hi tol mat n : Int} {pin : Bool} (k1 : lo ≤ n) (k2 : n ≤ hi) (w : World) :
    Calls Tryz.prog 103 #[.agg #[.int .i64 x, .int .i64 y, .int .i64 lo, .int .i64 hi, .int .i64 tol, .int .i64 mat, .bool pin], .int .i64 n] w (RB (.bool true) w) := by
  go_enter Tryz.func103, Tryz.ntmps103
  go_wp2
  go_ret
  exact ⟨rfl, (Below.refl _ w).alloc (Nat.le_refl _) _⟩

set_option maxRecDepth 100000 in
set_option maxHeartbeats 1000000 in
theorem bAllowed_w {x y lo hi tol mat n r a : Int} {pin : Bool} (hw : IntKind.i64.wrap (tol + r) = a) (w : World)
    (B : ∀ w', Below w.heap.size w w' → Calls Tryz.prog 104 #[.agg #[.int .i64 x, .int .i64 y, .int .i64 lo, .int .i64 hi, .int .i64 tol, .int .i64 mat, .bool pin], .int .i64 n] w' (RB (.tuple #[.int .i64 r, .int .i64 0]) w')) :
    Calls Tryz.prog 68 #[.agg #[.int .i64 x, .int .i64 y, .int .i64 lo, .int .i64 hi, .int .i64 tol, .int .i64 mat, .bool pin], .int .i64 n] w (RB (.tuple #[.int .i64 a, .int .i64 0]) w) := by
  obtain ⟨W, hW⟩ : ∃ W, w.alloc (.cells #[.int .i64 x, .int .i64 y, .int .i64 lo, .int .i64 hi, .int .i64 tol, .int .i64 mat, .bool pin] 85) = W := ⟨_, rfl⟩
  have q1 : W.heap[w.heap.size]? = some (.cells #[.int .i64 x, .int .i64 y, .int .i64 lo, .int .i64 hi, .int .i64 tol, .int .i64 mat, .bool pin] 85 (0, 0)) := hW ▸ heap_alloc_new w _
  have bW : Below w.heap.size w W := hW ▸ (Below.refl _ w).alloc (Nat.le_refl _) _
  have a0 : W.cell? ⟨w.heap.size, 0, none⟩ = some (.int .i64 x) := cell_of_row W _ 0 _ _ _ q1
  have a1 : W.cell? ⟨w.heap.size, 1, none⟩ = some (.int .i64 y) := cell_of_row W _ 1 _ _ _ q1
  have a2 : W.cell? ⟨w.heap.size, 2, none⟩ = some (.int .i64 lo) := cell_of_row W _ 2 _ _ _ q1
  have a3 : W.cell? ⟨w.heap.size, 3, none⟩ = some (.int .i64 hi) := cell_of_row W _ 3 _ _ _ q1
  have a4 : W.cell? ⟨w.heap.size, 4, none⟩ = some (.int .i64 tol) := cell_of_row W _ 4 _ _ _ q1
  have a5 : W.cell? ⟨w.heap.size, 5, none⟩ = some (.int .i64 mat) := cell_of_row W _ 5 _ _ _ q1
  have a6 : W.cell? ⟨w.heap.size, 6, none⟩ = some (.bool pin) := cell_of_row W _ 6 _ _ _ q1
  have BB := B W bW
  clear B
  go_enter Tryz.func68, Tryz.ntmps68
  go_wp2_with fail
  clear hW
  refine BB.mono ?_
  rintro e w1 ⟨rfl, b1⟩
  have c4 : w1.cell? ⟨w.heap.size, 4, none⟩ = some (.int .i64 tol) := cell_of_row w1 _ 4 _ _ _ (blk_below q1 b1)
  clear a0 a1 a2 a3 a4 a5 a6
  go_wp2_with fail
  go_ret2
  exact ⟨rfl, Bl.trans bW b1⟩

theorem bAllowed_c {t : Tg} {c : Ci} (h : Tok t) (k : Win t c) (w : World) (g : Gd w) :
    Calls Tryz.prog 68 #[.agg (tcells t), .int .i64 c.n] w (RB (.tuple #[.int .i64 (alw t c), .int .i64 0]) w) := by
  have hb := alw_bd h k
  have hx := extra_bd h k
  have e : IntKind.i64.wrap (t.tol + extra t c.n) = alw t c := by
    unfold alw at *
    exact IntWalk.i64_in _ (by omega)
  exact bAllowed_w e w fun w' hB => bBonus_w (sd := sideOf t) k.lo k.hi w' (g.below hB) (fun w => bCheck_c h w) (fun w g => bof_c h.m1 h.m2 rfl w g) (fun w => bextra_c h k w) (fun w => bwithin_c k.lo k.hi w)
end Go.Proofs.YtdknneofiefieaaGreatDoor

namespace Go.Proofs.YtdknneofiefieaaGreatDoor
open Go.RowKit Go.Lib Rt Geo Sh

set_option maxRecDepth 100000 in
set_option maxHeartbeats 1000000 in
theorem bPlate_c {ts : List (Tg × Ci)} {b o b' o' cp cp' : Nat} (h : Pok ts) (hn : ts.length ≤ 16) (w : World) (hm : PM w b o b' o' ts) :
    Calls Tryz.prog 43 #[.slice (some ⟨b, o, none⟩) ts.length cp, .slice (some ⟨b', o', none⟩) ts.length cp'] w (RB (.int .i64 0) w) := by
  have h16 : (ts.length : Int) ≤ 16 := by omega
  have hT := h.t
  have hC := h.c
  clear h
  go_enter Tryz.func43, Tryz.ntmps43
  go_wp2_with fail
  go_loopg [6, 7, 16] ts.length (fun m _ _ i wr => ∃ k : Nat, k + m = ts.length ∧ i = .int .i64 k ∧ Below w.heap.size w wr)
  case atStart => exact ⟨0, by omega, rfl, Below.refl _ _⟩
  case round =>
    obtain ⟨k, hmm, rfl, hB⟩ := hrel
    by_cases hlt : k < ts.length
    · obtain ⟨q, hq⟩ : ∃ q, ts[k]? = some q := ⟨_, List.getElem?_eq_getElem hlt⟩
      obtain ⟨a0, a1, a2, a3, a4, a5, a6⟩ := (hm.t k q hq).step hB
      have n1 := World.new_ne wr _ a0
      have hlti : (k : Int) < (ts.length : Int) := by omega
      have KK := bCheck_c (hT q (List.mem_of_getElem? hq)) (wr.alloc (.cells (tcells q.1) 85))
      have bb : Below wr.heap.size wr (wr.alloc (.cells (tcells q.1) 85)) := (Below.refl _ wr).alloc (Nat.le_refl _) _
      unfold tcells at KK bb
      have HM := Lib.hid hmm
      clear hT hC hmm hm hq
      go_wp2_with fail
      refine KK.mono ?_
      rintro e w1 ⟨rfl, b1⟩
      go_wp2_with fail
      go_roundg (gk - 1)
      case measure => have := HM.out; omega
      case rel => exact ⟨k + 1, by have := HM.out; omega, by go_num, Bl.trans hB (Bl.trans bb b1)⟩
    · have hk : k = ts.length := by omega
      clear hlt hmm
      subst hk
      clear hT
      go_wp2_with fail
      go_loopg [9, 10, 33] ts.length (fun m _ _ i wx => ∃ k : Nat, k + m = ts.length ∧ i = .int .i64 k ∧ Below w.heap.size w wx)
      case atStart => exact ⟨0, by omega, rfl, hB⟩
      case round =>
        obtain ⟨k, hmm, rfl, hB⟩ := hrel
        by_cases hlt : k < ts.length
        · obtain ⟨q, hq⟩ : ∃ q, ts[k]? = some q := ⟨_, List.getElem?_eq_getElem hlt⟩
          obtain ⟨a0, a1, a2⟩ := (hm.c k q hq).step hB
          have n1 := World.new_ne _ _ a0
          have hlti : (k : Int) < (ts.length : Int) := by omega
          have KK := fun w => bring_c (hC q (List.mem_of_getElem? hq)) w
          unfold ccells at KK
          have HM := Lib.hid hmm
          clear hC hmm hm hq
          go_wp2_with fail
          refine (KK _).mono ?_
          rintro e w1 ⟨rfl, b1⟩
          have b0 := Bl.trans ((Below.refl _ _).alloc (Nat.le_refl _) _) b1
          go_wp2_with fail
          go_roundg (gk - 1)
          case measure => have := HM.out; omega
          case rel => exact ⟨k + 1, by have := HM.out; omega, by go_num, Bl.trans hB b0⟩
        · have hk : k = ts.length := by omega
          clear hlt hmm
          subst hk
          clear hC
          go_wp2_with fail
          go_ret
          exact ⟨rfl, hB⟩
end Go.Proofs.YtdknneofiefieaaGreatDoor

namespace Go.Proofs.YtdknneofiefieaaGreatDoor
open Go.RowKit Go.Lib Rt Geo Sh

set_option maxRecDepth 100000 in
set_option maxHeartbeats 1000000 in
theorem sCheck_c {ts : List (Tg × Ci)} {b o b' o' cp cp' : Nat} {play : Int} (h : Pok ts) (hn : ts.length ≤ 16) (p1 : -1 ≤ play) (p2 : play ≤ 100000) (w : World) (hm : PM w b o b' o' ts) :
    Calls Tryz.prog 17 #[.agg (tkv b o ts.length cp b' o' cp' play)] w (RB (.int .i64 0) w) := by
  have hlen : 0 < ts.length := List.length_pos_iff.2 h.n
  have hl0 : ¬ (ts.length : Int) = 0 := by omega
  have hl1 : ((ts.length : Int) == 0) = false := by rw [beq_eq_false_iff_ne]; exact hl0
  have hW := h.w
  unfold tkv
  obtain ⟨W, hWW⟩ : ∃ W, w.alloc (.cells #[.slice (some ⟨b, o, none⟩) ts.length cp, .slice (some ⟨b', o', none⟩) ts.length cp', .int .i64 play] 25) = W := ⟨_, rfl⟩
  have q1 : W.heap[w.heap.size]? = some (.cells #[.slice (some ⟨b, o, none⟩) ts.length cp, .slice (some ⟨b', o', none⟩) ts.length cp', .int .i64 play] 25 (0, 0)) := hWW ▸ heap_alloc_new w _
  have bW : Below w.heap.size w W := hWW ▸ (Below.refl _ w).alloc (Nat.le_refl _) _
  have hm1 := hm.step bW
  have P := bPlate_c (cp := cp) (cp' := cp') h hn W hm1
  have e0 : W.cell? ⟨w.heap.size, 0, none⟩ = some (.slice (some ⟨b, o, none⟩) ts.length cp) := cell_of_row W _ 0 _ _ _ q1
  have e1 : W.cell? ⟨w.heap.size, 1, none⟩ = some (.slice (some ⟨b', o', none⟩) ts.length cp') := cell_of_row W _ 1 _ _ _ q1
  clear h hm
  go_enter Tryz.func17, Tryz.ntmps17
  go_wp2_with fail
  clear hWW
  refine P.mono ?_
  rintro e w1 ⟨rfl, b1⟩
  have q2 := blk_below q1 b1
  have hm2 := hm1.step b1
  have B1 := Bl.trans bW b1
  have e0 : w1.cell? ⟨w.heap.size, 0, none⟩ = some (.slice (some ⟨b, o, none⟩) ts.length cp) := cell_of_row w1 _ 0 _ _ _ q2
  clear e1
  go_wp2_with fail
  go_loopg [4, 5, 6, 22] ts.length (fun m _ _ _ i wr => ∃ k : Nat, k + m = ts.length ∧ i = .int .i64 k ∧ Below w1.heap.size w1 wr)
  case atStart => exact ⟨0, by omega, rfl, Below.refl _ _⟩
  case round =>
    obtain ⟨k, hmm, rfl, hB⟩ := hrel
    have q3 := blk_below q2 hB
    have e1 : wr.cell? ⟨w.heap.size, 1, none⟩ = some (.slice (some ⟨b', o', none⟩) ts.length cp') := cell_of_row wr _ 1 _ _ _ q3
    have e2 : wr.cell? ⟨w.heap.size, 2, none⟩ = some (.int .i64 play) := cell_of_row wr _ 2 _ _ _ q3
    by_cases hlt : k < ts.length
    · obtain ⟨q, hq⟩ : ∃ q, ts[k]? = some q := ⟨_, List.getElem?_eq_getElem hlt⟩
      obtain ⟨a0, a1, a2, a3, a4, a5, a6⟩ := (hm2.t k q hq).step hB
      have hlti : (k : Int) < (ts.length : Int) := by omega
      obtain ⟨k1, k2⟩ := hW q (List.mem_of_getElem? hq)
      have bb : Below wr.heap.size wr (wr.alloc (.cells (tcells q.1) 85)) := (Below.refl _ wr).alloc (Nat.le_refl _) _
      have q5 := heap_alloc_new wr (.cells (tcells q.1) 85)
      unfold tcells at bb q5
      obtain ⟨X, hX⟩ : ∃ X, wr.alloc (.cells #[.int .i64 q.1.x, .int .i64 q.1.y, .int .i64 q.1.lo, .int .i64 q.1.hi, .int .i64 q.1.tol, .int .i64 q.1.mat, .bool q.1.pin] 85) = X := ⟨_, rfl⟩
      rw [hX] at bb q5
      obtain ⟨d0, d1, d2⟩ := ((hm2.c k q hq).step hB).step bb
      have q4 := blk_below q3 bb
      have e1 : X.cell? ⟨w.heap.size, 1, none⟩ = some (.slice (some ⟨b', o', none⟩) ts.length cp') := cell_of_row X _ 1 _ _ _ q4
      have f2 : X.cell? ⟨wr.heap.size, 2, none⟩ = some (.int .i64 q.1.lo) := cell_of_row X _ 2 _ _ _ q5
      have f3 : X.cell? ⟨wr.heap.size, 3, none⟩ = some (.int .i64 q.1.hi) := cell_of_row X _ 3 _ _ _ q5
      have HM := Lib.hid hmm
      clear hW hmm hm1 hm2 hq P q1 q2 q3 q4 q5 e2
      go_wp2_with fail
      go_roundg (gk - 1)
      case measure => have := HM.out; omega
      case rel => exact ⟨k + 1, by have := HM.out; omega, by go_num, Bl.trans hB bb⟩
    · have hk : k = ts.length := by omega
      clear hlt hmm
      subst hk
      clear hW P hm1 hm2
      go_wp2_with fail
      go_ret
      exact ⟨rfl, Bl.trans B1 hB⟩
end Go.Proofs.YtdknneofiefieaaGreatDoor
