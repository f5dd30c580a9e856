import Derived.RangeFuncNested
import Derived.Test.YtdknneofiefieaaGreatDoorGu
import Derived.Test.YtdknneofiefieaaGreatDoorGv
import Derived.Test.YtdknneofiefieaaGreatDoorGc

namespace Go.Proofs.YtdknneofiefieaaGreatDoor
open Go.RowKit Go.Lib Dec Rt Geo

attribute [local go_sem] Oper.semAt_some

theorem Bw.box4 {p : Nat} {w : World} (h : Sd p w) (a b c d : Obj) : Bw p w [(w.heap.size + 1 + 1 + 1, d), (w.heap.size + 1 + 1, c), (w.heap.size + 1, b), (w.heap.size, a)] ((((w.alloc a).alloc b).alloc c).alloc d) := by
  have := (Bw.box3 h a b c).new d
  rwa [World.size_alloc, World.size_alloc, World.size_alloc] at this
theorem Bw.box5 {p : Nat} {w : World} (h : Sd p w) (a b c d e : Obj) : Bw p w [(w.heap.size + 1 + 1 + 1 + 1, e), (w.heap.size + 1 + 1 + 1, d), (w.heap.size + 1 + 1, c), (w.heap.size + 1, b), (w.heap.size, a)] (((((w.alloc a).alloc b).alloc c).alloc d).alloc e) := by
  have := (Bw.box4 h a b c d).new e
  rwa [World.size_alloc, World.size_alloc, World.size_alloc, World.size_alloc] at this
theorem Bw.keep {p : Nat} {w x y : World} {L : List (Nat × Obj)} {row : Option Nat} (h : Bw p w L x) (hL : ∀ q ∈ L, q.2.isCells = true) (hg : x.grownBy y row) (hr : ∀ r, row = some r → w.heap.size ≤ r ∧ ∃ o : Obj, x.heap[r]? = some o ∧ o.isCells = false) : Bw p w L y := by
  have hB : Below w.heap.size w y := h.b.grown hg h.b.size (fun k e => (hr k e).1)
  exact ⟨⟨h.g0.below hB, (grownBy_keeps_cells hg (fun r e => (hr r e).2) h.s.out rfl).trans h.s.out⟩, fun q hq => (grownBy_keeps_cells hg (fun r e => (hr r e).2) (h.k q hq) (hL q hq)).trans (h.k q hq), hB, h.l, h.g0⟩
theorem DL.keep {x y : World} {b n : Nat} {c : Nat → Dc} {row : Option Nat} (h : DL x b n c) (hg : x.grownBy y row) (hr : ∀ r, row = some r → ∃ o : Obj, x.heap[r]? = some o ∧ o.isCells = false) : DL y b n c :=
  ⟨fun k hk => ⟨cell_kept (h.a k hk).x hg hr, cell_kept (h.a k hk).y hg hr, cell_kept (h.a k hk).s hg hr⟩⟩

/-- what first returns -/
def fwv (o : Option W3) : Value := match o with
  | some x => .tuple #[wv x, .bool true]
  | none => .tuple #[.agg #[.int .i64 0, .int .i64 0, .int .i64 0], .bool false]

set_option maxRecDepth 100000 in
set_option maxHeartbeats 2000000 in
theorem first_c {len cp b : Nat} {c : Nat → Dc} (hn : len ≤ 1000) (hds : ∀ k, k < len → Ds (c k)) (p : Nat) (w : World) (hS : Sd p w) (hD : DL w b len c) :
    Calls Tryz.prog 86 #[.pointer (some ⟨p, 0, none⟩), .slice (some ⟨b, 0, none⟩) len cp] w (RB (fwv (fw c len)) w) := by
  refine (callsIn_wide (n := 3)).1 ?_
  refine callsIn_of_wp_marks Tryz.func86 rfl trivial ?_ rfl
  simp only [Tryz.ntmps86, List.size_toArray, List.length_cons, List.length_nil, Nat.reduceAdd, Nat.reduceSub, Array.replicate_succ, Array.replicate_zero, List.push_toArray, List.append_toArray, List.nil_append, List.cons_append]
  gi_wp2
  refine ⟨trivial, ((callsIn_wide (n := 2)).2 (witnesses_c len _)).mono ?_⟩
  rintro e w' ⟨rfl, rfl⟩
  have x0 := Bw.box5 hS (.cells #[.pointer (some ⟨p, 0, none⟩)] 140) (.cells #[.slice (some ⟨b, 0, none⟩) len cp] 28) (.cells #[.int .i64 0, .int .i64 0, .int .i64 0] 53) (.cells #[.bool false] 4) (.cells #[.int .i64 len] 3)
  gi_wp2
  revert x0
  generalize (((((w.alloc (.cells #[.pointer (some ⟨p, 0, none⟩)] 140)).alloc (.cells #[.slice (some ⟨b, 0, none⟩) len cp] 28)).alloc (.cells #[.int .i64 0, .int .i64 0, .int .i64 0] 53)).alloc (.cells #[.bool false] 4)).alloc (.cells #[.int .i64 len] 3)) = W0
  intro x0
  have hD0 := hD.step x0.b
  have hlow : w.heap.size + 1 + 1 + 1 + 1 < W0.heap.size := x0.lt (w.heap.size + 1 + 1 + 1 + 1, _) (by exact List.mem_cons_self)
  refine wpIn_rangeFunc_ownH rfl (by omega) (gf := 171) (lb := #[.pointer (some ⟨w.heap.size + 1 + 1 + 1 + 1, 0, none⟩)]) rfl trivial (enters_of Tryz.func171 (by kernel_rfl) rfl)
    (wit_stops 2 (by omega) (w.heap.size + 1 + 1 + 1 + 1) len hn W0 (x0.k (w.heap.size + 1 + 1 + 1 + 1, _) (by exact List.mem_cons_self))) KC.trans (fun W l o o' _ h ho _ => KC.putObj W l o o' h ho) (Below.refl _ _) (fun _ => rfl)
    (fun pre W => (Bw p w [(w.heap.size + 1 + 1 + 1 + 1, .cells #[.int .i64 len] 3), (w.heap.size + 1 + 1 + 1, .cells #[.bool false] 4), (w.heap.size + 1 + 1, .cells #[.int .i64 0, .int .i64 0, .int .i64 0] 53), (w.heap.size + 1, .cells #[.slice (some ⟨b, 0, none⟩) len cp] 28), (w.heap.size, .cells #[.pointer (some ⟨p, 0, none⟩)] 140)] W ∧ DL W b len c) ∧ ∀ y ∈ pre, decide (Prv c len y.1.1 y.1.2.1 y.1.2.2) = false)
    (fun k pre W => k = .ret ∧ ∃ pr x, pre = pr ++ [x] ∧ (∀ y ∈ pr, decide (Prv c len y.1.1 y.1.2.1 y.1.2.2) = false) ∧ decide (Prv c len x.1.1 x.1.2.1 x.1.2.2) = true ∧ Bw p w [(w.heap.size + 1 + 1 + 1, .cells #[.bool true] 4), (w.heap.size + 1 + 1, .cells #[.int .i64 x.1.1, .int .i64 x.1.2.1, .int .i64 x.1.2.2] 53)] W)
    ?hI ?hIx ?h0
    (fun x a' W => ∃ g, w.heap.size + 1 + 1 + 1 + 1 < g ∧ a' = { tmps := #[.pointer (some ⟨p, 0, none⟩), .slice (some ⟨b, 0, none⟩) len cp, .pointer (some ⟨w.heap.size, 0, none⟩), .pointer (some ⟨w.heap.size + 1, 0, none⟩), .pointer (some ⟨w.heap.size + 1 + 1, 0, none⟩), .pointer (some ⟨w.heap.size + 1 + 1 + 1, 0, none⟩), .pointer (some ⟨g, 0, none⟩), .slice (some ⟨b, 0, none⟩) len cp, .int .i64 len, .func (.func 171) #[] #[.pointer (some ⟨w.heap.size + 1 + 1 + 1 + 1, 0, none⟩)], wv x.1, undef, undef, undef, undef, undef, undef], defers := [] } ∧ W.heap[g]? = some (.cells #[.int .i64 x.1.1, .int .i64 x.1.2.1, .int .i64 x.1.2.2] 53 (0, 0)))
    ?hAx ?assign ?body ?done ?stop
  case hI =>
    intro s A B row hs hg hr
    exact ⟨⟨hs.1.1.keep (by intro q hq; simp only [List.mem_cons, List.not_mem_nil, or_false] at hq; rcases hq with rfl | rfl | rfl | rfl | rfl <;> rfl) hg (fun r e => ⟨by have := (hr r e).1; omega, (hr r e).2⟩), hs.1.2.keep hg (fun r e => (hr r e).2)⟩, hs.2⟩
  case hIx =>
    intro k s A B row hs hg hr
    obtain ⟨h1, pr, x, h2, h3, h4, h5⟩ := hs
    exact ⟨h1, pr, x, h2, h3, h4, h5.keep (by intro q hq; simp only [List.mem_cons, List.not_mem_nil, or_false] at hq; rcases hq with rfl | rfl <;> rfl) hg (fun r e => ⟨by have := (hr r e).1; omega, (hr r e).2⟩)⟩
  case h0 => exact ⟨⟨x0, hD0⟩, by simp⟩
  case hAx =>
    intro x a' s A B row hs hg hr
    obtain ⟨g, h1, h2, h3⟩ := hs
    exact ⟨g, h1, h2, (grownBy_keeps_cells hg (fun r e => (hr r e).2) h3 rfl).trans h3⟩
  case assign =>
    intro l pre x W K hI hK
    have hlt := hI.1.1.lt (w.heap.size + 1 + 1 + 1 + 1, _) (by exact List.mem_cons_self)
    dsimp only [wv]
    gi_wp2
    exact hK _ _ ((KeepsOthers.alloc _ _).from _) (KC.below ((Below.refl _ _).alloc (Nat.le_refl _) _)) ⟨⟨hI.1.1.step ((Below.refl _ _).alloc (Nat.le_refl _) _), hI.1.2.step ((Below.refl _ _).alloc (Nat.le_refl _) _)⟩, hI.2⟩ ⟨W.heap.size, hlt, rfl, heap_alloc_new _ _⟩
  case body =>
    rintro l pre ⟨⟨i, j, side⟩, hmem⟩ a' W _ _ hI ⟨g, hg, rfl, hgc⟩ hl
    simp only at hgc
    have hij : i < len ∧ j < len := by
      rcases mem_wl.1 hmem with ⟨h1, _, h2⟩ | ⟨h1, h2, _⟩ <;> omega
    have PC := proves_c (cp := cp) (side := side) hn hij.1 hij.2 hds p W hI.1.1.s hI.1.2
    have d0 := hI.1.1.cell 4 rfl 0 rfl
    have d1 := hI.1.1.cell 3 rfl 0 rfl
    have e0 := cell_of_row W g 0 _ _ _ hgc
    have e1 := cell_of_row W g 1 _ _ _ hgc
    have e2 := cell_of_row W g 2 _ _ _ hgc
    simp at e0 e1 e2
    dsimp only [wv]
    gi_wp2
    refine ⟨trivial, (CallsIn.inRound l ((callsIn_wide (n := 3 - 1 - 1 - 1)).2 PC)).mono ?_⟩
    rintro e w1 ⟨rfl, b1⟩
    have x1 := hI.1.1.step b1
    have hD1 := hI.1.2.step b1
    have hgc1 := blk_below hgc b1
    have kf : KeepsFrom W0.heap.size W w1 := ⟨b1.size, fun k o _ hk _ => (b1.block k (Array.getElem?_eq_some_iff.1 hk).1).trans hk⟩
    cases hp : decide (Prv c len i j side) with
    | false =>
      gi_wp2
      refine ⟨kf, KC.below b1, ⟨x1, hD1⟩, fun y hy => ?_⟩
      rcases List.mem_append.1 hy with h | h
      · exact hI.2 y h
      · rw [List.mem_singleton] at h; subst h; exact hp
    | true =>
      have e0 := cell_of_row w1 g 0 _ _ _ hgc1
      have e1 := cell_of_row w1 g 1 _ _ _ hgc1
      have e2 := cell_of_row w1 g 2 _ _ _ hgc1
      simp at e0 e1 e2
      have r0 := x1.cell 2 rfl 0 rfl
      have r1 := x1.cell 2 rfl 1 rfl
      have r2 := x1.cell 2 rfl 2 rfl
      have r3 := x1.cell 1 rfl 0 rfl
      have q0 := x1.frozen 2 rfl 0
      have q1 := x1.frozen 2 rfl 1
      have q2 := x1.frozen 2 rfl 2
      have q3 := x1.frozen 1 rfl 0
      have y1 := x1.set 2 rfl (by omega) (by intro j q hq hj; rcases j with _ | _ | _ | _ | _ | j <;> simp at hq hj <;> subst hq <;> simp <;> omega) 0 (.int .i64 i)
      have y2 := y1.set 2 rfl (by omega) (by intro j q hq hj; rcases j with _ | _ | _ | _ | _ | j <;> simp at hq hj <;> subst hq <;> simp <;> omega) 1 (.int .i64 j)
      have y3 := y2.set 2 rfl (by omega) (by intro j q hq hj; rcases j with _ | _ | _ | _ | _ | j <;> simp at hq hj <;> subst hq <;> simp <;> omega) 2 (.int .i64 side)
      have y4 := y3.set 1 rfl (by omega) (by intro j q hq hj; rcases j with _ | _ | _ | _ | _ | j <;> simp at hq hj <;> subst hq <;> simp <;> omega) 0 (.bool true)
      gi_wp2
      refine ⟨kf.trans (((((KeepsOthers.setCell _ _ _).trans (KeepsOthers.setCell _ _ _)).trans (KeepsOthers.setCell _ _ _)).trans (KeepsOthers.setCell _ _ _)).from _), rfl, pre, ⟨⟨i, j, side⟩, hmem⟩, rfl, hI.2, hp, y4.drop ?_⟩
      intro q hq
      simp only [List.mem_cons, List.not_mem_nil, or_false] at hq
      rcases hq with rfl | rfl <;> simp
  case done =>
    rintro D xs W hD' hS' ⟨⟨hB, hDL⟩, hall⟩ hK
    have hf : fw c len = none := by
      refine find_none fun y hy => ?_
      rw [← hS'] at hy
      obtain ⟨z, hz, rfl⟩ := List.mem_map.1 hy
      exact hall z hz
    rw [hf]
    have r0 := hB.cell 2 rfl 0 rfl
    have r1 := hB.cell 2 rfl 1 rfl
    have r2 := hB.cell 2 rfl 2 rfl
    have r3 := hB.cell 1 rfl 0 rfl
    have q0 := hB.frozen 2 rfl 0
    have q1 := hB.frozen 2 rfl 1
    have q2 := hB.frozen 2 rfl 2
    have q3 := hB.frozen 1 rfl 0
    have y4 := (((hB.set 2 rfl (by omega) (by intro j q hq hj; rcases j with _ | _ | _ | _ | _ | j <;> simp at hq hj <;> subst hq <;> simp <;> omega) 0 (.int .i64 0)).set 2 rfl (by omega) (by intro j q hq hj; rcases j with _ | _ | _ | _ | _ | j <;> simp at hq hj <;> subst hq <;> simp <;> omega) 1 (.int .i64 0)).set 2 rfl (by omega) (by intro j q hq hj; rcases j with _ | _ | _ | _ | _ | j <;> simp at hq hj <;> subst hq <;> simp <;> omega) 2 (.int .i64 0)).set 1 rfl (by omega) (by intro j q hq hj; rcases j with _ | _ | _ | _ | _ | j <;> simp at hq hj <;> subst hq <;> simp <;> omega) 0 (.bool false)
    have y5 : Bw p w [(w.heap.size + 1 + 1 + 1, .cells #[.bool false] 4), (w.heap.size + 1 + 1, .cells #[.int .i64 0, .int .i64 0, .int .i64 0] 53)] _ := y4.drop (by
      intro q hq
      simp only [List.mem_cons, List.not_mem_nil, or_false] at hq
      rcases hq with rfl | rfl <;> simp)
    have hK' := ((((KeepsOthers.setCell W ⟨w.heap.size + 1 + 1, 0, none⟩ (.int .i64 0)).trans (KeepsOthers.setCell _ ⟨w.heap.size + 1 + 1, 1, none⟩ (.int .i64 0))).trans (KeepsOthers.setCell _ ⟨w.heap.size + 1 + 1, 2, none⟩ (.int .i64 0))).trans (KeepsOthers.setCell _ ⟨w.heap.size + 1 + 1 + 1, 0, none⟩ (.bool false))).same D _ hK rfl
    have y6 := y5.keep (by intro q hq; simp only [List.mem_cons, List.not_mem_nil, or_false] at hq; rcases hq with rfl | rfl <;> rfl) (grownBy_putObj' _ D (.deferred none)) (fun r e => by cases e; exact ⟨by omega, _, hK', rfl⟩)
    have t0 := y6.cell 1 rfl 0 rfl
    have t1 := y6.cell 1 rfl 1 rfl
    have t2 := y6.cell 1 rfl 2 rfl
    have t3 := y6.cell 0 rfl 0 rfl
    gi_wp2
    refine ⟨by simp, .inl ⟨_, _, rfl, run_takeDeferred hK', ?_⟩⟩
    refine ⟨fwv none, ?_, by rw [hf], y6.b⟩
    simp [results, Tryz.f86, go_sem, t0, t1, t2, t3, fwv]
  case stop =>
    rintro D k pre W hD' hS' ⟨rfl, pr, x, rfl, hall, hx, hB⟩ hK
    have hf : fw c len = some x.1 := by
      refine find_pre (pre := pr.map (·.1)) (by simpa using hS') (fun y hy => ?_) hx
      obtain ⟨z, hz, rfl⟩ := List.mem_map.1 hy
      exact hall z hz
    rw [hf]
    have r0 := hB.cell 1 rfl 0 rfl
    have r1 := hB.cell 1 rfl 1 rfl
    have r2 := hB.cell 1 rfl 2 rfl
    have r3 := hB.cell 0 rfl 0 rfl
    have y6 := hB.keep (by intro q hq; simp only [List.mem_cons, List.not_mem_nil, or_false] at hq; rcases hq with rfl | rfl <;> rfl) (grownBy_putObj' _ D (.deferred none)) (fun r e => by cases e; exact ⟨by omega, _, hK, rfl⟩)
    have t0 := y6.cell 1 rfl 0 rfl
    have t1 := y6.cell 1 rfl 1 rfl
    have t2 := y6.cell 1 rfl 2 rfl
    have t3 := y6.cell 0 rfl 0 rfl
    gi_wp2
    refine ⟨by simp, .inl ⟨_, _, rfl, run_takeDeferred hK, ?_⟩⟩
    refine ⟨fwv (some x.1), ?_, rfl, y6.b⟩
    simp [results, Tryz.f86, go_sem, t0, t1, t2, t3, fwv, wv]
end Go.Proofs.YtdknneofiefieaaGreatDoor

namespace Go.Proofs.YtdknneofiefieaaGreatDoor
open Go.RowKit Go.Lib Dec Rt Geo

theorem ds_sq {q : Rat} (h : Sm 50 q) : Sq q := Sm.sq h (by decide)

set_option maxRecDepth 100000 in
set_option maxHeartbeats 1000000 in
theorem dCheck_c {d : Dc} (hd : Ds d) (w : World) (g : Gd w) :
    Calls Tryz.prog 80 #[.agg #[.string (rt d.x), .string (rt d.y), .string (rt d.s)]] w (RB (.int .i64 0) w) := by
  have H : ∀ q ∈ [d.x, d.y, d.s], ∀ w, Gd w → Calls Tryz.prog 47 #[.string (rt q)] w fun e w' => e = .returned (.int .i64 0) ∧ Below w.heap.size w w' := by
    intro q hq w g
    simp only [List.mem_cons, List.not_mem_nil, or_false] at hq
    rcases hq with rfl | rfl | rfl
    · exact rCheck_c (ds_sq hd.sx) w g
    · exact rCheck_c (ds_sq hd.sy) w g
    · exact rCheck_c (ds_sq hd.ss) w g
  have p1 := rt_pos d.s
  have g1 := rt_get0 d.s p1
  rw [decide_eq_false (by have := hd.2.2.2; grind)] at g1
  clear hd
  have hB1 : Below w.heap.size w ((w.alloc (.cells #[.string (rt d.x), .string (rt d.y), .string (rt d.s)] 43)).alloc (.cells #[.string (rt d.x), .string (rt d.y), .string (rt d.s)] 39)) := ((Below.refl _ w).alloc (Nat.le_refl _) _).alloc (by simp) _
  have q1 := bx1 w (.cells #[.string (rt d.x), .string (rt d.y), .string (rt d.s)] 43)
  have q0 : ((w.alloc (.cells #[.string (rt d.x), .string (rt d.y), .string (rt d.s)] 43)).alloc (.cells #[.string (rt d.x), .string (rt d.y), .string (rt d.s)] 39)).heap[w.heap.size]? = some (.cells #[.string (rt d.x), .string (rt d.y), .string (rt d.s)] 43 (0, 0)) :=
    (Below.heap_alloc _ _ _ (by simp)).trans (heap_alloc_new w _)
  have q2 : ((w.alloc (.cells #[.string (rt d.x), .string (rt d.y), .string (rt d.s)] 43)).alloc (.cells #[.string (rt d.x), .string (rt d.y), .string (rt d.s)] 39)).heap[w.heap.size + 1]? = some (.cells #[.string (rt d.x), .string (rt d.y), .string (rt d.s)] 39 (0, 0)) := by
    have := heap_alloc_new (w.alloc (.cells #[.string (rt d.x), .string (rt d.y), .string (rt d.s)] 43)) (.cells #[.string (rt d.x), .string (rt d.y), .string (rt d.s)] 39 (0, 0))
    rwa [World.size_alloc] at this
  clear q1
  go_enter Tryz.func80, Tryz.ntmps80
  go_wp2_with fail
  go_loopg [4, 5, 16] 3 (fun m _ _ i wr => ∃ k : Nat, k + m = 3 ∧ i = .int .i64 k ∧ Below w.heap.size w wr ∧ wr.heap[w.heap.size]? = some (.cells #[.string (rt d.x), .string (rt d.y), .string (rt d.s)] 43 (0, 0)) ∧ wr.heap[w.heap.size + 1]? = some (.cells #[.string (rt d.x), .string (rt d.y), .string (rt d.s)] 39 (0, 0)))
  case atStart => exact ⟨0, by omega, rfl, hB1, q0, q2⟩
  case round =>
    obtain ⟨k, hm, rfl, hB, h0, h2⟩ := hrel
    by_cases hlt : k < 3
    · obtain ⟨x, hx, hxc⟩ : ∃ x : Rat, x ∈ [d.x, d.y, d.s] ∧ (#[Value.string (rt d.x), .string (rt d.y), .string (rt d.s)])[k]? = some (.string (rt x)) := by
        match k, hlt with
        | 0, _ => exact ⟨d.x, by simp, rfl⟩
        | 1, _ => exact ⟨d.y, by simp, rfl⟩
        | 2, _ => exact ⟨d.s, by simp, rfl⟩
      have hcell := (cell_of_row wr _ k _ _ _ h2).trans hxc
      have KK := H x hx wr (g.below hB)
      have HM := Lib.hid hm
      have H0 := Lib.hid h0
      have H2 := Lib.hid h2
      clear H hx hm h0 h2 hB1 q0 q2 hxc
      generalize rt x = tX at *
      go_wp2_with (go_at_call 47; refine KK.mono ?_; rintro e w1 ⟨rfl, b1⟩)
      go_roundg (gk - 1)
      case measure => have := HM.out; omega
      case rel => exact ⟨k + 1, by have := HM.out; omega, by go_num, Bl.trans hB b1, blk_below H0.out b1, blk_below H2.out b1⟩
    · have hk : k = 3 := by omega
      subst hk
      have hcell := cell_of_row wr _ 2 _ _ _ h0
      simp at hcell
      clear H hB1 q0 q2
      go_wp2_with fail
      go_ret
      exact ⟨rfl, hB⟩

set_option maxRecDepth 100000 in
set_option maxHeartbeats 1000000 in
theorem list_c {len cp b : Nat} {c : Nat → Dc} (h1 : 1 ≤ len) (hn : len ≤ 64) (hds : ∀ k, k < len → Ds (c k)) (w : World) (g : Gd w) (hD : DL w b len c) :
    Calls Tryz.prog 85 #[.slice (some ⟨b, 0, none⟩) len cp] w (RB (.int .i64 0) w) := by
  have K : ∀ k, k < len → ∀ w, Gd w → Calls Tryz.prog 80 #[.agg #[.string (rt (c k).x), .string (rt (c k).y), .string (rt (c k).s)]] w (RB (.int .i64 0) w) := fun k hk w g => dCheck_c (hds k hk) w g
  clear hds
  have h64 : (len : Int) ≤ 64 := by omega
  have h0 : ¬ (len : Int) = 0 := by omega
  go_enter Tryz.func85, Tryz.ntmps85
  go_wp2_with fail
  go_loopg [4, 5, 11] len (fun m _ _ i wr => ∃ k : Nat, k + m = len ∧ i = .int .i64 k ∧ Below w.heap.size w wr)
  case atStart => exact ⟨0, by omega, rfl, Below.refl _ _⟩
  case round =>
    obtain ⟨k, hm, rfl, hB⟩ := hrel
    by_cases hlt : k < len
    · have hA := (hD.a k hlt).step hB
      have a1 := hA.x
      have a2 := hA.y
      have a3 := hA.s
      have hlti : (k : Int) < (len : Int) := by omega
      have n1 := World.new_ne wr _ a1
      have KK := K k hlt (wr.alloc (.cells #[.string (rt (c k).x), .string (rt (c k).y), .string (rt (c k).s)] 43)) ((g.below hB).alloc _)
      have bb : Below wr.heap.size wr (wr.alloc (.cells #[.string (rt (c k).x), .string (rt (c k).y), .string (rt (c k).s)] 43)) := (Below.refl _ wr).alloc (Nat.le_refl _) _
      have HM := Lib.hid hm
      clear K hD hm hA
      generalize rt (c k).x = t1 at *
      generalize rt (c k).y = t2 at *
      generalize rt (c k).s = t3 at *
      go_wp2_with fail
      refine KK.mono ?_
      rintro e w1 ⟨rfl, b1⟩
      go_wp2_with fail
      go_roundg (gk - 1)
      case measure => have := HM.out; omega
      case rel => exact ⟨k + 1, by have := HM.out; omega, by go_num, Bl.trans hB (Bl.trans bb b1)⟩
    · have hk : k = len := by omega
      subst hk
      clear K hD
      go_wp2_with fail
      go_ret
      exact ⟨rfl, hB⟩
end Go.Proofs.YtdknneofiefieaaGreatDoor

namespace Go.Proofs.YtdknneofiefieaaGreatDoor
open Go.RowKit Go.Lib Dec Rt Geo

/-- what Common returns -/
def cmv (o : Option W3) : Value := match o with
  | some x => .tuple #[.bool true, wv x, .int .i64 0]
  | none => .tuple #[.bool false, .agg #[.int .i64 0, .int .i64 0, .int .i64 0], .int .i64 0]

set_option maxRecDepth 100000 in
set_option maxHeartbeats 1000000 in
theorem common_w {len cp b : Nat} {ok : Bool} {i j s : Int} (w : World) (g : Gd w)
    (hL : Calls Tryz.prog 85 #[.slice (some ⟨b, 0, none⟩) len cp] (w.alloc (.cells #[.int .i64 0, .int .i64 0, .int .i64 0] 53)) (RB (.int .i64 0) (w.alloc (.cells #[.int .i64 0, .int .i64 0, .int .i64 0] 53))))
    (hF : ∀ p v, Sd p v → Below w.heap.size w v → Calls Tryz.prog 86 #[.pointer (some ⟨p, 0, none⟩), .slice (some ⟨b, 0, none⟩) len cp] v (RB (.tuple #[.agg #[.int .i64 i, .int .i64 j, .int .i64 s], .bool ok]) v)) :
    Calls Tryz.prog 50 #[.slice (some ⟨b, 0, none⟩) len cp] w (RB (.tuple #[.bool ok, .agg #[.int .i64 i, .int .i64 j, .int .i64 s], .int .i64 0]) w) := by
  obtain ⟨W, hW⟩ : ∃ W, w.alloc (.cells #[.int .i64 0, .int .i64 0, .int .i64 0] 53) = W := ⟨_, rfl⟩
  have h0 : W.heap[w.heap.size]? = some (.cells #[.int .i64 0, .int .i64 0, .int .i64 0] 53 (0, 0)) := hW ▸ heap_alloc_new w _
  have bW : Below w.heap.size w W := hW ▸ (Below.refl _ w).alloc (Nat.le_refl _) _
  rw [hW] at hL
  go_enter Tryz.func50, Tryz.ntmps50
  go_wp2_with fail
  clear hW
  refine hL.mono ?_
  rintro e w1 ⟨rfl, b1⟩
  have B1 := Bl.trans bW b1
  have h1 := blk_below h0 b1
  have S1 := Sd.new w1 (g.below B1)
  have bS : Below w1.heap.size w1 (w1.alloc (.cells #[.int .i64 0] 142 (0, 0))) := (Below.refl _ w1).alloc (Nat.le_refl _) _
  have B2 := Bl.trans B1 bS
  have F := hF w1.heap.size _ S1 B2
  go_wp2_with fail
  refine F.mono ?_
  rintro e w2 ⟨rfl, b2⟩
  have S2 := S1.below b2
  have B3 := Bl.trans B2 b2
  have h2 := blk_below (blk_below h1 bS) b2
  have bA : Below w2.heap.size w2 (w2.alloc (.cells #[.int .i64 i, .int .i64 j, .int .i64 s] 53)) := (Below.refl _ w2).alloc (Nat.le_refl _) _
  obtain ⟨X, hX⟩ : ∃ X, w2.alloc (.cells #[.int .i64 i, .int .i64 j, .int .i64 s] 53) = X := ⟨_, rfl⟩
  rw [hX] at bA
  have h4 : X.heap[w2.heap.size]? = some (.cells #[.int .i64 i, .int .i64 j, .int .i64 s] 53 (0, 0)) := hX ▸ heap_alloc_new w2 _
  have B4 := Bl.trans B3 bA
  have h3 := blk_below h2 bA
  have d0 := (S2.below bA).cell
  have r0 := cell_of_row X _ 0 _ _ _ h3
  have r1 := cell_of_row X _ 1 _ _ _ h3
  have r2 := cell_of_row X _ 2 _ _ _ h3
  have c0 := cell_of_row X _ 0 _ _ _ h4
  have c1 := cell_of_row X _ 1 _ _ _ h4
  have c2 := cell_of_row X _ 2 _ _ _ h4
  simp at r0 r1 r2 c0 c1 c2
  have f0 : ∀ o, X.frozen? ⟨w.heap.size, o, none⟩ = false := fun o => by unfold World.frozen?; simp [h3]
  have q0 := f0 0
  have q1 := f0 1
  have q2 := f0 2
  have m0 : w.heap.size ≠ w2.heap.size := by have := (Array.getElem?_eq_some_iff.1 h2).1; omega
  clear f0 hF F hL
  go_wp2_with fail
  go_region_held3 (fun m => m.cell? ⟨w2.heap.size, 0, none⟩ = some (.int .i64 i) ∧ m.cell? ⟨w2.heap.size, 1, none⟩ = some (.int .i64 j) ∧ m.cell? ⟨w2.heap.size, 2, none⟩ = some (.int .i64 s)) (go_keep) (fail)
  go_wp2_with fail
  try simp only [Exit.then]
  refine bodyPost_ret (v := .tuple #[.bool ok, .agg #[.int .i64 i, .int .i64 j, .int .i64 s], .int .i64 0]) ?_ rfl ⟨rfl, Below.drew (((B4.setCell (p := ⟨w.heap.size, 0, none⟩) (Nat.le_refl _) _).setCell (p := ⟨w.heap.size, 1, none⟩) (Nat.le_refl _) _).setCell (p := ⟨w.heap.size, 2, none⟩) (Nat.le_refl _) _)⟩
  simp [results, Tryz.f50, go_sem, r0, r1, r2]

theorem common_c {len cp b : Nat} {c : Nat → Dc} (h1 : 1 ≤ len) (hn : len ≤ 64) (hds : ∀ k, k < len → Ds (c k)) (w : World) (g : Gd w) (hD : DL w b len c) :
    Calls Tryz.prog 50 #[.slice (some ⟨b, 0, none⟩) len cp] w (RB (cmv (fw c len)) w) := by
  have hL := list_c (cp := cp) h1 hn hds _ (g.alloc (.cells #[.int .i64 0, .int .i64 0, .int .i64 0] 53)) (hD.step ((Below.refl _ w).alloc (Nat.le_refl _) _))
  have hF := fun p v (s : Sd p v) (hb : Below w.heap.size w v) => first_c (cp := cp) (c := c) (by omega) hds p v s (hD.step hb)
  cases hf : fw c len with
  | none =>
    rw [hf] at hF
    exact common_w w g hL hF
  | some x =>
    rw [hf] at hF
    exact common_w w g hL hF
end Go.Proofs.YtdknneofiefieaaGreatDoor
