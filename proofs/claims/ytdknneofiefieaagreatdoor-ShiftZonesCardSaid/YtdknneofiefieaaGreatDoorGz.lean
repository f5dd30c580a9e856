import Derived.Deep.AppendLies
import Derived.Deep.RegionLawGrows
import Derived.Deep.RegionHeld3
import Derived.Test.YtdknneofiefieaaGreatDoorGy

namespace Go.Proofs.YtdknneofiefieaaGreatDoor
open Go.RowKit Go.Lib Rt Geo Sh

theorem discI : (Tryz.prog.info? 43).map (fun i => (i.size, i.bytes, i.zero.map (·.cells.size))) = some (3, 48, some 3) := by kernel_rfl
theorem discInfo : ∃ i z, Tryz.prog.info? 43 = some i ∧ i.zero = some z ∧ i.size = 3 ∧ i.bytes = 48 ∧ z.cells.size = 3 := by
  have h := discI
  cases hi : Tryz.prog.info? 43 with
  | none => rw [hi] at h; cases h
  | some i =>
    rw [hi] at h
    simp at h
    obtain ⟨h1, h2, z, h3, h4⟩ := h
    exact ⟨i, z, rfl, h3, h1, h2, h4⟩
/-- the cells of discs -/
def dcs (l : List Dc) : List Value := l.flatMap fun d => [.string (rt d.x), .string (rt d.y), .string (rt d.s)]
theorem dcs_len (l : List Dc) : (dcs l).length = l.length * 3 := by
  unfold dcs
  induction l with
  | nil => rfl
  | cons d t ih => rw [List.flatMap_cons, List.length_append, ih]; simp; omega
theorem dcs_snoc (l : List Dc) (d : Dc) : dcs (l ++ [d]) = dcs l ++ [.string (rt d.x), .string (rt d.y), .string (rt d.s)] := by unfold dcs; rw [List.flatMap_append]; simp
theorem dcs_get (l : List Dc) : ∀ (k : Nat) (d : Dc), l[k]? = some d → (dcs l)[k * 3]? = some (.string (rt d.x)) ∧ (dcs l)[k * 3 + 1]? = some (.string (rt d.y)) ∧ (dcs l)[k * 3 + 2]? = some (.string (rt d.s)) := by
  induction l with
  | nil => intro k d h; simp at h
  | cons a t ih =>
    intro k d h
    have e : dcs (a :: t) = [.string (rt a.x), .string (rt a.y), .string (rt a.s)] ++ dcs t := by unfold dcs; rw [List.flatMap_cons]
    rw [e]
    cases k with
    | zero => simp at h; subst h; simp
    | succ k =>
      have := ih k d (by simpa using h)
      rw [show (k + 1) * 3 = k * 3 + 3 by omega]
      refine ⟨?_, ?_, ?_⟩
      · rw [List.getElem?_append_right (by simp)]; simpa using this.1
      · rw [List.getElem?_append_right (by simp)]; simpa using this.2.1
      · rw [List.getElem?_append_right (by simp)]; simpa using this.2.2
/-- a slice that owns discs holds them -/
theorem owns_dl {w : World} {base g n cap : Nat} {l : List Dc} (h : w.ownsRow base 43 3 (.slice (some ⟨g, 0, none⟩) n cap) n (dcs l)) (hn : n = l.length) : DL w g n (zc l) := by
  refine ⟨fun k hk => ?_⟩
  have hk' : k < l.length := by omega
  have hz := zc_some (List.getElem?_eq_getElem hk')
  have hg := dcs_get l k _ (List.getElem?_eq_getElem hk')
  rw [hz]
  have hc := h.cells (g := g) rfl
  have ha : ∀ j : Nat, (⟨g, 0, none⟩ : Addr).add j = ⟨g, j, none⟩ := fun j => by unfold Addr.add; split <;> simp_all
  exact ⟨by have := hc _ _ hg.1; rwa [ha] at this, by have := hc _ _ hg.2.1; rwa [ha] at this, by have := hc _ _ hg.2.2; rwa [ha] at this⟩
end Go.Proofs.YtdknneofiefieaaGreatDoor

namespace Go.Proofs.YtdknneofiefieaaGreatDoor
open Go.RowKit Go.Lib Rt Geo Sh

theorem owns_below {x y : World} {base n : Nat} {e : TypeId} {size : Nat} {v : Value} {xs : List Value} (h : x.ownsRow base e size v n xs) (hb : Below x.heap.size x y) : y.ownsRow base e size v n xs :=
  ⟨h.1, h.2.imp id fun ⟨g, cap, cur, h1, h2, h3, h4⟩ => ⟨g, cap, cur, h1, h2, blk_below h3 hb, h4⟩⟩
theorem owns_mono {x : World} {base base' n : Nat} {e : TypeId} {size : Nat} {v : Value} {xs : List Value} (h : x.ownsRow base e size v n xs) (hb : base' ≤ base) : x.ownsRow base' e size v n xs :=
  ⟨h.1, h.2.imp id fun ⟨g, cap, cur, h1, h2, h3⟩ => ⟨g, cap, cur, h1, Nat.le_trans hb h2, h3⟩⟩
def zl (ts : List (Tg × Ci)) : List Dc := ts.map fun p => zone p.1 p.2

set_option maxRecDepth 100000 in
set_option maxHeartbeats 2000000 in
theorem targets_c {ts : List (Tg × Ci)} {b o b' o' cp cp' : Nat} {play : Int} (h : Pok ts) (hn : ts.length ≤ 16) (w : World) (g : Gd w) (hm : PM w b o b' o' ts) :
    Calls Tryz.prog 40 #[.agg (tkv b o ts.length cp b' o' cp' play)] w fun e w' => (∃ v, e = .returned (.tuple #[v, .int .i64 0]) ∧ w'.ownsRow w.heap.size 43 3 v ts.length (dcs (zl ts))) ∧ Below w.heap.size w w' := by
  have hW := h.w
  have hT := h.t
  have hC := h.c
  clear h
  unfold tkv
  obtain ⟨W, hWW⟩ : ∃ W, w.alloc (.cells #[.slice (some ⟨b, o, none⟩) ts.length cp, .slice (some ⟨b', o', none⟩) ts.length cp', .int .i64 play] 25) = W := ⟨_, rfl⟩
  have q1 : W.heap[w.heap.size]? = some (.cells #[.slice (some ⟨b, o, none⟩) ts.length cp, .slice (some ⟨b', o', none⟩) ts.length cp', .int .i64 play] 25 (0, 0)) := hWW ▸ heap_alloc_new w _
  have bW : Below w.heap.size w W := hWW ▸ (Below.refl _ w).alloc (Nat.le_refl _) _
  have hm1 := hm.step bW
  have e0 : W.cell? ⟨w.heap.size, 0, none⟩ = some (.slice (some ⟨b, o, none⟩) ts.length cp) := cell_of_row W _ 0 _ _ _ q1
  clear hm
  obtain ⟨di, dz, hi0, hz0, hs0, hb0, hc0⟩ := discInfo
  go_enter Tryz.func40, Tryz.ntmps40
  go_wp2_with fail
  clear hWW
  go_loopg [4, 5, 6, 7, 8, 9, 10, 14] ts.length (fun m out _ _ _ _ _ _ i wr => ∃ k : Nat, k + m = ts.length ∧ i = .int .i64 k ∧ Below W.heap.size W wr ∧ wr.ownsRow W.heap.size 43 3 out k (dcs (zl (ts.take k))))
  case atStart => exact ⟨0, by omega, rfl, Below.refl _ _, World.ownsRow_nil _ _ _ _⟩
  case round =>
    obtain ⟨k, hmm, rfl, hB, hown⟩ := hrel
    by_cases hlt : k < ts.length
    · obtain ⟨q, hq⟩ : ∃ q, ts[k]? = some q := ⟨_, List.getElem?_eq_getElem hlt⟩
      have q3 := blk_below q1 hB
      obtain ⟨a0, a1, a2, a3, a4, a5, a6⟩ := (hm1.t k q hq).step hB
      have hlti : (k : Int) < (ts.length : Int) := by omega
      have tk := hT q (List.mem_of_getElem? hq)
      have ck := hC q (List.mem_of_getElem? hq)
      have wk := hW q (List.mem_of_getElem? hq)
      obtain ⟨X1, hX1⟩ : ∃ X1, wr.alloc (.cells #[.int .i64 q.1.x, .int .i64 q.1.y, .int .i64 q.1.lo, .int .i64 q.1.hi, .int .i64 q.1.tol, .int .i64 q.1.mat, .bool q.1.pin] 85) = X1 := ⟨_, rfl⟩
      have bb1 : Below wr.heap.size wr X1 := hX1 ▸ (Below.refl _ wr).alloc (Nat.le_refl _) _
      have q5 : X1.heap[wr.heap.size]? = some (.cells #[.int .i64 q.1.x, .int .i64 q.1.y, .int .i64 q.1.lo, .int .i64 q.1.hi, .int .i64 q.1.tol, .int .i64 q.1.mat, .bool q.1.pin] 85 (0, 0)) := hX1 ▸ heap_alloc_new wr _
      obtain ⟨d0, d1, d2⟩ := ((hm1.c k q hq).step hB).step bb1
      have e1 : X1.cell? ⟨w.heap.size, 1, none⟩ = some (.slice (some ⟨b', o', none⟩) ts.length cp') := cell_of_row X1 _ 1 _ _ _ (blk_below q3 bb1)
      obtain ⟨X2, hX2⟩ : ∃ X2, X1.alloc (.cells #[.int .i64 q.2.x, .int .i64 q.2.y, .int .i64 q.2.n] 75) = X2 := ⟨_, rfl⟩
      have bb2 : Below X1.heap.size X1 X2 := hX2 ▸ (Below.refl _ X1).alloc (Nat.le_refl _) _
      have q6 : X2.heap[X1.heap.size]? = some (.cells #[.int .i64 q.2.x, .int .i64 q.2.y, .int .i64 q.2.n] 75 (0, 0)) := hX2 ▸ heap_alloc_new X1 _
      have q7 := blk_below q5 bb2
      have B2 := Bl.trans hB (Bl.trans bb1 bb2)
      have AL := bAllowed_c tk wk X2 (g.below (Bl.trans bW B2))
      unfold tcells at AL
      have t0 : X2.cell? ⟨wr.heap.size, 0, none⟩ = some (.int .i64 q.1.x) := cell_of_row X2 _ 0 _ _ _ q7
      have t1 : X2.cell? ⟨wr.heap.size, 1, none⟩ = some (.int .i64 q.1.y) := cell_of_row X2 _ 1 _ _ _ q7
      have t2 : X2.cell? ⟨wr.heap.size, 2, none⟩ = some (.int .i64 q.1.lo) := cell_of_row X2 _ 2 _ _ _ q7
      have t3 : X2.cell? ⟨wr.heap.size, 3, none⟩ = some (.int .i64 q.1.hi) := cell_of_row X2 _ 3 _ _ _ q7
      have t4 : X2.cell? ⟨wr.heap.size, 4, none⟩ = some (.int .i64 q.1.tol) := cell_of_row X2 _ 4 _ _ _ q7
      have t5 : X2.cell? ⟨wr.heap.size, 5, none⟩ = some (.int .i64 q.1.mat) := cell_of_row X2 _ 5 _ _ _ q7
      have t6 : X2.cell? ⟨wr.heap.size, 6, none⟩ = some (.bool q.1.pin) := cell_of_row X2 _ 6 _ _ _ q7
      have u2 : X2.cell? ⟨X1.heap.size, 2, none⟩ = some (.int .i64 q.2.n) := cell_of_row X2 _ 2 _ _ _ q6
      have ab := alw_bd tk wk
      have xb := tk.x1; have xb2 := tk.x2; have yb := tk.y1; have yb2 := tk.y2; have cb := ck.x1; have cb2 := ck.x2; have db := ck.y1; have db2 := ck.y2
      have wx : IntKind.i64.wrap (q.1.x - q.2.x) = q.1.x - q.2.x := IntWalk.i64_in _ (by omega)
      have wy : IntKind.i64.wrap (q.1.y - q.2.y) = q.1.y - q.2.y := IntWalk.i64_in _ (by omega)
      have AR := fun w g => sAround_c (x := q.1.x - q.2.x) (y := q.1.y - q.2.y) (d := alw q.1 q.2) (by omega) (by omega) (by omega) w g
      have hz : around (q.1.x - q.2.x) (q.1.y - q.2.y) (alw q.1 q.2) = zone q.1 q.2 := rfl
      rw [hz] at AR
      have et : dcs (zl (ts.take (k + 1))) = dcs (zl (ts.take k)) ++ [.string (rt (zone q.1 q.2).x), .string (rt (zone q.1 q.2).y), .string (rt (zone q.1 q.2).s)] := by
        rw [List.take_add_one, hq]
        unfold zl
        rw [List.map_append]
        exact dcs_snoc _ _
      have own2 := owns_below (owns_below hown bb1) bb2
      have HM := Lib.hid hmm
      have ET := Lib.hid et
      clear hW hT hC hmm hm1 hq q1 q3 q5 tk ck wk et ab xb xb2 yb yb2 cb cb2 db db2 hz e0 hown
      go_wp2_with fail
      refine AL.mono ?_
      rintro e w2 ⟨rfl, b2⟩
      have q8 := blk_below q7 b2
      have q9 := blk_below q6 b2
      have B3 := Bl.trans B2 b2
      clear t0 t1 t2 t3 t4 t5 t6 u2 d0 d1 d2 e1
      have t0 : w2.cell? ⟨wr.heap.size, 0, none⟩ = some (.int .i64 q.1.x) := cell_of_row w2 _ 0 _ _ _ q8
      have t1 : w2.cell? ⟨wr.heap.size, 1, none⟩ = some (.int .i64 q.1.y) := cell_of_row w2 _ 1 _ _ _ q8
      have u0 : w2.cell? ⟨X1.heap.size, 0, none⟩ = some (.int .i64 q.2.x) := cell_of_row w2 _ 0 _ _ _ q9
      have u1 : w2.cell? ⟨X1.heap.size, 1, none⟩ = some (.int .i64 q.2.y) := cell_of_row w2 _ 1 _ _ _ q9
      go_wp2_with fail
      refine (AR _ (g.below (Bl.trans bW B3))).mono ?_
      rintro e w3 ⟨rfl, b3⟩
      have B4 := Bl.trans B3 b3
      have own3 := owns_below (owns_below own2 b2) b3
      have own4 := owns_below (owns_below own3 ((Below.refl _ w3).alloc (Nat.le_refl _) (.cells #[.string (rt (zone q.1 q.2).x), .string (rt (zone q.1 q.2).y), .string (rt (zone q.1 q.2).s)] 43))) ((Below.refl _ _).alloc (Nat.le_refl _) (.cells #[.string (rt (zone q.1 q.2).x), .string (rt (zone q.1 q.2).y), .string (rt (zone q.1 q.2).s)] 43))
      have B5 := Bl.trans (Bl.trans B4 ((Below.refl _ w3).alloc (Nat.le_refl _) (.cells #[.string (rt (zone q.1 q.2).x), .string (rt (zone q.1 q.2).y), .string (rt (zone q.1 q.2).s)] 43))) ((Below.refl _ _).alloc (Nat.le_refl _) (.cells #[.string (rt (zone q.1 q.2).x), .string (rt (zone q.1 q.2).y), .string (rt (zone q.1 q.2).s)] 43))
      clear t0 t1 u0 u1 AL AR
      have qn := heap_alloc_new (w3.alloc (.cells #[.string (rt (zone q.1 q.2).x), .string (rt (zone q.1 q.2).y), .string (rt (zone q.1 q.2).s)] 43)) (.cells #[.string (rt (zone q.1 q.2).x), .string (rt (zone q.1 q.2).y), .string (rt (zone q.1 q.2).s)] 43)
      rw [World.size_alloc] at qn
      go_wp2_with (at_builtin; refine wpList_append_lies _ rfl _ _ _ rfl W.heap.size 43 di dz 3 48 Tryz.underlying28 hi0 hz0 hs0 hb0 hc0 (by decide) _ k _ rfl own4 ⟨w3.heap.size + 1, 0, none⟩ 1 1 [.string (rt (zone q.1 q.2).x), .string (rt (zone q.1 q.2).y), .string (rt (zone q.1 q.2).s)] rfl rfl (World.news_of_block qn) (by simp [Value.oneCell']) (by decide) (by unfold maxLen; omega) (by omega) B5.size (w3.heap.size + 1 + 1) (by simp) ?_; intro g2 cap w5 hown5 hgrow hat hlt5)
      go_roundg (gk - 1)
      case measure => have := HM.out; omega
      case rel => exact ⟨k + 1, by have := HM.out; omega, by go_num, B5.grown hgrow B5.size (fun j e => (own4.lt j e).1), by rw [ET.out]; exact hown5⟩
    · have hk : k = ts.length := by omega
      clear hlt hmm
      subst hk
      rw [List.take_length] at hown
      clear hW hT hC hm1
      go_wp2_with fail
      go_ret2
      exact ⟨⟨_, rfl, owns_mono hown bW.size⟩, Bl.trans bW hB⟩
end Go.Proofs.YtdknneofiefieaaGreatDoor

namespace Go.Proofs.YtdknneofiefieaaGreatDoor
open Go.RowKit Go.Lib Rt Geo Sh

set_option maxRecDepth 100000 in
set_option maxHeartbeats 1000000 in
theorem limited_neg {v : Value} {play : Int} (h : play < 0) (w : World) :
    Calls Tryz.prog 41 #[v, .int .i64 play] w (RB (.tuple #[v, .int .i64 0]) w) := by
  go_enter Tryz.func41, Tryz.ntmps41
  go_wp2_with fail
  go_ret2
  exact ⟨rfl, Below.refl _ _⟩

set_option maxRecDepth 100000 in
set_option maxHeartbeats 1000000 in
theorem limited_w {gg n cap base : Nat} {xs : List Value} {play : Int} {t1 t2 t3 : ByteArray} (h : ¬ play < 0) (hn : n ≤ 100) (w : World) (_g : Gd w)
    (hown : w.ownsRow base 43 3 (.slice (some ⟨gg, 0, none⟩) n cap) n xs)
    (A : Calls Tryz.prog 69 #[.int .i64 0, .int .i64 0, .int .i64 play] w (RB (.tuple #[.agg #[.string t1, .string t2, .string t3], .int .i64 0]) w)) :
    Calls Tryz.prog 41 #[.slice (some ⟨gg, 0, none⟩) n cap, .int .i64 play] w fun e w' => (∃ v, e = .returned (.tuple #[v, .int .i64 0]) ∧ w'.ownsRow w.heap.size 43 3 v (n + 1) (xs ++ [.string t1, .string t2, .string t3])) ∧ Below w.heap.size w w' := by
  obtain ⟨di, dz, hi0, hz0, hs0, hb0, hc0⟩ := discInfo
  have hcap : n ≤ cap := by
    rcases hown.2 with ⟨h1, _⟩ | ⟨g', cap', cur, h1, _, _, h4, _⟩
    · cases h1
    · cases h1; exact h4
  have hci : (n : Int) ≤ (cap : Int) := by omega
  go_enter Tryz.func41, Tryz.ntmps41
  go_wp2_with fail
  refine A.mono ?_
  rintro e w1 ⟨rfl, b1⟩
  have own1 := owns_below hown b1
  obtain ⟨X, hX⟩ : ∃ X, w1.alloc (.cells #[.string t1, .string t2, .string t3] 43) = X := ⟨_, rfl⟩
  have bX : Below w1.heap.size w1 X := hX ▸ (Below.refl _ w1).alloc (Nat.le_refl _) _
  have q1 : X.heap[w1.heap.size]? = some (.cells #[.string t1, .string t2, .string t3] 43 (0, 0)) := hX ▸ heap_alloc_new w1 _
  have own2 := owns_below own1 bX
  have BX := Bl.trans b1 bX
  have e0 : X.cell? ⟨w1.heap.size, 0, none⟩ = some (.string t1) := cell_of_row X _ 0 _ _ _ q1
  have e1 : X.cell? ⟨w1.heap.size, 1, none⟩ = some (.string t2) := cell_of_row X _ 1 _ _ _ q1
  have e2 : X.cell? ⟨w1.heap.size, 2, none⟩ = some (.string t3) := cell_of_row X _ 2 _ _ _ q1
  have n0 := World.new_ne X _ e0
  simp only at n0
  clear q1 own1 hown
  have XA : Below X.heap.size X (X.drew.alloc (.cells #[.string t1, .string t2, .string t3] 43)) := (Below.refl _ X).drew.alloc (Nat.le_refl _) _
  have own3 := owns_below own2 XA
  have qn := heap_alloc_new X.drew (.cells #[.string t1, .string t2, .string t3] 43)
  go_wp2_with fail
  go_region_held3 (fun m => m.cell? ⟨w1.heap.size, 0, none⟩ = some (.string t1) ∧ m.cell? ⟨w1.heap.size, 1, none⟩ = some (.string t2) ∧ m.cell? ⟨w1.heap.size, 2, none⟩ = some (.string t3)) (first | go_keep | exact ⟨hgrow.cell (cell_bl XA e0) (by simp), hgrow.cell (cell_bl XA e1) (by simp), hgrow.cell (cell_bl XA e2) (by simp)⟩)
    ((refine step_append_grows (by rfl) (.tmp 24) (.tmp 26) 28 (by rfl) 43 di dz 3 48 Tryz.underlying28 hi0 hz0 hs0 hb0 hc0 (by decide) (some ⟨gg, 0, none⟩) n n xs (by rfl) (by simp) own3.1 (fun b hb => by cases hb; exact own3.cells rfl) ⟨X.heap.size, 0, none⟩ 1 1 [.string t1, .string t2, .string t3] (by rfl) rfl (World.news_of_block qn) (by simp [Value.oneCell']) (by omega) (by unfold maxLen; omega) (by omega) ?_; intro v' w' hown' hgrow))
  go_wp2_with fail
  go_ret2
  exact ⟨⟨_, rfl, owns_mono hown' (Bl.trans BX XA).size⟩, (Bl.trans BX XA).grown hgrow (Bl.trans BX XA).size (fun _ e => by cases e)⟩

theorem slimited_c {l : List Dc} {v : Value} {base : Nat} {play : Int} (h0 : l ≠ []) (hl : l.length ≤ 100) (hp : play ≤ 100000) (w : World) (g : Gd w)
    (hown : w.ownsRow base 43 3 v l.length (dcs l)) (hb : base ≤ w.heap.size) :
    Calls Tryz.prog 41 #[v, .int .i64 play] w fun e w' => (∃ v' n, e = .returned (.tuple #[v', .int .i64 0]) ∧ n = (l ++ (if play < 0 then [] else [around 0 0 play])).length ∧ w'.ownsRow base 43 3 v' n (dcs (l ++ (if play < 0 then [] else [around 0 0 play])))) ∧ Below w.heap.size w w' := by
  by_cases h : play < 0
  · refine (limited_neg h w).mono ?_
    rintro e w' ⟨rfl, hB⟩
    rw [if_pos h, List.append_nil]
    exact ⟨⟨v, _, rfl, rfl, owns_below hown hB⟩, hB⟩
  · obtain ⟨gg, cap, rfl, _, _⟩ := hown.form (List.length_pos_iff.2 h0)
    refine (limited_w h hl w g hown (sAround_c (by decide) (by decide) (by omega) w g)).mono ?_
    rintro e w' ⟨⟨v', rfl, ho⟩, hB⟩
    rw [if_neg h]
    refine ⟨⟨v', _, rfl, rfl, ?_⟩, hB⟩
    rw [dcs_snoc, List.length_append]
    exact owns_mono ho hb
end Go.Proofs.YtdknneofiefieaaGreatDoor

namespace Go.Proofs.YtdknneofiefieaaGreatDoor
open Go.RowKit Go.Lib Rt Geo Sh

set_option maxRecDepth 100000 in
set_option maxHeartbeats 1000000 in
theorem zones_c {ts : List (Tg × Ci)} {b o b' o' cp cp' : Nat} {play : Int} (h : Pok ts) (hn : ts.length ≤ 16) (p1 : -1 ≤ play) (p2 : play ≤ 100000) (w : World) (g : Gd w) (hm : PM w b o b' o' ts) :
    Calls Tryz.prog 14 #[.agg (tkv b o ts.length cp b' o' cp' play)] w fun e w' => (∃ v n, e = .returned (.tuple #[v, .int .i64 0]) ∧ n = (zs ts play).length ∧ w'.ownsRow w.heap.size 43 3 v n (dcs (zs ts play))) ∧ Below w.heap.size w w' := by
  obtain ⟨W, hWW⟩ : ∃ W, w.alloc (.cells (tkv b o ts.length cp b' o' cp' play) 25) = W := ⟨_, rfl⟩
  have q1 : W.heap[w.heap.size]? = some (.cells (tkv b o ts.length cp b' o' cp' play) 25 (0, 0)) := hWW ▸ heap_alloc_new w _
  have bW : Below w.heap.size w W := hWW ▸ (Below.refl _ w).alloc (Nat.le_refl _) _
  have hm1 := hm.step bW
  have C := sCheck_c (cp := cp) (cp' := cp') h hn p1 p2 W hm1
  have hlen : (zl ts).length = ts.length := by unfold zl; simp
  have hne : zl ts ≠ [] := by unfold zl; intro e; exact h.n (List.map_eq_nil_iff.1 e)
  unfold tkv at *
  have e0 : W.cell? ⟨w.heap.size, 0, none⟩ = some (.slice (some ⟨b, o, none⟩) ts.length cp) := cell_of_row W _ 0 _ _ _ q1
  have e1 : W.cell? ⟨w.heap.size, 1, none⟩ = some (.slice (some ⟨b', o', none⟩) ts.length cp') := cell_of_row W _ 1 _ _ _ q1
  have e2 : W.cell? ⟨w.heap.size, 2, none⟩ = some (.int .i64 play) := cell_of_row W _ 2 _ _ _ q1
  clear hm
  go_enter Tryz.func14, Tryz.ntmps14
  go_wp2_with fail
  clear hWW
  refine C.mono ?_
  rintro e w1 ⟨rfl, b1⟩
  have q2 := blk_below q1 b1
  have B1 := Bl.trans bW b1
  have hm2 := hm1.step b1
  have T := targets_c (cp := cp) (cp' := cp') (play := play) h hn w1 (g.below B1) hm2
  unfold tkv at T
  clear e0 e1 e2
  have e0 : w1.cell? ⟨w.heap.size, 0, none⟩ = some (.slice (some ⟨b, o, none⟩) ts.length cp) := cell_of_row w1 _ 0 _ _ _ q2
  have e1 : w1.cell? ⟨w.heap.size, 1, none⟩ = some (.slice (some ⟨b', o', none⟩) ts.length cp') := cell_of_row w1 _ 1 _ _ _ q2
  have e2 : w1.cell? ⟨w.heap.size, 2, none⟩ = some (.int .i64 play) := cell_of_row w1 _ 2 _ _ _ q2
  go_wp2_with fail
  refine T.mono ?_
  rintro e w2 ⟨⟨v, rfl, hown⟩, b2⟩
  have q3 := blk_below q2 b2
  have B2 := Bl.trans B1 b2
  rw [← hlen] at hown
  have L := slimited_c (play := play) hne (by omega) p2 w2 (g.below B2) (owns_mono hown B1.size) B2.size
  have hz : zl ts ++ (if play < 0 then [] else [around 0 0 play]) = zs ts play := rfl
  rw [hz] at L
  clear e0 e1 e2 hown
  have e2 : w2.cell? ⟨w.heap.size, 2, none⟩ = some (.int .i64 play) := cell_of_row w2 _ 2 _ _ _ q3
  go_wp2_with fail
  refine L.mono ?_
  rintro e w3 ⟨⟨v', n, rfl, hn', ho⟩, b3⟩
  go_wp2_with fail
  go_ret2
  exact ⟨⟨v', n, rfl, hn', ho⟩, Bl.trans B2 b3⟩
end Go.Proofs.YtdknneofiefieaaGreatDoor
