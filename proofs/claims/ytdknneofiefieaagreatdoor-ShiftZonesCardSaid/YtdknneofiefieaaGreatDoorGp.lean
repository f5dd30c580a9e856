import Derived.Test.YtdknneofiefieaaGreatDoorGn
import Derived.Test.YtdknneofiefieaaGreatDoorGo

namespace Go.Proofs.YtdknneofiefieaaGreatDoor
open Go.RowKit Go.Lib Dec Wd Rt Geo

/-- block p holds a sums of package discs without an error -/
structure Sd (p : Nat) (w : World) : Prop where
  g : Gd w
  out : w.heap[p]? = some (.cells #[.int .i64 0] 142 (0, 0))
theorem Sd.lt {w : World} {p : Nat} (h : Sd p w) : p < w.heap.size := (Array.getElem?_eq_some_iff.1 h.out).1
theorem Sd.cell {w : World} {p : Nat} (h : Sd p w) : w.cell? ⟨p, 0, none⟩ = some (.int .i64 0) := by
  unfold World.cell?; simp only [h.out]; rfl
theorem Sd.frozen {w : World} {p : Nat} (h : Sd p w) : w.frozen? ⟨p, 0, none⟩ = false := by
  unfold World.frozen?; simp only [h.out]; simp
theorem Sd.below {w w' : World} {p : Nat} (h : Sd p w) (hb : Below w.heap.size w w') : Sd p w' := ⟨h.g.below hb, (hb.block p h.lt).trans h.out⟩
theorem Sd.same {w : World} {p : Nat} (h : Sd p w) : Below w.heap.size w (w.setCell ⟨p, 0, none⟩ (.int .i64 0)) := by
  refine ⟨rfl, rfl, rfl, by simp, fun k _ => ?_⟩
  by_cases hk : k = p
  · subst hk
    simp only [World.setCell, Array.getElem?_modify, h.out]
    simp
  · exact Below.heap_setCell _ _ _ _ hk
theorem Sd.new (w : World) (g : Gd w) : Sd w.heap.size (w.alloc (.cells #[.int .i64 0] 142 (0, 0))) := ⟨g.alloc _, heap_alloc_new w _⟩

theorem cell_bl {x y : World} {a : Addr} {v : Value} (b : Below x.heap.size x y) (h : x.cell? a = some v) : y.cell? a = some v := (b.cell (World.block_lt_of_cell? x a h)).trans h
theorem cell_drew' {x : World} {a : Addr} {v : Value} (h : x.cell? a = some v) : x.drew.cell? a = some v := h
/-- boxes of a function, and what it keeps -/
structure Kx (p : Nat) (r : Nat) (o : Obj) (w w' : World) : Prop where
  s : Sd p w'
  r : w'.heap[r]? = some o
  b : Below w.heap.size w w'
theorem Kx.step {p r : Nat} {o : Obj} {w x y : World} (h : Kx p r o w x) (b : Below x.heap.size x y) : Kx p r o w y :=
  ⟨h.s.below b, (b.block r (Array.getElem?_eq_some_iff.1 h.r).1).trans h.r, Bl.trans h.b b⟩
theorem Kx.drew {p r : Nat} {o : Obj} {w x : World} (h : Kx p r o w x) : Kx p r o w x.drew := h.step (Below.refl _ x).drew
theorem Kx.c0 {p r : Nat} {v u : Value} {t : TypeId} {w x : World} (h : Kx p r (.cells #[v, u] t) w x) : x.cell? ⟨r, 0, none⟩ = some v := by
  have := cell_of_row x r 0 _ _ _ h.r; simpa using this
theorem Kx.c1 {p r : Nat} {v u : Value} {t : TypeId} {w x : World} (h : Kx p r (.cells #[v, u] t) w x) : x.cell? ⟨r, 1, none⟩ = some u := by
  have := cell_of_row x r 1 _ _ _ h.r; simpa using this
theorem Kx.f0 {p r : Nat} {v u : Value} {t : TypeId} {w x : World} (h : Kx p r (.cells #[v, u] t) w x) : x.frozen? ⟨r, 0, none⟩ = false := by
  unfold World.frozen?; simp [h.r]
theorem Kx.f1 {p r : Nat} {v u : Value} {t : TypeId} {w x : World} (h : Kx p r (.cells #[v, u] t) w x) : x.frozen? ⟨r, 1, none⟩ = false := by
  unfold World.frozen?; simp [h.r]
theorem S4.step {x y : World} {a1 a2 a3 a4 : Addr} {v1 v2 v3 v4 : Value} {p r : Nat} {o : Obj} {w : World} (b : Below x.heap.size x y)
    (h : (x.cell? a1 = some v1 ∧ x.cell? a2 = some v2 ∧ x.cell? a3 = some v3 ∧ x.cell? a4 = some v4) ∧ Kx p r o w x) : (y.cell? a1 = some v1 ∧ y.cell? a2 = some v2 ∧ y.cell? a3 = some v3 ∧ y.cell? a4 = some v4) ∧ Kx p r o w y :=
  ⟨⟨cell_bl b h.1.1, cell_bl b h.1.2.1, cell_bl b h.1.2.2.1, cell_bl b h.1.2.2.2⟩, h.2.step b⟩
theorem bx1 (w : World) (a b c : Obj) : (((w.alloc a).alloc b).alloc c).heap[w.heap.size]? = some a :=
  (Below.heap_alloc _ _ _ (by simp; omega)).trans ((Below.heap_alloc _ _ _ (by simp)).trans (heap_alloc_new w a))
theorem bx2 (w : World) (a b c : Obj) : (((w.alloc a).alloc b).alloc c).heap[w.heap.size + 1]? = some b := by
  have := heap_alloc_new (w.alloc a) b
  rw [World.size_alloc] at this
  exact (Below.heap_alloc _ _ _ (by simp)).trans this
theorem bx3 (w : World) (a b c : Obj) : (((w.alloc a).alloc b).alloc c).heap[w.heap.size + 1 + 1]? = some c := by
  have := heap_alloc_new ((w.alloc a).alloc b) c
  rwa [World.size_alloc, World.size_alloc] at this
theorem bxB (w : World) (a b c : Obj) : Below w.heap.size w (((w.alloc a).alloc b).alloc c) :=
  (((Below.refl _ w).alloc (Nat.le_refl _) a).alloc (by simp) b).alloc (by simp; omega) c

/-- what an operation on rational numbers returns -/
def OpQ (z : Rat) (w : World) (e : Ending) (w' : World) : Prop := e = .returned (.tuple #[.string (rt z), .int .i64 0]) ∧ Below w.heap.size w w'
/-- a value; new blocks may have come -/
def RB (v : Value) (w : World) (e : Ending) (w' : World) : Prop := e = .returned v ∧ Below w.heap.size w w'

set_option maxRecDepth 100000 in
set_option maxHeartbeats 1000000 in
theorem ddo_Add (x y z : Rat) (H : ∀ w, Gd w → Calls Tryz.prog 199 #[.string (rt x), .string (rt y)] w (OpQ z w)) (p : Nat) (w : World) (hS : Sd p w) :
    Calls Tryz.prog 166 #[.pointer (some ⟨p, 0, none⟩), .func (.func 199) #[] #[], .string (rt x), .string (rt y)] w (RB (.string (rt z)) w) := by
  have c := hS.cell
  have H1 := H w hS.g
  clear H
  go_enter Tryz.func166, Tryz.ntmps166
  go_wp2_with fail
  refine H1.mono ?_
  rintro e w1 ⟨rfl, b1⟩
  have s1 := hS.below b1
  have c1 := s1.cell
  have c2 := s1.frozen
  go_wp2_with fail
  go_ret
  exact ⟨rfl, Bl.trans b1 s1.same⟩

set_option maxRecDepth 100000 in
set_option maxHeartbeats 1000000 in
theorem ddo_Sub (x y z : Rat) (H : ∀ w, Gd w → Calls Tryz.prog 167 #[.string (rt x), .string (rt y)] w (OpQ z w)) (p : Nat) (w : World) (hS : Sd p w) :
    Calls Tryz.prog 166 #[.pointer (some ⟨p, 0, none⟩), .func (.func 167) #[] #[], .string (rt x), .string (rt y)] w (RB (.string (rt z)) w) := by
  have c := hS.cell
  have H1 := H w hS.g
  clear H
  go_enter Tryz.func166, Tryz.ntmps166
  go_wp2_with fail
  refine H1.mono ?_
  rintro e w1 ⟨rfl, b1⟩
  have s1 := hS.below b1
  have c1 := s1.cell
  have c2 := s1.frozen
  go_wp2_with fail
  go_ret
  exact ⟨rfl, Bl.trans b1 s1.same⟩

set_option maxRecDepth 100000 in
set_option maxHeartbeats 1000000 in
theorem ddo_Mul (x y z : Rat) (H : ∀ w, Gd w → Calls Tryz.prog 200 #[.string (rt x), .string (rt y)] w (OpQ z w)) (p : Nat) (w : World) (hS : Sd p w) :
    Calls Tryz.prog 166 #[.pointer (some ⟨p, 0, none⟩), .func (.func 200) #[] #[], .string (rt x), .string (rt y)] w (RB (.string (rt z)) w) := by
  have c := hS.cell
  have H1 := H w hS.g
  clear H
  go_enter Tryz.func166, Tryz.ntmps166
  go_wp2_with fail
  refine H1.mono ?_
  rintro e w1 ⟨rfl, b1⟩
  have s1 := hS.below b1
  have c1 := s1.cell
  have c2 := s1.frozen
  go_wp2_with fail
  go_ret
  exact ⟨rfl, Bl.trans b1 s1.same⟩

set_option maxRecDepth 100000 in
set_option maxHeartbeats 1000000 in
theorem ddo_Div (x y z : Rat) (H : ∀ w, Gd w → Calls Tryz.prog 178 #[.string (rt x), .string (rt y)] w (OpQ z w)) (p : Nat) (w : World) (hS : Sd p w) :
    Calls Tryz.prog 166 #[.pointer (some ⟨p, 0, none⟩), .func (.func 178) #[] #[], .string (rt x), .string (rt y)] w (RB (.string (rt z)) w) := by
  have c := hS.cell
  have H1 := H w hS.g
  clear H
  go_enter Tryz.func166, Tryz.ntmps166
  go_wp2_with fail
  refine H1.mono ?_
  rintro e w1 ⟨rfl, b1⟩
  have s1 := hS.below b1
  have c1 := s1.cell
  have c2 := s1.frozen
  go_wp2_with fail
  go_ret
  exact ⟨rfl, Bl.trans b1 s1.same⟩

set_option maxRecDepth 100000 in
set_option maxHeartbeats 1000000 in
theorem dadd_c {N : Nat} {a b : Rat} (ha : Sm N a) (hb : Sm N b) (hN : N + N < 1024) (p : Nat) (w : World) (hS : Sd p w) :
    Calls Tryz.prog 168 #[.pointer (some ⟨p, 0, none⟩), .string (rt a), .string (rt b)] w (RB (.string (rt (a + b))) w) := by
  have H := fun w h => ddo_Add a b (a + b) (fun w g => rAdd_c ha hb hN w g) p w h
  go_enter Tryz.func168, Tryz.ntmps168
  go_wp2_with fail
  refine (H _ hS).mono ?_
  rintro e w1 ⟨rfl, b1⟩
  have s1 := hS.below b1
  go_wp2_with fail
  go_ret
  exact ⟨rfl, b1⟩

set_option maxRecDepth 100000 in
set_option maxHeartbeats 1000000 in
theorem dsub_c {N : Nat} {a b : Rat} (ha : Sm N a) (hb : Sm N b) (hN : N + N < 1024) (p : Nat) (w : World) (hS : Sd p w) :
    Calls Tryz.prog 124 #[.pointer (some ⟨p, 0, none⟩), .string (rt a), .string (rt b)] w (RB (.string (rt (a - b))) w) := by
  have H := fun w h => ddo_Sub a b (a - b) (fun w g => rSub_c ha hb hN w g) p w h
  go_enter Tryz.func124, Tryz.ntmps124
  go_wp2_with fail
  refine (H _ hS).mono ?_
  rintro e w1 ⟨rfl, b1⟩
  have s1 := hS.below b1
  go_wp2_with fail
  go_ret
  exact ⟨rfl, b1⟩

set_option maxRecDepth 100000 in
set_option maxHeartbeats 1000000 in
theorem dmul_c {N : Nat} {a b : Rat} (ha : Sm N a) (hb : Sm N b) (hN : N + N < 1024) (p : Nat) (w : World) (hS : Sd p w) :
    Calls Tryz.prog 169 #[.pointer (some ⟨p, 0, none⟩), .string (rt a), .string (rt b)] w (RB (.string (rt (a * b))) w) := by
  have H := fun w h => ddo_Mul a b (a * b) (fun w g => rMul_c ha hb hN w g) p w h
  go_enter Tryz.func169, Tryz.ntmps169
  go_wp2_with fail
  refine (H _ hS).mono ?_
  rintro e w1 ⟨rfl, b1⟩
  have s1 := hS.below b1
  go_wp2_with fail
  go_ret
  exact ⟨rfl, b1⟩
end Go.Proofs.YtdknneofiefieaaGreatDoor

namespace Go.Proofs.YtdknneofiefieaaGreatDoor
open Go.RowKit Go.Lib

/-- what a function of sums keeps: the sums, its boxes, all that was there -/
structure Bw (p : Nat) (w : World) (B : List (Nat × Obj)) (x : World) : Prop where
  s : Sd p x
  k : ∀ q ∈ B, x.heap[q.1]? = some q.2
  b : Below w.heap.size w x
  l : p < w.heap.size
  g0 : Gd w
theorem blk_below {w w' : World} {k : Nat} {o : Obj} (h : w.heap[k]? = some o) (hB : Below w.heap.size w w') : w'.heap[k]? = some o := (hB.block k (Array.getElem?_eq_some_iff.1 h).1).trans h
theorem Bw.step {p : Nat} {w x y : World} {B : List (Nat × Obj)} (h : Bw p w B x) (b : Below x.heap.size x y) : Bw p w B y :=
  ⟨h.s.below b, fun q hq => (b.block q.1 (Array.getElem?_eq_some_iff.1 (h.k q hq)).1).trans (h.k q hq), Bl.trans h.b b, h.l, h.g0⟩
theorem Bw.drew {p : Nat} {w x : World} {B : List (Nat × Obj)} (h : Bw p w B x) : Bw p w B x.drew := h.step (Below.refl _ x).drew
theorem Bw.cell {p : Nat} {w x : World} {B : List (Nat × Obj)} (h : Bw p w B x) (i : Nat) {b : Nat} {cs : Array Value} {t : TypeId} (hi : B[i]? = some (b, .cells cs t)) (o : Nat) {v : Value} (hv : cs[o]? = some v) : x.cell? ⟨b, o, none⟩ = some v := by
  have := h.k _ (List.mem_of_getElem? hi)
  rw [cell_of_row x b o cs t _ this]; exact hv
theorem Bw.frozen {p : Nat} {w x : World} {B : List (Nat × Obj)} (h : Bw p w B x) (i : Nat) {b : Nat} {cs : Array Value} {t : TypeId} (hi : B[i]? = some (b, .cells cs t)) (o : Nat) : x.frozen? ⟨b, o, none⟩ = false := by
  have := h.k _ (List.mem_of_getElem? hi)
  simp only at this
  unfold World.frozen?; simp [this]
theorem Bw.new {p : Nat} {w x : World} {B : List (Nat × Obj)} (h : Bw p w B x) (o : Obj) : Bw p w ((x.heap.size, o) :: B) (x.alloc o) := by
  have h1 := h.step ((Below.refl _ x).alloc (Nat.le_refl _) o)
  refine ⟨h1.s, fun q hq => ?_, h1.b, h1.l, h1.g0⟩
  rcases List.mem_cons.1 hq with rfl | hq
  · exact heap_alloc_new x o
  · exact h1.k q hq
theorem Bw.start {p : Nat} {w : World} (h : Sd p w) : Bw p w [] w := ⟨h, fun _ hq => (by cases hq), Below.refl _ w, h.lt, h.g⟩
theorem Bw.box1 {p : Nat} {w : World} (h : Sd p w) (a : Obj) : Bw p w [(w.heap.size, a)] (w.alloc a) := (Bw.start h).new a
theorem Bw.box2 {p : Nat} {w : World} (h : Sd p w) (a b : Obj) : Bw p w [(w.heap.size + 1, b), (w.heap.size, a)] ((w.alloc a).alloc b) := by
  have := (Bw.box1 h a).new b
  rwa [World.size_alloc] at this
theorem Bw.box3 {p : Nat} {w : World} (h : Sd p w) (a b c : Obj) : Bw p w [(w.heap.size + 1 + 1, c), (w.heap.size + 1, b), (w.heap.size, a)] (((w.alloc a).alloc b).alloc c) := by
  have := (Bw.box2 h a b).new c
  rwa [World.size_alloc, World.size_alloc] at this
/-- a box that is no longer looked at may turn -/
theorem Bw.drop {p : Nat} {w x : World} {B B' : List (Nat × Obj)} (h : Bw p w B x) (hB : ∀ q ∈ B', q ∈ B) : Bw p w B' x := ⟨h.s, fun q hq => h.k q (hB q hq), h.b, h.l, h.g0⟩
/-- a box of the function's own takes a value -/
theorem Bw.set {p : Nat} {w x : World} {B : List (Nat × Obj)} (h : Bw p w B x) (i : Nat) {g : Nat} {cs : Array Value} {t : TypeId} (hi : B[i]? = some (g, .cells cs t)) (hg : w.heap.size ≤ g)
    (hne : ∀ j q, B[j]? = some q → j ≠ i → q.1 ≠ g) (o : Nat) (v : Value) : Bw p w (B.set i (g, .cells (cs.setIfInBounds o v) t)) (x.setCell ⟨g, o, none⟩ v) := by
  have hgx := h.k _ (List.mem_of_getElem? hi)
  have other : ∀ k, k ≠ g → (x.setCell ⟨g, o, none⟩ v).heap[k]? = x.heap[k]? := fun k hk => Below.heap_setCell _ _ _ _ hk
  have hB := h.b.setCell (p := ⟨g, o, none⟩) hg v
  have hpg : p ≠ g := by have := h.l; omega
  refine ⟨⟨?_, (other p hpg).trans h.s.out⟩, fun q hq => ?_, hB, h.l, h.g0⟩
  · exact h.g0.below hB
  · obtain ⟨j, hj, rfl⟩ := List.mem_iff_getElem.1 hq
    by_cases hij : j = i
    · subst hij
      simp only [List.getElem_set_self]
      simp only [World.setCell, Array.getElem?_modify, hgx]
      simp
    · rw [List.getElem_set_ne (Ne.symm hij)]
      rw [List.length_set] at hj
      have h1 := List.getElem?_eq_getElem hj
      rw [other _ (hne j _ h1 hij)]
      exact h.k _ (List.getElem_mem hj)
theorem Bw.lt {p : Nat} {w x : World} {B : List (Nat × Obj)} (h : Bw p w B x) : ∀ q ∈ B, q.1 < x.heap.size := fun q hq => (Array.getElem?_eq_some_iff.1 (h.k q hq)).1
theorem Bw.add {p : Nat} {w x : World} {B : List (Nat × Obj)} (h : Bw p w B x) {g : Nat} {o : Obj} (hg : x.heap[g]? = some o) : Bw p w ((g, o) :: B) x :=
  ⟨h.s, fun q hq => (List.mem_cons.1 hq).elim (fun e => e ▸ hg) (h.k q), h.b, h.l, h.g0⟩
theorem Bw.row {p : Nat} {w x : World} {B : List (Nat × Obj)} (h : Bw p w B x) {g : Nat} {old : Array Value} {t : TypeId} (hg : x.heap[g]? = some (.cells old t)) (hlow : w.heap.size ≤ g) (hne : ∀ q ∈ B, q.1 ≠ g) (cs : Array Value) :
    Bw p w ((g, .cells cs t) :: B) (x.setRow g cs) := by
  have other : ∀ k, k ≠ g → (x.setRow g cs).heap[k]? = x.heap[k]? := fun k hk => setRow_other x g k cs hk
  have hB : Below w.heap.size w (x.setRow g cs) := by
    refine ⟨h.b.os, h.b.tape, h.b.output, ?_, fun k hk => ?_⟩
    · have : (x.setRow g cs).heap.size = x.heap.size := by simp [World.setRow]
      rw [this]; exact h.b.size
    · rw [other k (by omega)]; exact h.b.block k hk
  have hpg : p ≠ g := by have := h.l; omega
  refine ⟨⟨h.g0.below hB, (other p hpg).trans h.s.out⟩, fun q hq => ?_, hB, h.l, h.g0⟩
  rcases List.mem_cons.1 hq with rfl | hq
  · exact setRow_heap x g old cs t _ hg
  · rw [other _ (hne q hq)]; exact h.k q hq
theorem hne_of {m g : Nat} {B : List (Nat × Obj)} {o : Obj} (h : ∀ q ∈ B, q.1 < m) (hg : m ≤ g) : ∀ j q, ((g, o) :: B)[j]? = some q → j ≠ 0 → q.1 ≠ g := by
  intro j q hq hj
  cases j with
  | zero => exact (hj rfl).elim
  | succ j =>
    have := h q (List.mem_of_getElem? (by simpa using hq))
    omega
end Go.Proofs.YtdknneofiefieaaGreatDoor

namespace Go.Proofs.YtdknneofiefieaaGreatDoor
open Go.RowKit Go.Lib Dec Rt Geo

set_option maxRecDepth 100000 in
set_option maxHeartbeats 2000000 in
theorem dless_c {N : Nat} {ax ay bx by' : Rat} (h1 : Sm N ax) (h2 : Sm N ay) (h3 : Sm N bx) (h4 : Sm N by') (hN : N + N < 1024) (p : Nat) (w : World) (hS : Sd p w) :
    Calls Tryz.prog 125 #[.pointer (some ⟨p, 0, none⟩), .agg #[.string (rt ax), .string (rt ay)], .agg #[.string (rt bx), .string (rt by')]] w (RB (.agg #[.string (rt (ax - bx)), .string (rt (ay - by'))]) w) := by
  have H1 := fun w s => dsub_c h1 h3 hN p w s
  have H2 := fun w s => dsub_c h2 h4 hN p w s
  clear h1 h2 h3 h4
  generalize rt (ax - bx) = t5 at *
  generalize rt (ay - by') = t6 at *
  generalize rt ax = t1 at *
  generalize rt ay = t2 at *
  generalize rt bx = t3 at *
  generalize rt by' = t4 at *
  obtain ⟨W, hW⟩ : ∃ W, ((w.alloc (.cells #[.string t1, .string t2] 41)).alloc (.cells #[.string t3, .string t4] 41)).alloc (.cells #[.string ⟨#[]⟩, .string ⟨#[]⟩] 41) = W := ⟨_, rfl⟩
  have x0 : Bw p w _ W := hW ▸ Bw.box3 hS _ _ _
  go_enter Tryz.func125, Tryz.ntmps125
  go_wp2_with fail
  clear hW
  refine Reg.walk (by kernel_rfl) 13 (by kernel_rfl) (by decide) (by kernel_rfl) (fun _ => false) (fun _ => [(some 7, .pointer (some ⟨p, 0, none⟩)), (some 8, .pointer (some ⟨w.heap.size, 0, none⟩)), (some 9, .string t1), (some 10, .pointer (some ⟨w.heap.size + 1, 0, none⟩)), (some 11, .string t3), (some 12, .string t5), (some 13, .pointer (some ⟨p, 0, none⟩)), (some 14, .pointer (some ⟨w.heap.size, 1, none⟩)), (some 15, .string t2), (some 16, .pointer (some ⟨w.heap.size + 1, 1, none⟩)), (some 17, .string t4), (some 18, .string t6), (some 19, .agg #[.string t5, .string t6])])
    (fun _ => rfl) (fun _ _ _ => rfl) (fun _ _ _ h => by cases h) (fun _ _ _ => True) (fun _ _ _ _ _ _ => trivial)
    (fun W' => Bw p w [(w.heap.size + 1 + 1, .cells #[.string ⟨#[]⟩, .string ⟨#[]⟩] 41), (w.heap.size + 1, .cells #[.string t3, .string t4] 41), (w.heap.size, .cells #[.string t1, .string t2] 41)] W')
    (x0.drew) ?_ ?_
  · intro i o hi ho Q' a w' hw hon hoff K hK
    match i, hi with
    | 0, _ =>
      obtain rfl := Option.some.inj ho
      clear ho
      have o0 : a.tmps[0]?.getD undef = .pointer (some ⟨p, 0, none⟩) := hoff 0 (by kernel_rfl)
      clear hon hoff
      rw [if_pos (by rfl)]
      go_simp
      exact hK _ _ rfl hw (Below.refl _ _)
    | 1, _ =>
      obtain rfl := Option.some.inj ho
      clear ho
      have o4 : a.tmps[4]?.getD undef = .pointer (some ⟨w.heap.size, 0, none⟩) := hoff 4 (by kernel_rfl)
      clear hon hoff
      rw [if_pos (by rfl)]
      go_simp
      exact hK _ _ rfl hw (Below.refl _ _)
    | 2, _ =>
      obtain rfl := Option.some.inj ho
      clear ho
      have o8 : a.tmps[8]?.getD undef = .pointer (some ⟨w.heap.size, 0, none⟩) := (Option.some.inj (hon 1 _ _ (by kernel_rfl) (by decide) rfl rfl rfl)).symm
      clear hon hoff
      rw [if_pos (by rfl)]
      have c1_0 := hw.cell 1 rfl 0 rfl
      have c1_1 := hw.cell 1 rfl 1 rfl
      have c2_0 := hw.cell 2 rfl 0 rfl
      have c2_1 := hw.cell 2 rfl 1 rfl
      go_simp
      exact hK _ _ rfl hw (Below.refl _ _)
    | 3, _ =>
      obtain rfl := Option.some.inj ho
      clear ho
      have o5 : a.tmps[5]?.getD undef = .pointer (some ⟨w.heap.size + 1, 0, none⟩) := hoff 5 (by kernel_rfl)
      clear hon hoff
      rw [if_pos (by rfl)]
      go_simp
      exact hK _ _ rfl hw (Below.refl _ _)
    | 4, _ =>
      obtain rfl := Option.some.inj ho
      clear ho
      have o10 : a.tmps[10]?.getD undef = .pointer (some ⟨w.heap.size + 1, 0, none⟩) := (Option.some.inj (hon 3 _ _ (by kernel_rfl) (by decide) rfl rfl rfl)).symm
      clear hon hoff
      rw [if_pos (by rfl)]
      have c1_0 := hw.cell 1 rfl 0 rfl
      have c1_1 := hw.cell 1 rfl 1 rfl
      have c2_0 := hw.cell 2 rfl 0 rfl
      have c2_1 := hw.cell 2 rfl 1 rfl
      go_simp
      exact hK _ _ rfl hw (Below.refl _ _)
    | 5, _ =>
      obtain rfl := Option.some.inj ho
      clear ho
      have o7 : a.tmps[7]?.getD undef = .pointer (some ⟨p, 0, none⟩) := (Option.some.inj (hon 0 _ _ (by kernel_rfl) (by decide) rfl rfl rfl)).symm
      have o9 : a.tmps[9]?.getD undef = .string t1 := (Option.some.inj (hon 2 _ _ (by kernel_rfl) (by decide) rfl rfl rfl)).symm
      have o11 : a.tmps[11]?.getD undef = .string t3 := (Option.some.inj (hon 4 _ _ (by kernel_rfl) (by decide) rfl rfl rfl)).symm
      clear hon hoff
      rw [if_pos (by rfl)]
      go_simp
      refine (H1 _ hw.s).mono ?_
      rintro e w1 ⟨rfl, b1⟩
      exact hK _ _ rfl (hw.step b1) b1
    | 6, _ =>
      obtain rfl := Option.some.inj ho
      clear ho
      have o0 : a.tmps[0]?.getD undef = .pointer (some ⟨p, 0, none⟩) := hoff 0 (by kernel_rfl)
      clear hon hoff
      rw [if_pos (by rfl)]
      go_simp
      exact hK _ _ rfl hw (Below.refl _ _)
    | 7, _ =>
      obtain rfl := Option.some.inj ho
      clear ho
      have o4 : a.tmps[4]?.getD undef = .pointer (some ⟨w.heap.size, 0, none⟩) := hoff 4 (by kernel_rfl)
      clear hon hoff
      rw [if_pos (by rfl)]
      go_simp
      exact hK _ _ rfl hw (Below.refl _ _)
    | 8, _ =>
      obtain rfl := Option.some.inj ho
      clear ho
      have o14 : a.tmps[14]?.getD undef = .pointer (some ⟨w.heap.size, 1, none⟩) := (Option.some.inj (hon 7 _ _ (by kernel_rfl) (by decide) rfl rfl rfl)).symm
      clear hon hoff
      rw [if_pos (by rfl)]
      have c1_0 := hw.cell 1 rfl 0 rfl
      have c1_1 := hw.cell 1 rfl 1 rfl
      have c2_0 := hw.cell 2 rfl 0 rfl
      have c2_1 := hw.cell 2 rfl 1 rfl
      go_simp
      exact hK _ _ rfl hw (Below.refl _ _)
    | 9, _ =>
      obtain rfl := Option.some.inj ho
      clear ho
      have o5 : a.tmps[5]?.getD undef = .pointer (some ⟨w.heap.size + 1, 0, none⟩) := hoff 5 (by kernel_rfl)
      clear hon hoff
      rw [if_pos (by rfl)]
      go_simp
      exact hK _ _ rfl hw (Below.refl _ _)
    | 10, _ =>
      obtain rfl := Option.some.inj ho
      clear ho
      have o16 : a.tmps[16]?.getD undef = .pointer (some ⟨w.heap.size + 1, 1, none⟩) := (Option.some.inj (hon 9 _ _ (by kernel_rfl) (by decide) rfl rfl rfl)).symm
      clear hon hoff
      rw [if_pos (by rfl)]
      have c1_0 := hw.cell 1 rfl 0 rfl
      have c1_1 := hw.cell 1 rfl 1 rfl
      have c2_0 := hw.cell 2 rfl 0 rfl
      have c2_1 := hw.cell 2 rfl 1 rfl
      go_simp
      exact hK _ _ rfl hw (Below.refl _ _)
    | 11, _ =>
      obtain rfl := Option.some.inj ho
      clear ho
      have o13 : a.tmps[13]?.getD undef = .pointer (some ⟨p, 0, none⟩) := (Option.some.inj (hon 6 _ _ (by kernel_rfl) (by decide) rfl rfl rfl)).symm
      have o15 : a.tmps[15]?.getD undef = .string t2 := (Option.some.inj (hon 8 _ _ (by kernel_rfl) (by decide) rfl rfl rfl)).symm
      have o17 : a.tmps[17]?.getD undef = .string t4 := (Option.some.inj (hon 10 _ _ (by kernel_rfl) (by decide) rfl rfl rfl)).symm
      clear hon hoff
      rw [if_pos (by rfl)]
      go_simp
      refine (H2 _ hw.s).mono ?_
      rintro e w1 ⟨rfl, b1⟩
      exact hK _ _ rfl (hw.step b1) b1
    | 12, _ =>
      obtain rfl := Option.some.inj ho
      clear ho
      have o12 : a.tmps[12]?.getD undef = .string t5 := (Option.some.inj (hon 5 _ _ (by kernel_rfl) (by decide) rfl rfl rfl)).symm
      have o18 : a.tmps[18]?.getD undef = .string t6 := (Option.some.inj (hon 11 _ _ (by kernel_rfl) (by decide) rfl rfl rfl)).symm
      clear hon hoff
      rw [if_pos (by rfl)]
      go_simp
      exact hK _ _ rfl hw (Below.refl _ _)
    | i + 13, h => exact absurd h (by omega)
  · intro g w' hw _ _
    have r1 := hw.cell 0 rfl 0 rfl
    have r2 := hw.cell 0 rfl 1 rfl
    have r3 := hw.frozen 0 rfl 0
    have r4 := hw.frozen 0 rfl 1
    simp only [List.drop_succ_cons, List.drop_zero, Reg.puts, Act.put, List.setIfInBounds_toArray, List.set_cons_succ, List.set_cons_zero]
    go_wp2_with fail
    try simp only [Exit.then]
    refine bodyPost_ret (v := .agg #[.string t5, .string t6]) ?_ rfl ⟨rfl, (hw.b.setCell (p := ⟨w.heap.size + 1 + 1, 0, none⟩) (by simp; omega) _).setCell (p := ⟨w.heap.size + 1 + 1, 1, none⟩) (by simp; omega) _⟩
    have k0 : (w'.setCell ⟨w.heap.size + 1 + 1, 0, none⟩ (.string t5)).cell? ⟨w.heap.size + 1 + 1, 0, none⟩ = some (.string t5) := World.cell?_setCell_same' _ _ _ (by rw [r1]; rfl)
    have k1 : ((w'.setCell ⟨w.heap.size + 1 + 1, 0, none⟩ (.string t5)).setCell ⟨w.heap.size + 1 + 1, 1, none⟩ (.string t6)).cell? ⟨w.heap.size + 1 + 1, 1, none⟩ = some (.string t6) := World.cell?_setCell_same' _ _ _ (by rw [World.cell?_setCell_other _ _ _ _ (by simp), r2]; rfl)
    simp [results, Tryz.f125, go_sem, k0, k1]
end Go.Proofs.YtdknneofiefieaaGreatDoor
