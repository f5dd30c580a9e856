import Derived.ProofKit
import Derived.Deep.Slices
import Derived.Lib.SmallJoins
import Derived.Stop.LaidErr
import Derived.MakeChecks
import Derived.Lib.LaidTab
import Derived.Test.YtdknneofiefieaaGreatDoorRig

namespace Go.Proofs.YtdknneofiefieaaGreatDoor
open Go.RowKit Go.Lib Go.Joins Go.ChangeShapes Go.WideShapes Go.Deep Sh

section
variable {H : Type} {enc : TypeId × Value → H} {w : World} {base : Nat} {spare : Nat → Bool} {held : Bool}

theorem ci1 : Tryz.prog.cellsOf 3 = 1 := by kernel_rfl
theorem cb1 : Tryz.prog.cellsOf 4 = 1 := by kernel_rfl
theorem cp2 : Tryz.prog.cellsOf 73 = 2 := by kernel_rfl
theorem cl2 : Tryz.prog.cellsOf 83 = 2 := by kernel_rfl
theorem ct7 : Tryz.prog.cellsOf 85 = 7 := by kernel_rfl
theorem cc3 : Tryz.prog.cellsOf 75 = 3 := by kernel_rfl
theorem ck3 : Tryz.prog.cellsOf 25 = 3 := by kernel_rfl

theorem list2 {α : Type} {l : List α} (h : l.length = 2) : ∃ a b, l = [a, b] := by
  match l, h with
  | [a, b], _ => exact ⟨a, b, rfl⟩
theorem list3 {α : Type} {l : List α} (h : l.length = 3) : ∃ a b c, l = [a, b, c] := by
  match l, h with
  | [a, b, c], _ => exact ⟨a, b, c, rfl⟩
theorem list7 {α : Type} {l : List α} (h : l.length = 7) : ∃ a b c d e f g, l = [a, b, c, d, e, f, g] := by
  match l, h with
  | [a, b, c, d, e, f, g], _ => exact ⟨a, b, c, d, e, f, g, rfl⟩
theorem trod_i {fuel : Nat} {v : Value} {y : DataW H × List MemPlace} (h : DataW.trod enc Tryz.prog w base spare held fuel 3 [v] = some y) : ∃ n, v = .int .i64 n := by
  obtain ⟨n, e, _⟩ := DataW.trod_int Tryz.underlying3 h
  cases e; exact ⟨n, rfl⟩
theorem trod_b {fuel : Nat} {v : Value} {y : DataW H × List MemPlace} (h : DataW.trod enc Tryz.prog w base spare held fuel 4 [v] = some y) : ∃ b, v = .bool b := by
  obtain ⟨n, e, _⟩ := DataW.trod_bool Tryz.underlying4 h
  cases e; exact ⟨n, rfl⟩
theorem trod_pt {fuel : Nat} {cs : List Value} {y : DataW H × List MemPlace} (h : DataW.trod enc Tryz.prog w base spare held fuel 73 cs = some y) : ∃ a b, cs = [.int .i64 a, .int .i64 b] := by
  obtain ⟨y0, y1, n, _, hl, h0, h1⟩ := trod_struct2 Tryz.underlying73 h
  rw [cp2] at hl
  obtain ⟨v0, v1, rfl⟩ := list2 hl
  simp only [ci1] at h0 h1
  obtain ⟨a, rfl⟩ := trod_i h0
  obtain ⟨b, rfl⟩ := trod_i h1
  exact ⟨a, b, rfl⟩
theorem trod_lm {fuel : Nat} {cs : List Value} {y : DataW H × List MemPlace} (h : DataW.trod enc Tryz.prog w base spare held fuel 83 cs = some y) : ∃ a b, cs = [.int .i64 a, .int .i64 b] := by
  obtain ⟨y0, y1, n, _, hl, h0, h1⟩ := trod_struct2 Tryz.underlying83 h
  rw [cl2] at hl
  obtain ⟨v0, v1, rfl⟩ := list2 hl
  simp only [ci1] at h0 h1
  obtain ⟨a, rfl⟩ := trod_i h0
  obtain ⟨b, rfl⟩ := trod_i h1
  exact ⟨a, b, rfl⟩
theorem trod_ci {fuel : Nat} {cs : List Value} {y : DataW H × List MemPlace} (h : DataW.trod enc Tryz.prog w base spare held fuel 75 cs = some y) : ∃ c : Ci, cs = [.int .i64 c.x, .int .i64 c.y, .int .i64 c.n] := by
  obtain ⟨y0, y1, n, _, hl, h0, h1⟩ := trod_struct2 Tryz.underlying75 h
  rw [cc3] at hl
  obtain ⟨v0, v1, v2, rfl⟩ := list3 hl
  simp only [ci1, cp2] at h0 h1
  obtain ⟨a, b, e⟩ := trod_pt h0
  obtain ⟨c, rfl⟩ := trod_i h1
  simp at e
  obtain ⟨rfl, rfl⟩ := e
  exact ⟨⟨a, b, c⟩, rfl⟩
theorem trod_tg {fuel : Nat} {cs : List Value} {y : DataW H × List MemPlace} (h : DataW.trod enc Tryz.prog w base spare held fuel 85 cs = some y) :
    ∃ t : Tg, cs = [.int .i64 t.x, .int .i64 t.y, .int .i64 t.lo, .int .i64 t.hi, .int .i64 t.tol, .int .i64 t.mat, .bool t.pin] := by
  obtain ⟨xs, n, _, _, hl, hlen, hf⟩ := DataW.trod_struct Tryz.underlying85 h
  rw [ct7] at hl
  obtain ⟨v0, v1, v2, v3, v4, v5, v6, rfl⟩ := list7 hl
  have hlen : xs.length = 5 := hlen
  have h0 : DataW.trod enc Tryz.prog w base spare held n 73 (([v0, v1, v2, v3, v4, v5, v6].drop 0).take (Tryz.prog.cellsOf 73)) = some xs[0] := by
    have h := hf 0 _ rfl
    rw [List.getElem?_eq_getElem (by omega)] at h
    exact h
  rw [cp2] at h0
  have h1 : DataW.trod enc Tryz.prog w base spare held n 83 (([v0, v1, v2, v3, v4, v5, v6].drop 2).take (Tryz.prog.cellsOf 83)) = some xs[1] := by
    have h := hf 1 _ rfl
    rw [List.getElem?_eq_getElem (by omega)] at h
    exact h
  rw [cl2] at h1
  have h2 : DataW.trod enc Tryz.prog w base spare held n 3 (([v0, v1, v2, v3, v4, v5, v6].drop 4).take (Tryz.prog.cellsOf 3)) = some xs[2] := by
    have h := hf 2 _ rfl
    rw [List.getElem?_eq_getElem (by omega)] at h
    exact h
  rw [ci1] at h2
  have h3 : DataW.trod enc Tryz.prog w base spare held n 3 (([v0, v1, v2, v3, v4, v5, v6].drop 5).take (Tryz.prog.cellsOf 3)) = some xs[3] := by
    have h := hf 3 _ rfl
    rw [List.getElem?_eq_getElem (by omega)] at h
    exact h
  rw [ci1] at h3
  have h4 : DataW.trod enc Tryz.prog w base spare held n 4 (([v0, v1, v2, v3, v4, v5, v6].drop 6).take (Tryz.prog.cellsOf 4)) = some xs[4] := by
    have h := hf 4 _ rfl
    rw [List.getElem?_eq_getElem (by omega)] at h
    exact h
  rw [cb1] at h4
  obtain ⟨a, b, e⟩ := trod_pt h0
  obtain ⟨c, d, e'⟩ := trod_lm h1
  obtain ⟨t, rfl⟩ := trod_i h2
  obtain ⟨m, rfl⟩ := trod_i h3
  obtain ⟨p, rfl⟩ := trod_b h4
  simp at e e'
  obtain ⟨rfl, rfl⟩ := e
  obtain ⟨rfl, rfl⟩ := e'
  exact ⟨⟨a, b, c, d, t, m, p⟩, rfl⟩

/-- an address behind which a cell can be read is plain -/
theorem plain_of {a : Addr} {v : Value} (h : w.cell? a = some v) : a = ⟨a.block, a.off, none⟩ := by
  have := World.cell?_spot h
  obtain ⟨b, o, s⟩ := a
  simp only at this
  rw [this]
theorem add_plain (b o i : Nat) : (⟨b, o, none⟩ : Addr).add i = ⟨b, o + i, none⟩ := by
  unfold Addr.add; split <;> simp_all

/-- a slice of targets, opened -/
theorem open_tgs {fuel : Nat} {cs : List Value} {y : DataW H × List MemPlace} (h : DataW.trod enc Tryz.prog w base spare held fuel 22 cs = some y) :
    ∃ (p : Option Addr) (cap : Nat) (ts : List Tg), cs = [.slice p ts.length cap] ∧ TL w p ts := by
  rcases open_slice Tryz.underlying22 h with ⟨rfl, _⟩ | ⟨a, len, cap, m, n, D, Pl, rfl, _, hlc, _, hm, _, hx⟩
  · exact ⟨none, 0, [], rfl, ⟨fun k t e => by simp at e⟩⟩
  · have hlm : len ≤ m := by rw [hm]; split <;> omega
    rw [ct7] at hx
    obtain ⟨T, hT⟩ := choose_lt (α := Tg) (n := len) (p := fun i t => ∀ j v, ([Value.int .i64 t.x, .int .i64 t.y, .int .i64 t.lo, .int .i64 t.hi, .int .i64 t.tol, .int .i64 t.mat, .bool t.pin])[j]? = some v → w.cell? ((a.add (i * 7)).add j) = some v) (fun i hi => by
      obtain ⟨cs', h1, h2⟩ := hx i (by omega)
      obtain ⟨t, rfl⟩ := trod_tg h2
      obtain ⟨_, _, hc⟩ := World.cells?_some h1
      refine ⟨t, fun j v hj => ?_⟩
      have hj7 : j < 7 := by have := (List.getElem?_eq_some_iff.1 hj).1; simpa using this
      rw [hc j hj7]; exact hj)
    refine ⟨some a, cap, (List.range len).map T, by simp, ⟨fun k t e => ?_⟩⟩
    rw [List.getElem?_map] at e
    obtain ⟨k', hk', rfl⟩ := Option.map_eq_some_iff.1 e
    obtain ⟨hk, hkk⟩ := List.getElem?_eq_some_iff.1 hk'
    simp at hk hkk
    subst hkk
    have c := hT k hk
    have hz := hT 0 (by omega) 0 _ rfl
    have hp : a = ⟨a.block, a.off, none⟩ := by
      have := plain_of hz
      obtain ⟨b, o, s⟩ := a
      simpa [Addr.add] using this
    rw [hp] at c ⊢
    simp only [add_plain] at c
    exact ⟨a.block, a.off, rfl, ⟨c 0 _ rfl, c 1 _ rfl, c 2 _ rfl, c 3 _ rfl, c 4 _ rfl, c 5 _ rfl, c 6 _ rfl⟩⟩
/-- a slice of circles, opened -/
theorem open_cis {fuel : Nat} {cs : List Value} {y : DataW H × List MemPlace} (h : DataW.trod enc Tryz.prog w base spare held fuel 23 cs = some y) :
    ∃ (p : Option Addr) (cap : Nat) (ts : List Ci), cs = [.slice p ts.length cap] ∧ CL w p ts := by
  rcases open_slice Tryz.underlying23 h with ⟨rfl, _⟩ | ⟨a, len, cap, m, n, D, Pl, rfl, _, hlc, _, hm, _, hx⟩
  · exact ⟨none, 0, [], rfl, ⟨fun k t e => by simp at e⟩⟩
  · have hlm : len ≤ m := by rw [hm]; split <;> omega
    rw [cc3] at hx
    obtain ⟨T, hT⟩ := choose_lt (α := Ci) (n := len) (p := fun i t => ∀ j v, ([Value.int .i64 t.x, .int .i64 t.y, .int .i64 t.n])[j]? = some v → w.cell? ((a.add (i * 3)).add j) = some v) (fun i hi => by
      obtain ⟨cs', h1, h2⟩ := hx i (by omega)
      obtain ⟨t, rfl⟩ := trod_ci h2
      obtain ⟨_, _, hc⟩ := World.cells?_some h1
      refine ⟨t, fun j v hj => ?_⟩
      have hj7 : j < 3 := by have := (List.getElem?_eq_some_iff.1 hj).1; simpa using this
      rw [hc j hj7]; exact hj)
    refine ⟨some a, cap, (List.range len).map T, by simp, ⟨fun k t e => ?_⟩⟩
    rw [List.getElem?_map] at e
    obtain ⟨k', hk', rfl⟩ := Option.map_eq_some_iff.1 e
    obtain ⟨hk, hkk⟩ := List.getElem?_eq_some_iff.1 hk'
    simp at hk hkk
    subst hkk
    have c := hT k hk
    have hz := hT 0 (by omega) 0 _ rfl
    have hp : a = ⟨a.block, a.off, none⟩ := by
      have := plain_of hz
      obtain ⟨b, o, s⟩ := a
      simpa [Addr.add] using this
    rw [hp] at c ⊢
    simp only [add_plain] at c
    exact ⟨a.block, a.off, rfl, ⟨c 0 _ rfl, c 1 _ rfl, c 2 _ rfl⟩⟩

set_option maxRecDepth 100000 in
/-- a task, opened -/
theorem open_task {r : Reach} {b0 : Nat} {v : Value} {d : DataW H} {p : List MemPlace} (hv : Value.okWide Tryz.prog w r b0 25 v) (h : DataW.Trod enc Tryz.prog w base spare held 25 v d p) :
    ∃ (q q' : Option Addr) (cp cp' : Nat) (ts : List Tg) (cs : List Ci) (play : Int), v = .agg (tkg q ts.length cp q' cs.length cp' play) ∧ TL w q ts ∧ CL w q' cs := by
  obtain ⟨v0, v1, v2, y0, y1, y2, n, rfl, _, _, h0, h1, h2⟩ := open_agg3 Tryz.underlying25 (by kernel_rfl) ck3 hv h
  obtain ⟨q, cp, ts, e0, hT⟩ := open_tgs h0
  obtain ⟨q', cp', cs, e1, hC⟩ := open_cis h1
  obtain ⟨play, e2⟩ := trod_i h2
  cases e0; cases e1; subst e2
  exact ⟨q, q', cp, cp', ts, cs, play, rfl, hT, hC⟩
end
end Go.Proofs.YtdknneofiefieaaGreatDoor
