import Derived.Deep.QuietTactic
import Derived.BigQuiet
import Derived.Test.YtdknneofiefieaaGreatDoorGe
import Derived.Test.YtdknneofiefieaaGreatDoorGa

namespace Go.Proofs.YtdknneofiefieaaGreatDoor
open Go.RowKit Go.Lib Dec Wd

/-- the cells of a wide: its sign, how many words it has, the words -/
def wcells (s : Bool) (n : Nat) (f : Nat → Nat) : Array Value := (.bool s :: .int .i64 n :: (List.range 232).map (fun i => Value.int .i64 (f i : Nat))).toArray
theorem wcells_size (s : Bool) (n : Nat) (f : Nat → Nat) : (wcells s n f).size = 234 := by simp [wcells]
theorem wcells_word {s : Bool} {n : Nat} {f : Nat → Nat} {i : Nat} (h : i < 232) : (wcells s n f)[2 + i]? = some (.int .i64 (f i : Nat)) := by
  unfold wcells
  rw [Nat.add_comm]
  simp [h]

/-- block b of w is a wide -/
structure WB (w : World) (b : Nat) (s : Bool) (n : Nat) (f : Nat → Nat) : Prop where
  out : w.heap[b]? = some (.cells (wcells s n f) 180 (0, 0))

theorem WB.lt {w : World} {b : Nat} {s : Bool} {n : Nat} {f : Nat → Nat} (h : WB w b s n f) : b < w.heap.size := (Array.getElem?_eq_some_iff.1 h.out).1
theorem WB.below {w w' : World} {b : Nat} {s : Bool} {n : Nat} {f : Nat → Nat} (h : WB w b s n f) {B : Nat} (hb : Below B w w') (hB : b < B) : WB w' b s n f := ⟨(hb.block b hB).trans h.out⟩
theorem WB.cell0 {w : World} {b : Nat} {s : Bool} {n : Nat} {f : Nat → Nat} (h : WB w b s n f) : w.cell? ⟨b, 0, none⟩ = some (.bool s) := by
  unfold World.cell?; simp only [h.out]; rfl
theorem WB.cell1 {w : World} {b : Nat} {s : Bool} {n : Nat} {f : Nat → Nat} (h : WB w b s n f) : w.cell? ⟨b, 1, none⟩ = some (.int .i64 n) := by
  unfold World.cell?; simp only [h.out]; rfl
theorem WB.word {w : World} {b : Nat} {s : Bool} {n : Nat} {f : Nat → Nat} (h : WB w b s n f) {i : Nat} (hi : i < 232) : w.cell? ⟨b, 2 + i, none⟩ = some (.int .i64 (f i : Nat)) := by
  unfold World.cell?; simp only [h.out]; exact wcells_word hi
theorem WB.frozen {w : World} {b : Nat} {s : Bool} {n : Nat} {f : Nat → Nat} (h : WB w b s n f) (o : Nat) : w.frozen? ⟨b, o, none⟩ = false := by
  unfold World.frozen?; simp only [h.out]; simp
theorem WB.drew {w : World} {b : Nat} {s : Bool} {n : Nat} {f : Nat → Nat} (h : WB w b s n f) : WB w.drew b s n f := ⟨h.out⟩
theorem WB.drewN {w : World} {b : Nat} {s : Bool} {n : Nat} {f : Nat → Nat} (h : WB w b s n f) (k : Nat) : WB (w.drewN k) b s n f := ⟨h.out⟩
theorem WB.setN {w : World} {b : Nat} {s : Bool} {n : Nat} {f : Nat → Nat} (h : WB w b s n f) (m : Nat) : WB (w.setCell ⟨b, 1, none⟩ (.int .i64 m)) b s m f := by
  refine ⟨?_⟩
  simp only [World.setCell, Array.getElem?_modify, h.out]
  simp [wcells]
theorem WB.setWord {w : World} {b : Nat} {s : Bool} {n : Nat} {f : Nat → Nat} (h : WB w b s n f) {i : Nat} (hi : i < 232) (x : Nat) :
    WB (w.setCell ⟨b, 2 + i, none⟩ (.int .i64 x)) b s n (fun j => if j = i then x else f j) := by
  refine ⟨?_⟩
  simp only [World.setCell, Array.getElem?_modify, h.out]
  simp only [Option.map_some, if_true, Option.isSome_none, Bool.false_eq_true, if_false]
  congr 2
  unfold wcells
  rw [Nat.add_comm]
  simp only [List.setIfInBounds_toArray, List.set_cons_succ]
  congr 3
  apply List.ext_getElem?
  intro j
  rw [List.getElem?_set]
  by_cases hj : j < 232
  · by_cases e : i = j
    · subst e; simp [hj]
    · have e' : ¬ j = i := fun h => e h.symm
      simp [hj, e, e']
  · simp [hj]; omega
theorem WB.other {w : World} {b : Nat} {s : Bool} {n : Nat} {f : Nat → Nat} (h : WB w b s n f) {p : Addr} (hp : b ≠ p.block) (v : Value) : WB (w.setCell p v) b s n f :=
  ⟨(Below.heap_setCell w p v b hp).trans h.out⟩
theorem WB.congr {w : World} {b : Nat} {s : Bool} {n : Nat} {f g : Nat → Nat} (h : WB w b s n f) (e : ∀ i, i < 232 → f i = g i) : WB w b s n g := by
  refine ⟨h.out.trans ?_⟩
  congr 2
  unfold wcells
  congr 3
  apply List.map_congr_left
  intro i hi
  rw [e i (List.mem_range.1 hi)]

/-- block b alone has turned; new blocks may have come -/
structure Ch (b : Nat) (w w' : World) : Prop where
  os : w'.os = w.os
  tape : w'.tape = w.tape
  output : w'.output = w.output
  size : w.heap.size ≤ w'.heap.size
  block : ∀ k, k < w.heap.size → k ≠ b → w'.heap[k]? = w.heap[k]?
theorem Ch.refl (b : Nat) (w : World) : Ch b w w := ⟨rfl, rfl, rfl, Nat.le_refl _, fun _ _ _ => rfl⟩
theorem Ch.trans {b : Nat} {x y z : World} (h : Ch b x y) (k : Ch b y z) : Ch b x z :=
  ⟨k.os.trans h.os, k.tape.trans h.tape, k.output.trans h.output, Nat.le_trans h.size k.size, fun i hi hb => (k.block i (Nat.lt_of_lt_of_le hi h.size) hb).trans (h.block i hi hb)⟩
theorem Ch.of {b : Nat} {x y : World} (h : Below x.heap.size x y) : Ch b x y := ⟨h.os, h.tape, h.output, h.size, fun k hk _ => h.block k hk⟩
theorem Ch.drew {b : Nat} {x y : World} (h : Ch b x y) : Ch b x y.drew := ⟨h.os, h.tape, h.output, h.size, h.block⟩
theorem Ch.drewN {b : Nat} {x y : World} (h : Ch b x y) (n : Nat) : Ch b x (y.drewN n) := ⟨h.os, h.tape, h.output, h.size, h.block⟩
theorem Ch.alloc {b : Nat} {x y : World} (h : Ch b x y) (o : Obj) : Ch b x (y.alloc o) := h.trans (.of ((Below.refl _ y).alloc (Nat.le_refl _) o))
theorem Ch.set {b : Nat} {x y : World} (h : Ch b x y) (o : Nat) (v : Value) : Ch b x (y.setCell ⟨b, o, none⟩ v) :=
  h.trans ⟨rfl, rfl, rfl, by simp, fun k _ hb => Below.heap_setCell _ _ _ _ hb⟩
/-- the block that has turned is the caller's own -/
theorem Ch.below {b B : Nat} {x y : World} (h : Ch b x y) (hB : B ≤ b) (hx : B ≤ x.heap.size) : Below B x y :=
  ⟨h.os, h.tape, h.output, h.size, fun k hk => h.block k (by omega) (by omega)⟩
theorem WB.ch {w w' : World} {b c : Nat} {s : Bool} {n : Nat} {f : Nat → Nat} (h : WB w b s n f) (hc : Ch c w w') (hne : b ≠ c) : WB w' b s n f := ⟨(hc.block b h.lt hne).trans h.out⟩

set_option maxHeartbeats 400000 in
/-- trimmed: words of 0 are left out -/
theorem trimmed_c (b : Nat) (s : Bool) (v n : Nat) (hn : nw v ≤ n) (hn2 : n ≤ 232) (w : World) (h : WB w b s n (wd v)) :
    Calls Tryz.prog 157 #[.pointer (some ⟨b, 0, none⟩)] w fun e w' => e = .returned (.pointer (some ⟨b, 0, none⟩)) ∧ WB w' b s (nw v) (wd v) ∧ Ch b w w' := by
  go_enter Tryz.func157, Tryz.ntmps157
  go_wp2
  go_loopg [] n (fun m wr => nw v ≤ m ∧ m ≤ n ∧ WB wr b s m (wd v) ∧ Ch b w wr)
  case atStart => exact ⟨hn, Nat.le_refl _, h, Ch.refl _ _⟩
  case round =>
    obtain ⟨h1, h2, hW, hC⟩ := hrel
    have c1 := hW.cell1
    have f1 := hW.frozen 1
    by_cases h0 : gk = 0
    · subst h0
      have hv : nw v = 0 := by omega
      clear f1
      go_wp2
      go_quiet (fail)
      go_wp2
      go_ret
      exact ⟨rfl, by rw [hv]; exact hW.drewN _, hC.drewN _⟩
    · obtain ⟨k, rfl⟩ : ∃ k, gk = k + 1 := ⟨gk - 1, by omega⟩
      have c2 := hW.word (i := k) (by omega)
      by_cases hz : wd v k = 0
      · have hb : ((wd v k : Int) == 0) = true := by rw [hz]; rfl
        have hk := nw_trim h1 hz
        clear hz
        go_wp2
        go_quiet (fail)
        go_wp2
        go_roundg k
        case measure => omega
        case rel =>
          exact ⟨hk, by omega, by first | exact (hW.drewN _).setN k | exact (hW.setN k).drewN _, by first | exact (hC.drewN _).set 1 _ | exact (hC.set 1 _).drewN _⟩
      · have hb : ((wd v k : Int) == 0) = false := by rw [beq_eq_false_iff_ne]; omega
        have hk := trim_ne h1 hz
        clear hz
        go_wp2
        go_quiet (fail)
        go_wp2
        go_ret
        exact ⟨rfl, by rw [hk]; exact hW.drewN _, hC.drewN _⟩

theorem div_eq {x y k : Nat} (h : x / B ^ (k + 1) = y / B ^ (k + 1)) (hw : wd x k = wd y k) : x / B ^ k = y / B ^ k := by
  have e : ∀ v, v / B ^ k = v / B ^ (k + 1) * B + wd v k := by
    intro v
    unfold wd
    rw [Nat.pow_succ, ← Nat.div_div_eq_div_mul]
    have := Nat.div_add_mod (v / B ^ k) B
    rw [Nat.mul_comm] at this; exact this.symm
  rw [e, e, h, hw]
theorem div_lt {x y k : Nat} (h : x / B ^ (k + 1) = y / B ^ (k + 1)) (hw : wd x k < wd y k) : x < y := by
  have e : ∀ v, v / B ^ k = v / B ^ (k + 1) * B + wd v k := by
    intro v
    unfold wd
    rw [Nat.pow_succ, ← Nat.div_div_eq_div_mul]
    have := Nat.div_add_mod (v / B ^ k) B
    rw [Nat.mul_comm] at this; exact this.symm
  refine Classical.byContradiction fun hn => ?_
  have := Nat.div_le_div_right (c := B ^ k) (show y ≤ x by omega)
  rw [e, e, h] at this
  omega
theorem nw_lt {x y : Nat} (h : nw x < nw y) : x < y := by
  have hy : y ≠ 0 := by intro e; subst e; rw [nw_zero] at h; omega
  have h1 := le_nw hy
  have h2 : x < B ^ (nw y - 1) := nw_le.1 (by omega)
  omega

/-- what beyond tells -/
def BeyR (x y : Nat) (w : World) (e : Ending) (w' : World) : Prop := ∃ r : Int, e = .returned (.int .i64 r) ∧ (0 ≤ r ↔ y ≤ x) ∧ ∃ q, w' = w.drewN q

set_option maxHeartbeats 1000000 in
theorem beyond_c (bx c : Nat) (sx sy : Bool) (x y : Nat) (hx : nw x ≤ 232) (hy : nw y ≤ 232) (w : World) (h : WB w bx sx (nw x) (wd x)) (k : WB w c sy (nw y) (wd y)) :
    Calls Tryz.prog 159 #[.pointer (some ⟨bx, 0, none⟩), .pointer (some ⟨c, 0, none⟩)] w (BeyR x y w) := by
  have c1 := h.cell1
  have c2 := k.cell1
  have l1 := @nw_lt x y
  have l2 := @nw_lt y x
  generalize hnx : nw x = n at *
  generalize hny : nw y = m at *
  by_cases hne : n = m
  · subst hne
    go_enter Tryz.func159, Tryz.ntmps159
    go_wp2
    go_quiet (fail)
    go_wp2
    go_loopg [5] n (fun m i wr => m ≤ n ∧ i = .int .i64 ((m : Int) - 1) ∧ x / B ^ m = y / B ^ m ∧ ∃ q, wr = w.drewN q)
    case atStart =>
      refine ⟨Nat.le_refl _, rfl, ?_, _, rfl⟩
      have h1 := lt_nw x; have h2 := lt_nw y
      rw [hnx] at h1; rw [hny] at h2
      rw [Nat.div_eq_of_lt h1, Nat.div_eq_of_lt h2]
    case round =>
      obtain ⟨hm, rfl, he, q, rfl⟩ := hrel
      have HE := Lib.hid he
      have HNX := Lib.hid hnx
      have HNY := Lib.hid hny
      clear he hnx hny l1 l2
      by_cases h0 : gk = 0
      · subst h0
        go_wp2
        go_ret
        have e := HE.out
        simp only [Nat.pow_zero, Nat.div_one] at e
        exact ⟨0, rfl, by omega, q, rfl⟩
      · obtain ⟨j, rfl⟩ : ∃ j, gk = j + 1 := ⟨gk - 1, by omega⟩
        have ej : (((j + 1 : Nat) : Int) - 1) = (j : Int) := by omega
        rw [ej]
        clear ej
        have d1 := h.word (i := j) (by omega)
        have d2 := k.word (i := j) (by omega)
        by_cases hw : wd x j = wd y j
        · have hb : ((wd x j : Int) == (wd y j : Int)) = true := by rw [hw]; simp
          have HN := Lib.hid (div_eq HE.out hw)
          clear hw
          go_wp2
          go_quiet (fail)
          go_wp2
          go_roundg j
          case measure => omega
          case rel => exact ⟨by omega, rfl, HN.out, _, by first | rfl | (simp only [World.drewN_drewN]; rfl)⟩
        · have hb : ((wd x j : Int) == (wd y j : Int)) = false := by rw [beq_eq_false_iff_ne]; omega
          have h1 := wd_le x j
          have h2 := wd_le y j
          have HO : RowKit.Hid (0 ≤ (wd x j : Int) - wd y j ↔ y ≤ x) := Lib.hid (by
            constructor
            · intro h; have := div_lt HE.out.symm (show wd y j < wd x j by omega); omega
            · intro h; refine Classical.byContradiction fun hn => ?_
              have := div_lt HE.out (show wd x j < wd y j by omega); omega)
          clear hw
          go_wp2
          go_quiet (fail)
          go_wp2
          go_quiet (fail)
          go_wp2
          go_ret
          exact ⟨_, rfl, HO.out, _, by first | rfl | (simp only [World.drewN_drewN]; rfl)⟩
  · have hb : ((n : Int) == (m : Int)) = false := by rw [beq_eq_false_iff_ne]; omega
    go_enter Tryz.func159, Tryz.ntmps159
    go_wp2
    go_quiet (fail)
    go_wp2
    go_quiet (fail)
    go_wp2
    go_ret
    refine ⟨(n : Int) - m, rfl, ?_, _, World.drewN_drewN ..⟩
    constructor
    · intro _; have := l2; omega
    · intro _; have := l1; omega
end Go.Proofs.YtdknneofiefieaaGreatDoor

namespace Go.Proofs.YtdknneofiefieaaGreatDoor
open Go.RowKit Go.Lib Dec Wd

theorem nw_le_of {T n : Nat} (h : nw T ≤ 232) (h0 : ∀ j, n ≤ j → j < 232 → wd T j = 0) : nw T ≤ n := by
  refine Classical.byContradiction fun hn => ?_
  have hT : T ≠ 0 := by intro e; subst e; rw [nw_zero] at hn; omega
  exact top_ne hT (h0 (nw T - 1) (by omega) (by omega))
theorem wd_int (v j : Nat) : ((wd v j : Nat) : Int) = (v : Int) / (B : Int) ^ j % B := by
  unfold wd; rw [iB]; simp

theorem tdiv_bd (S : Int) : ∃ q, S.tdiv 1000000000 = q ∧ -1000000000 < S - q * 1000000000 ∧ S - q * 1000000000 < 1000000000 := by
  refine ⟨_, rfl, ?_, ?_⟩
  · have h := Int.mul_tdiv_add_tmod S 1000000000
    have := Int.lt_tmod_of_pos S (b := 1000000000) (by decide)
    omega
  · have h := Int.mul_tdiv_add_tmod S 1000000000
    have := Int.tmod_lt_of_pos S (b := 1000000000) (by decide)
    omega

def nn (a k up : Nat) : Nat := max a (if k = 0 then 0 else k + up)
theorem nn_succ (a n up : Nat) : max ((nn a n up : Nat) : Int) ((n : Int) + up + 1) = ((nn a (n + 1) up : Nat) : Int) := by
  unfold nn; split <;> simp <;> omega
theorem nn_zero (a up : Nat) : nn a 0 up = a := by unfold nn; simp

theorem fin_neg {S : Int} (h : S - S.tdiv 1000000000 * 1000000000 < 0) (h4 : -1000000000 < S - S.tdiv 1000000000 * 1000000000) :
    S / (B : Int) = S.tdiv 1000000000 - 1 ∧ S % (B : Int) = S - S.tdiv 1000000000 * 1000000000 + 1000000000 := by
  generalize S.tdiv 1000000000 = q at *
  have e : (B : Int) = 1000000000 := rfl
  rw [e]; omega
theorem fin_pos {S : Int} (h : 0 ≤ S - S.tdiv 1000000000 * 1000000000) (h4 : S - S.tdiv 1000000000 * 1000000000 < 1000000000) :
    S / (B : Int) = S.tdiv 1000000000 ∧ S % (B : Int) = S - S.tdiv 1000000000 * 1000000000 := by
  generalize S.tdiv 1000000000 = q at *
  have e : (B : Int) = 1000000000 := rfl
  rw [e]; omega

theorem WB.step {w : World} {b : Nat} {s : Bool} {N : Nat} {g : Nat → Nat} (h : WB w b s N g) {i : Nat} (hi : i < 232) {x M : Nat} {xi Mi : Int} (hx : xi = (x : Int)) (hM : Mi = (M : Int)) :
    WB ((w.setCell ⟨b, 2 + i, none⟩ (.int .i64 xi)).setCell ⟨b, 1, none⟩ (.int .i64 Mi)) b s M (fun j => if j = i then x else g j) := by
  subst hx; subst hM
  exact (h.setWord hi x).setN M
theorem low_words {T v : Nat} {f y : Int} {up : Nat} (hT : (T : Int) = v + f * y * (B : Int) ^ up) (j : Nat) (hj : j < up) : wd T j = wd v j := by
  have h : ((wd T j : Nat) : Int) = ((wd v j : Nat) : Int) := by
    rw [wd_int, wd_int, hT]
    have e : (B : Int) ^ up = (B : Int) ^ j * (B * (B : Int) ^ (up - j - 1)) := by
      rw [← Int.pow_succ', ← Int.pow_add]; congr 1; omega
    rw [e, show f * y * ((B : Int) ^ j * (B * (B : Int) ^ (up - j - 1))) = (f * y * (B : Int) ^ (up - j - 1) * B) * (B : Int) ^ j by grind,
      Int.add_mul_ediv_right _ _ (by have := iB_pos j; omega), Int.add_mul_emod_self_right]
  omega
theorem step_words (T v n up j : Nat) : (if j = n + up then wd T (n + up) else if j < n + up then wd T j else wd v j) = if j < n + 1 + up then wd T j else wd v j := by
  by_cases e : j = n + up
  · subst e; rw [if_pos rfl, if_pos (by omega)]
  · rw [if_neg e]
    by_cases h : j < n + up
    · rw [if_pos h, if_pos (by omega)]
    · rw [if_neg h, if_neg (by omega)]
theorem prod_bd {f d : Int} (hf1 : -1000000000 < f) (hf2 : f < 1000000000) (h0 : 0 ≤ d) (h1 : d ≤ 999999999) : f * d ≤ 999999998000000001 ∧ -999999998000000001 ≤ f * d := by
  constructor
  · by_cases h : 0 ≤ f
    · have := Int.mul_le_mul (a := f) (b := d) (c := 999999999) (d := 999999999) (by omega) h1 h0 (by decide)
      omega
    · have := Int.mul_nonneg (a := -f) (b := d) (by omega) h0
      have e : -f * d = -(f * d) := by grind
      omega
  · by_cases h : 0 ≤ f
    · have := Int.mul_nonneg h h0
      omega
    · have := Int.mul_le_mul (a := -f) (b := d) (c := 999999999) (d := 999999999) (by omega) h1 h0 (by decide)
      have e : -f * d = -(f * d) := by grind
      omega

set_option maxHeartbeats 2000000 in
theorem carry_c (bx c : Nat) (hne : c ≠ bx) (sx sy : Bool) (v y : Nat) (hv : nw v ≤ 232) (f : Int) (hf1 : -1000000000 < f) (hf2 : f < 1000000000) (up : Nat) (hup : nw y + up ≤ 232)
    (T : Nat) (hT : (T : Int) = v + f * y * (B : Int) ^ up) (hT2 : nw T ≤ 232) (w : World) (h : WB w bx sx (nw v) (wd v)) (k : WB w c sy (nw y) (wd y)) :
    Calls Tryz.prog 161 #[.pointer (some ⟨bx, 0, none⟩), .pointer (some ⟨c, 0, none⟩), .int .i64 f, .int .i64 up] w fun e w' =>
      e = .returned (.tuple #[]) ∧ WB w' bx sx (nw T) (wd T) ∧ Ch bx w w' := by
  have hlow := low_words hT
  go_enter Tryz.func161, Tryz.ntmps161
  go_wp2
  go_loopg [8, 9] (232 - up) (fun m r i wr => ∃ n : Nat, n + up + m = 232 ∧ i = .int .i64 n ∧ r = .int .i64 (cr v f y up n) ∧
    WB wr bx sx (nn (nw v) n up) (fun j => if j < n + up then wd T j else wd v j) ∧ Ch bx w wr)
  case atStart =>
    refine ⟨0, by omega, rfl, by rw [cr_zero], ?_, Ch.refl _ _⟩
    rw [nn_zero]
    refine h.congr fun i _ => ?_
    split
    · rename_i hi; rw [hlow i (by omega)]
    · rfl
  case round =>
    obtain ⟨n, hm, rfl, rfl, hW, hC⟩ := hrel
    have hY := k.ch hC hne
    have cy := hY.cell1
    have hcr := cr_bd (v := v) (y := y) hf1 hf2 up n
    by_cases hlt : n < nw y
    · have cx := hW.word (i := n + up) (by omega)
      have dy := hY.word (i := n) (by omega)
      have f1 := hW.frozen 1
      have f2 := hW.frozen (2 + (n + up))
      have cn := hW.cell1
      rw [if_neg (by omega)] at cx
      have e1 := wd_int v (n + up)
      have e2 := wd_int y n
      have a1 := wd_le v (n + up)
      have a2 := wd_le y n
      have HS : RowKit.Hid (cr v f y up (n + 1) = ((wd v (n + up) : Int) + cr v f y up n + f * (wd y n : Int)) / B) := Lib.hid (by rw [cr_succ, e1, e2])
      have HT : RowKit.Hid ((wd T (n + up) : Int) = ((wd v (n + up) : Int) + cr v f y up n + f * (wd y n : Int)) % B) := Lib.hid (by rw [wd_int, hT, cr_word, e1, e2])
      clear e1 e2
      obtain ⟨p1, p2⟩ := prod_bd (d := (wd y n : Int)) hf1 hf2 (by omega) (by omega)
      obtain ⟨q, hq, hq1, hq2⟩ := tdiv_bd ((wd v (n + up) : Int) + cr v f y up n + f * (wd y n : Int))
      have hT' := Lib.hid hT
      clear hT
      generalize cr v f y up n = r at *
      by_cases hneg : (wd v (n + up) : Int) + r + f * (wd y n : Int) - q * 1000000000 < 0
      · have HQ := Lib.hid hq
        have g1 : -1000000000 ≤ ((wd v (n + up) : Int) + r + f * (wd y n : Int)).tdiv 1000000000 := by rw [hq]; omega
        have g2 : ((wd v (n + up) : Int) + r + f * (wd y n : Int)).tdiv 1000000000 ≤ 1000000000 := by rw [hq]; omega
        have g3 : (wd v (n + up) : Int) + r + f * (wd y n : Int) - ((wd v (n + up) : Int) + r + f * (wd y n : Int)).tdiv 1000000000 * 1000000000 < 0 := by rw [hq]; exact hneg
        have g4 : -1000000000 < (wd v (n + up) : Int) + r + f * (wd y n : Int) - ((wd v (n + up) : Int) + r + f * (wd y n : Int)).tdiv 1000000000 * 1000000000 := by rw [hq]; exact hq1
        clear hq hneg hq1 hq2
        have HX := Lib.hid (fin_neg g3 g4)
        go_wp2
        go_roundg (gk - 1)
        case measure => omega
        case rel =>
          obtain ⟨x1, x2⟩ := HX.out
          refine ⟨n + 1, by omega, by go_num, by rw [HS.out, x1], ?_, (hC.set _ _).set _ _⟩
          refine (hW.step (i := n + up) (by omega) (x := wd T (n + up)) (by rw [HT.out, x2]) (nn_succ _ _ _)).congr fun j hj => ?_
          exact step_words T v n up j
      · have g1 : -1000000000 ≤ ((wd v (n + up) : Int) + r + f * (wd y n : Int)).tdiv 1000000000 := by rw [hq]; omega
        have g2 : ((wd v (n + up) : Int) + r + f * (wd y n : Int)).tdiv 1000000000 ≤ 1000000000 := by rw [hq]; omega
        have g3 : 0 ≤ (wd v (n + up) : Int) + r + f * (wd y n : Int) - ((wd v (n + up) : Int) + r + f * (wd y n : Int)).tdiv 1000000000 * 1000000000 := by rw [hq]; omega
        have g4 : (wd v (n + up) : Int) + r + f * (wd y n : Int) - ((wd v (n + up) : Int) + r + f * (wd y n : Int)).tdiv 1000000000 * 1000000000 < 1000000000 := by rw [hq]; exact hq2
        clear hq hneg hq1 hq2
        have HX := Lib.hid (fin_pos g3 g4)
        go_wp2
        go_roundg (gk - 1)
        case measure => omega
        case rel =>
          obtain ⟨x1, x2⟩ := HX.out
          refine ⟨n + 1, by omega, by go_num, by rw [HS.out, x1], ?_, (hC.set _ _).set _ _⟩
          refine (hW.step (i := n + up) (by omega) (x := wd T (n + up)) (by rw [HT.out, x2]) (nn_succ _ _ _)).congr fun j hj => ?_
          exact step_words T v n up j
    · have hge : nw y ≤ n := by omega
      have hyB : (y : Int) < (B : Int) ^ n := by
        rw [iB]; have := nw_le.1 hge; omega
      have hvB : (v : Int) < (B : Int) ^ 232 := by
        rw [iB]; have := nw_le.1 hv; omega
      have hTB : (v : Int) + f * y * (B : Int) ^ up < (B : Int) ^ 232 := by
        rw [← hT, iB]; have := nw_le.1 hT2; omega
      have hT0 : 0 ≤ (v : Int) + f * y * (B : Int) ^ up := by rw [← hT]; omega
      have hroom : 232 ≤ n + up → cr v f y up n = 0 := fun hR => cr_room (by omega) hvB (by omega) hyB hT0 hTB hR
      have hdone : cr v f y up n = 0 → ∀ j, n + up ≤ j → wd v j = wd T j := by
        intro h0 j hj
        have := cr_done (v := v) (f := f) (by omega) hyB h0 j hj
        have e : ((wd v j : Nat) : Int) = ((wd T j : Nat) : Int) := by rw [wd_int, wd_int, hT, this]
        omega
      clear hvB hTB hT0
      by_cases hr0 : cr v f y up n = 0
      · have hd := hdone hr0
        rw [hr0]
        have hWT : WB wr bx sx (nn (nw v) n up) (wd T) := hW.congr fun j _ => by
          by_cases hj : j < n + up
          · rw [if_pos hj]
          · rw [if_neg hj, hd j (by omega)]
        have hnT : nw T ≤ nn (nw v) n up := by
          refine nw_le_of hT2 fun j hj _ => ?_
          unfold nn at hj
          by_cases e : n = 0
          · subst e
            simp at hj
            by_cases hj2 : j < up
            · rw [hlow j hj2]; exact wd_above hj
            · rw [← hd j (by omega)]; exact wd_above hj
          · simp [e] at hj
            rw [← hd j (by omega)]; exact wd_above (by omega)
        have hn2 : nn (nw v) n up ≤ 232 := by unfold nn; split <;> omega
        have H := trimmed_c bx sx T _ hnT hn2 wr hWT
        have cn := hWT.cell1
        clear hT hroom hdone hd hr0 hcr hyB hW hlow
        go_wp2_with (go_at_call 157; refine H.mono ?_; rintro e w' ⟨rfl, hW', hC'⟩)
        go_end0
        exact ⟨rfl, hW', hC.trans hC'⟩
      · have hb : (cr v f y up n == 0) = false := by rw [beq_eq_false_iff_ne]; exact hr0
        have hroom' : n + up < 232 := Classical.byContradiction fun h => hr0 (hroom (by omega))
        have cx := hW.word (i := n + up) (by omega)
        have f1 := hW.frozen 1
        have f2 := hW.frozen (2 + (n + up))
        have cn := hW.cell1
        rw [if_neg (by omega)] at cx
        have e1 := wd_int v (n + up)
        have e2 := wd_int y n
        rw [wd_above hge] at e2
        have a1 := wd_le v (n + up)
        have HS : RowKit.Hid (cr v f y up (n + 1) = ((wd v (n + up) : Int) + cr v f y up n) / B) := Lib.hid (by rw [cr_succ, e1, ← e2]; simp)
        have HT : RowKit.Hid ((wd T (n + up) : Int) = ((wd v (n + up) : Int) + cr v f y up n) % B) := Lib.hid (by rw [wd_int, hT, cr_word, e1, ← e2]; simp)
        clear e1 e2 hroom hdone hr0 hyB
        obtain ⟨q, hq, hq1, hq2⟩ := tdiv_bd ((wd v (n + up) : Int) + cr v f y up n)
        have hT' := Lib.hid hT
        clear hT
        generalize cr v f y up n = r at *
        by_cases hneg : (wd v (n + up) : Int) + r - q * 1000000000 < 0
        · have g1 : -1000000000 ≤ ((wd v (n + up) : Int) + r).tdiv 1000000000 := by rw [hq]; omega
          have g2 : ((wd v (n + up) : Int) + r).tdiv 1000000000 ≤ 1000000000 := by rw [hq]; omega
          have g3 : (wd v (n + up) : Int) + r - ((wd v (n + up) : Int) + r).tdiv 1000000000 * 1000000000 < 0 := by rw [hq]; exact hneg
          have g4 : -1000000000 < (wd v (n + up) : Int) + r - ((wd v (n + up) : Int) + r).tdiv 1000000000 * 1000000000 := by rw [hq]; exact hq1
          clear hq hneg hq1 hq2
          have HX := Lib.hid (fin_neg g3 g4)
          go_wp2
          go_roundg (gk - 1)
          case measure => omega
          case rel =>
            obtain ⟨x1, x2⟩ := HX.out
            refine ⟨n + 1, by omega, by go_num, by rw [HS.out, x1], ?_, (hC.set _ _).set _ _⟩
            refine (hW.step (i := n + up) (by omega) (x := wd T (n + up)) (by rw [HT.out, x2]) (nn_succ _ _ _)).congr fun j hj => ?_
            exact step_words T v n up j
        · have g1 : -1000000000 ≤ ((wd v (n + up) : Int) + r).tdiv 1000000000 := by rw [hq]; omega
          have g2 : ((wd v (n + up) : Int) + r).tdiv 1000000000 ≤ 1000000000 := by rw [hq]; omega
          have g3 : 0 ≤ (wd v (n + up) : Int) + r - ((wd v (n + up) : Int) + r).tdiv 1000000000 * 1000000000 := by rw [hq]; omega
          have g4 : (wd v (n + up) : Int) + r - ((wd v (n + up) : Int) + r).tdiv 1000000000 * 1000000000 < 1000000000 := by rw [hq]; exact hq2
          clear hq hneg hq1 hq2
          have HX := Lib.hid (fin_pos g3 g4)
          go_wp2
          go_roundg (gk - 1)
          case measure => omega
          case rel =>
            obtain ⟨x1, x2⟩ := HX.out
            refine ⟨n + 1, by omega, by go_num, by rw [HS.out, x1], ?_, (hC.set _ _).set _ _⟩
            refine (hW.step (i := n + up) (by omega) (x := wd T (n + up)) (by rw [HT.out, x2]) (nn_succ _ _ _)).congr fun j hj => ?_
            exact step_words T v n up j
end Go.Proofs.YtdknneofiefieaaGreatDoor
