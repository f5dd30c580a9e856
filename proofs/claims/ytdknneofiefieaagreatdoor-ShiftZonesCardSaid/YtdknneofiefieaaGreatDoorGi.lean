import Derived.Test.YtdknneofiefieaaGreatDoorGg
import Derived.Test.YtdknneofiefieaaGreatDoorGe

namespace Go.Proofs.YtdknneofiefieaaGreatDoor
open Go.RowKit Go.Lib Dec Wd

/-- the number of a sign and a magnitude -/
def sv (s : Bool) (v : Nat) : Int := if s then -(v : Int) else v
theorem sv_abs (s : Bool) (v : Nat) : (sv s v).natAbs = v := by unfold sv; split <;> omega
theorem itoa_sv {s : Bool} {v : Nat} (h : v ≠ 0) : itoa (sv s v) = sgn s ++ decDigits v := by
  unfold sv sgn itoa
  cases s
  · simp
  · simp; intro h'; exact absurd h' h
theorem sv_read (n : Int) : sv (decide (n < 0)) n.natAbs = n := by
  unfold sv
  by_cases h : n < 0
  · rw [decide_eq_true h]; simp; omega
  · rw [decide_eq_false h]; simp; omega

set_option maxRecDepth 100000 in
set_option maxHeartbeats 1000000 in
theorem text_zero (b : Nat) (s : Bool) (w : World) (h : WB w b s 0 (wd 0)) :
    Calls Tryz.prog 122 #[.pointer (some ⟨b, 0, none⟩)] w fun e w' => e = .returned (.string (tx 0)) ∧ w = w' := by
  have c1 := h.cell1
  have e : (⟨#[48]⟩ : ByteArray) = tx 0 := by unfold tx; rw [itoa_zero]
  have HE := Lib.hid e
  clear e
  go_enter Tryz.func122, Tryz.ntmps122
  go_wp2
  go_ret
  exact ⟨by rw [← HE.out]; rfl, rfl⟩

theorem text_any (b : Nat) (s : Bool) (v : Nat) (hv : nw v ≤ 232) (w : World) (g : Gd w) (h : WB w b s (nw v) (wd v)) :
    Calls Tryz.prog 122 #[.pointer (some ⟨b, 0, none⟩)] w fun e w' => e = .returned (.string (tx (sv s v))) ∧ Below w.heap.size w w' := by
  by_cases h0 : v = 0
  · subst h0
    rw [nw_zero] at h
    refine (text_zero b s w h).mono fun e w' => ?_
    rintro ⟨rfl, rfl⟩
    refine ⟨?_, Below.refl _ _⟩
    have : sv s 0 = 0 := by unfold sv; split <;> rfl
    rw [this]
  · refine (text_c b s v hv h0 w g h).mono fun e w' => ?_
    rintro ⟨rfl, hb⟩
    refine ⟨?_, hb⟩
    unfold tx; rw [itoa_sv h0]

set_option maxRecDepth 100000 in
set_option maxHeartbeats 1000000 in
theorem limited_c (b : Nat) (s : Bool) (v : Nat) (hv : nw v ≤ 232) (hz : Sz (sv s v)) (w : World) (g : Gd w) (h : WB w b s (nw v) (wd v)) :
    Calls Tryz.prog 248 #[.pointer (some ⟨b, 0, none⟩)] w fun e w' => e = .returned (.tuple #[.string (tx (sv s v)), .int .i64 0]) ∧ Below w.heap.size w w' := by
  have H := text_any b s v hv w g h
  generalize sv s v = z at *
  go_enter Tryz.func248, Tryz.ntmps248
  go_wp2_with (first | (go_at_call 122; refine H.mono ?_; rintro e w1 ⟨rfl, hb1⟩) | (go_at_call 77; refine (check_tx hz _).mono ?_; rintro e w2 ⟨rfl, hb2⟩))
  go_ret2
  exact ⟨rfl, Bl.trans hb1 hb2⟩

theorem wInfo : (Tryz.prog.info? 180).map (·.size) = some 234 := by kernel_rfl
theorem wcells_one (s : Bool) (n : Nat) (f : Nat → Nat) : (wcells s n f).all (·.oneCell') = true := by
  unfold wcells; simp [Value.oneCell']
theorem WB.ofRow {w : World} {b : Nat} {s : Bool} {n : Nat} {f : Nat → Nat} (h : WB w b s n f) {s' : Bool} {n' : Nat} {f' : Nat → Nat} : WB (w.setRow b (wcells s' n' f')) b s' n' f' :=
  ⟨setRow_heap w b _ _ _ _ h.out⟩
theorem Ch.setRow {b : Nat} {x y : World} (h : Ch b x y) (cs : Array Value) : Ch b x (y.setRow b cs) :=
  h.trans ⟨rfl, rfl, rfl, by simp, fun k _ hb => setRow_other _ _ _ _ hb⟩

/-- what plus leaves in block c: the sum of the two numbers -/
def PlusR (c : Nat) (z : Int) (w : World) (e : Ending) (w' : World) : Prop :=
  e = .returned (.tuple #[]) ∧ ∃ s v, WB w' c s (nw v) (wd v) ∧ sv s v = z ∧ nw v ≤ 232 ∧ Ch c w w'

set_option maxRecDepth 100000 in
set_option maxHeartbeats 2000000 in
theorem plus_ge (b c : Nat) (hne : b ≠ c) (sx sy : Bool) (x y : Nat) (hx : nw x ≤ 232) (hy : nw y ≤ 232) (hxy : nw (x + y) ≤ 232) (w : World) (h : WB w b sx (nw x) (wd x)) (k : WB w c sy (nw y) (wd y)) (hge : sx = sy ∨ y ≤ x) :
    Calls Tryz.prog 249 #[.pointer (some ⟨b, 0, none⟩), .pointer (some ⟨c, 0, none⟩)] w (PlusR b (sv sx x + sv sy y) w) := by
  have c0 := h.cell0
  have d0 := k.cell0
  by_cases hs : sx = sy
  · subst hs
    have HC := carry_c b c hne.symm sx sx x y hx 1 (by decide) (by decide) 0 (by omega) (x + y) (by simp) hxy
    have hd := fun q => HC (w.drewN q) (h.drewN q) (k.drewN q)
    clear HC
    cases sx <;>
    · go_enter Tryz.func249, Tryz.ntmps249
      go_wp2
      go_quiet (fail)
      go_wp2_with (go_at_call 161; refine (hd _).mono ?_; rintro e w1 ⟨rfl, hW, hC⟩)
      go_end0
      refine ⟨rfl, _, _, hW, ?_, hxy, ?_⟩
      · unfold sv; simp; try omega
      · exact ((Ch.refl b w).drewN _).trans hC
  · have HB := beyond_c b c sx sy x y hx hy
    have hxor : (sx == sy) = false := by rw [beq_eq_false_iff_ne]; exact hs
    have hval : sv sx x + sv sy y = if y ≤ x then sv sx (x - y) else sv sy (y - x) := by
      unfold sv; cases sx <;> cases sy <;> simp at hs ⊢ <;> split <;> omega
    have hle : y ≤ x := hge.resolve_left hs
    · rw [if_pos hle] at hval
      have HC := carry_c b c hne.symm sx sy x y hx (-1) (by decide) (by decide) 0 (by omega) (x - y) (by simp; omega) (Nat.le_trans (nw_le.2 (Nat.lt_of_le_of_lt (Nat.sub_le _ _) (lt_nw x))) hx)
      have hB : ∀ q, Calls Tryz.prog 159 #[.pointer (some ⟨b, 0, none⟩), .pointer (some ⟨c, 0, none⟩)] (w.drewN q) fun e w' => ∃ r : Int, e = .returned (.int .i64 r) ∧ 0 ≤ r ∧ ∃ q, w' = w.drewN q := fun q =>
        (HB (w.drewN q) (h.drewN q) (k.drewN q)).mono fun e w' => by
          rintro ⟨r, rfl, hr, q', rfl⟩
          exact ⟨r, rfl, hr.2 hle, _, World.drewN_drewN ..⟩
      have HV := Lib.hid hval
      have hd := fun q => HC (w.drewN q) (h.drewN q) (k.drewN q)
      clear HC HB hval hs
      cases sx <;> cases sy <;> first | (exact absurd hxor (by decide)) | skip
      all_goals
        go_enter Tryz.func249, Tryz.ntmps249
        go_wp2
        go_quiet (fail)
        go_wp2_with (first | (go_at_call 161; refine (hd _).mono ?_; rintro e w1 ⟨rfl, hW, hC⟩) | (go_at_call 159; refine (hB _).mono ?_; rintro e w1 ⟨r, rfl, hr, q, rfl⟩))
        go_end0
        exact ⟨rfl, _, _, hW, HV.out.symm, Nat.le_trans (nw_le.2 (Nat.lt_of_le_of_lt (Nat.sub_le _ _) (lt_nw x))) hx, ((Ch.refl b w).drewN _).trans hC⟩
end Go.Proofs.YtdknneofiefieaaGreatDoor

namespace Go.Proofs.YtdknneofiefieaaGreatDoor
open Go.RowKit Go.Lib Dec Wd

theorem run_load_wide {w : World} {b : Nat} {s : Bool} {n : Nat} {f : Nat → Nat} (h : WB w b s n f) :
    (loadVar 180 ⟨b, 0, none⟩).run Tryz.prog w = .ok (.agg (wcells s n f)) w :=
  run_loadVar_row w b 180 180 (wcells s n f) (0, 0) _ h.out Tryz.underlying180 rfl (by rw [wcells_size]; exact wInfo)
theorem run_store_wide {w : World} {b : Nat} {s : Bool} {n : Nat} {f : Nat → Nat} (h : WB w b s n f) (s' : Bool) (n' : Nat) (f' : Nat → Nat) :
    (storeVar 180 ⟨b, 0, none⟩ (.agg (wcells s' n' f'))).run Tryz.prog w = .ok () (w.setRow b (wcells s' n' f')) :=
  run_storeVar_row w b 180 180 _ _ h.out (by rw [wcells_size]; exact wInfo) (by rw [wcells_size, wcells_size]) (wcells_one _ _ _)
theorem run_store_fresh (w : World) (s' : Bool) (n' : Nat) (f' : Nat → Nat) :
    (storeVar 180 ⟨w.heap.size, 0, none⟩ (.agg (wcells s' n' f'))).run Tryz.prog (w.alloc (.cells Tryz.zeroCells180 180)) = .ok () ((w.alloc (.cells Tryz.zeroCells180 180)).setRow w.heap.size (wcells s' n' f')) :=
  run_storeVar_row _ w.heap.size 180 180 Tryz.zeroCells180 _ (by show (w.heap.push _)[w.heap.size]? = _; simp) (by rw [wcells_size]; exact wInfo) (by rw [wcells_size]; kernel_rfl) (wcells_one _ _ _)

theorem zc_size : (Tryz.zeroCells180).size = 234 := by kernel_rfl
theorem WB.newRow (w : World) (s : Bool) (n : Nat) (f : Nat → Nat) : WB ((w.alloc (.cells Tryz.zeroCells180 180 (0, 0))).setRow w.heap.size (wcells s n f)) w.heap.size s n f :=
  ⟨setRow_heap _ _ _ _ _ _ (heap_alloc_new w _)⟩
theorem Ch.newRow (b : Nat) (w : World) (s : Bool) (n : Nat) (f : Nat → Nat) : Ch b w ((w.alloc (.cells Tryz.zeroCells180 180 (0, 0))).setRow w.heap.size (wcells s n f)) := by
  refine ⟨rfl, rfl, rfl, by simp, fun k hk _ => ?_⟩
  rw [setRow_other _ _ k _ (by omega)]
  exact heap_alloc_old w _ hk
theorem Ch.into {b c : Nat} {x y z : World} (h : Ch b x y) (k : Ch c y z) (hc : x.heap.size ≤ c) : Ch b x z :=
  ⟨k.os.trans h.os, k.tape.trans h.tape, k.output.trans h.output, Nat.le_trans h.size k.size, fun i hi hb => (k.block i (Nat.lt_of_lt_of_le hi h.size) (by omega)).trans (h.block i hi hb)⟩

set_option maxRecDepth 100000 in
set_option maxHeartbeats 2000000 in
theorem plus_lt (b c : Nat) (sx sy : Bool) (x y : Nat) (hx : nw x ≤ 232) (hy : nw y ≤ 232) (w : World) (h : WB w b sx (nw x) (wd x)) (k : WB w c sy (nw y) (wd y)) (hs : sx ≠ sy) (hle : ¬ y ≤ x) :
    Calls Tryz.prog 249 #[.pointer (some ⟨b, 0, none⟩), .pointer (some ⟨c, 0, none⟩)] w (PlusR b (sv sx x + sv sy y) w) := by
  have c0 := h.cell0
  have d0 := k.cell0
  have HB := beyond_c b c sx sy x y hx hy
  have hxor : (sx == sy) = false := by rw [beq_eq_false_iff_ne]; exact hs
  have hval : sv sx x + sv sy y = sv sy (y - x) := by
    unfold sv; cases sx <;> cases sy <;> simp at hs ⊢ <;> omega
  have hB : ∀ q, Calls Tryz.prog 159 #[.pointer (some ⟨b, 0, none⟩), .pointer (some ⟨c, 0, none⟩)] (w.drewN q) fun e w' => ∃ r : Int, e = .returned (.int .i64 r) ∧ r < 0 ∧ ∃ q, w' = w.drewN q := fun q =>
    (HB (w.drewN q) (h.drewN q) (k.drewN q)).mono fun e w' => by
      rintro ⟨r, rfl, hr, q', rfl⟩
      exact ⟨r, rfl, by omega, _, World.drewN_drewN ..⟩
  have HV := Lib.hid hval
  have hyx : nw (y - x) ≤ 232 := Nat.le_trans (nw_le.2 (Nat.lt_of_le_of_lt (Nat.sub_le _ _) (lt_nw y))) hy
  have HC := fun z (hz : b ≠ z) => carry_c z b hz sy sx y x hy (-1) (by decide) (by decide) 0 (by omega) (y - x) (by simp; omega) hyx
  clear HB hval hs
  cases sx <;> cases sy <;> first | (exact absurd hxor (by decide)) | skip
  all_goals
    go_enter Tryz.func249, Tryz.ntmps249
    go_wp2
    go_quiet (fail)
    go_wp2_with (first
      | (go_at_call 159; refine (hB _).mono ?_; rintro e w1 ⟨r, rfl, hr, q, rfl⟩)
      | (refine wpList_load_row rfl 180 _ rfl c rfl 180 _ (0,0) _ (k.drewN _).out Tryz.underlying180 rfl (by rw [wcells_size]; exact wInfo) ?_)
      | (refine wpList_store_row rfl 180 _ _ rfl w.heap.size (wcells _ (nw y) (wd y)) rfl rfl 180 Tryz.zeroCells180 (heap_alloc_new (w.drewN _) _) (by rw [wcells_size]; exact wInfo) (by rw [wcells_size]; exact zc_size) (wcells_one _ _ _) ?_))
    go_ways
    refine (HC w.heap.size (Nat.ne_of_lt h.lt) _ (WB.newRow (w.drewN _) _ _ _) ((h.drewN _).ch (Ch.newRow w.heap.size (w.drewN _) _ _ _) (Nat.ne_of_lt h.lt))).mono ?_
    rintro e w3 ⟨rfl, hZ, hC⟩
    have hb3 : WB w3 b _ _ _ := ((h.drewN _).ch (Ch.newRow w.heap.size (w.drewN _) _ _ _) (Nat.ne_of_lt h.lt)).ch hC (Nat.ne_of_lt h.lt)
    go_wp2_with (first
      | (refine wpList_load_row rfl 180 _ rfl w.heap.size rfl 180 _ (0,0) _ hZ.out Tryz.underlying180 rfl (by rw [wcells_size]; exact wInfo) ?_)
      | (refine wpList_store_row rfl 180 _ _ rfl b (wcells _ (nw (y-x)) (wd (y-x))) rfl rfl 180 _ hb3.out (by rw [wcells_size]; exact wInfo) (by rw [wcells_size, wcells_size]) (wcells_one _ _ _) ?_))
    go_end0
    exact ⟨rfl, _, _, hb3.ofRow, HV.out.symm, hyx, (((Ch.refl b w).drewN _).trans (Ch.newRow b (w.drewN _) _ _ _)).into hC (Nat.le_refl _) |>.setRow _⟩
end Go.Proofs.YtdknneofiefieaaGreatDoor

namespace Go.Proofs.YtdknneofiefieaaGreatDoor
open Go.RowKit Go.Lib Dec Wd

theorem plus_c (b c : Nat) (hne : b ≠ c) (sx sy : Bool) (x y : Nat) (hx : nw x ≤ 232) (hy : nw y ≤ 232) (hxy : nw (x + y) ≤ 232) (w : World) (h : WB w b sx (nw x) (wd x)) (k : WB w c sy (nw y) (wd y)) :
    Calls Tryz.prog 249 #[.pointer (some ⟨b, 0, none⟩), .pointer (some ⟨c, 0, none⟩)] w (PlusR b (sv sx x + sv sy y) w) := by
  by_cases h1 : sx = sy ∨ y ≤ x
  · exact plus_ge b c hne sx sy x y hx hy hxy w h k h1
  · exact plus_lt b c sx sy x y hx hy w h k (fun e => h1 (.inl e)) (fun e => h1 (.inr e))

theorem nw_mul_mod {x y i : Nat} : nw (x * (y % B ^ i)) ≤ nw x + nw y := by
  rw [nw_le, Nat.pow_add]
  have h1 := lt_nw x
  have h2 := lt_nw y
  have h3 : y % B ^ i ≤ y := Nat.mod_le _ _
  exact Nat.mul_lt_mul_of_lt_of_le h1 (by omega) (by have := Wd.pow_pos (nw y); omega)

set_option maxRecDepth 100000 in
set_option maxHeartbeats 2000000 in
theorem times_c (b c : Nat) (sx sy : Bool) (x y : Nat) (hxy : nw x + nw y ≤ 232) (w : World) (h : WB w b sx (nw x) (wd x)) (k : WB w c sy (nw y) (wd y)) :
    Calls Tryz.prog 247 #[.pointer (some ⟨b, 0, none⟩), .pointer (some ⟨c, 0, none⟩)] w fun e w' =>
      ∃ d, e = .returned (.pointer (some ⟨d, 0, none⟩)) ∧ WB w' d (sx != sy) (nw (x * y)) (wd (x * y)) ∧ w.heap.size ≤ d ∧ Below w.heap.size w w' := by
  have c0 := h.cell0
  have d0 := k.cell0
  have hk := (k.ch (Ch.alloc (Ch.refl w.heap.size w) (.cells (Tryz.zeroCells180.setIfInBounds 0 (.bool (!sx == sy))) 180)) (Nat.ne_of_lt k.lt))
  have hh := (h.ch (Ch.alloc (Ch.refl w.heap.size w) (.cells (Tryz.zeroCells180.setIfInBounds 0 (.bool (!sx == sy))) 180)) (Nat.ne_of_lt h.lt))
  have hF := WB.fresh w (!sx == sy)
  have hB0 : Below w.heap.size w (w.alloc (.cells (Tryz.zeroCells180.setIfInBounds 0 (.bool (!sx == sy))) 180)) := (Below.refl _ _).alloc (Nat.le_refl _) _
  have d1 := hk.cell1
  go_enter Tryz.func247, Tryz.ntmps247
  go_wp2
  go_region
  generalize w.alloc (.cells (Tryz.zeroCells180.setIfInBounds 0 (.bool (!sx == sy))) 180) = W at *
  go_wp2
  go_loopg [22] (nw y) (fun m i wr => ∃ n : Nat, n + m = nw y ∧ i = .int .i64 n ∧ WB wr w.heap.size (!sx == sy) (nw (x * (y % B ^ n))) (wd (x * (y % B ^ n))) ∧ Below w.heap.size w wr)
  case atStart =>
    refine ⟨0, by omega, rfl, ?_, hB0.drew⟩
    have : x * (y % B ^ 0) = 0 := by rw [Nat.pow_zero, Nat.mod_one, Nat.mul_zero]
    rw [this, nw_zero]
    exact hF.drew.congr fun i _ => (wd_zero i).symm
  case round =>
    obtain ⟨n, hm, rfl, hW, hB⟩ := hrel
    by_cases hlt : n < nw y
    · have hY := k.below hB k.lt
      have hX := h.below hB h.lt
      have dy := hY.word (i := n) (by omega)
      have hT := times_step x y n
      have HC := carry_c w.heap.size b (Nat.ne_of_lt h.lt) (!sx == sy) sx (x * (y % B ^ n)) x (Nat.le_trans nw_mul_mod hxy) (wd y n) (by omega) (by have := wd_lt y n; unfold B at this; omega) n (by omega) (x * (y % B ^ (n + 1)))
        (by rw [Int.natCast_mul, Int.natCast_mul]; exact hT.symm) (Nat.le_trans nw_mul_mod hxy) wr hW hX
      have HN := Lib.hid (And.intro hm hxy)
      have a2 := wd_le y n
      have a3 : n < 232 := by omega
      clear hT hm hxy hF hh hk
      go_wp2_with (go_at_call 161; refine HC.mono ?_; rintro e w1 ⟨rfl, hW1, hC1⟩)
      go_roundg (gk - 1)
      case measure => have := HN.out.1; omega
      case rel => exact ⟨n + 1, by have := HN.out.1; omega, by go_num, hW1, hB.trans (hC1.below (Nat.le_refl _) hB.size)⟩
    · have hn : n = nw y := by omega
      subst hn
      rw [Nat.mod_eq_of_lt (lt_nw y)] at hW
      have hD := Lib.hid hW
      clear hW hF hh hk
      go_wp2
      go_ret
      refine ⟨_, rfl, ?_, Nat.le_refl _, hB⟩
      have : (sx != sy) = (!sx == sy) := by cases sx <;> cases sy <;> rfl
      rw [this]; exact hD.out
end Go.Proofs.YtdknneofiefieaaGreatDoor

namespace Go.Proofs.YtdknneofiefieaaGreatDoor
open Go.RowKit Go.Lib Dec Wd

theorem zero_wide' : Tryz.zeroCells180 = wcells false 0 (fun _ => 0) := by kernel_rfl
theorem WB.newZero (w : World) : WB (w.alloc (.cells Tryz.zeroCells180 180)) w.heap.size false (nw 0) (wd 0) := by
  rw [zero_wide', nw_zero]
  refine WB.congr (f := fun _ => 0) ⟨by show (w.heap.push _)[w.heap.size]? = _; simp⟩ fun i _ => (wd_zero i).symm
theorem ten_le : 10 ^ 1024 ≤ B ^ 114 := by decide +kernel
theorem Sz.nw {n : Int} (h : Sz n) : Wd.nw n.natAbs ≤ 114 := nw_le.2 (Nat.lt_of_lt_of_le h.out ten_le)
theorem two_le : B ^ 114 + B ^ 114 ≤ B ^ 115 := by decide +kernel
theorem nw_add {x y : Nat} (hx : Wd.nw x ≤ 114) (hy : Wd.nw y ≤ 114) : Wd.nw (x + y) ≤ 115 := nw_le.2 (by
  have h1 := nw_le.1 hx
  have h2 := nw_le.1 hy
  exact Nat.lt_of_lt_of_le (Nat.add_lt_add h1 h2) two_le)

set_option maxRecDepth 100000 in
set_option maxHeartbeats 1000000 in
theorem sum_c (b c : Nat) (l : List Int) (hl : ∀ n ∈ l, Sz n) (hp : ∀ k, Sz ((l.take k).sum)) (hn : l.length ≤ 100) (w : World) (g : Gd w)
    (hc : ∀ j x, l[j]? = some x → w.cell? ⟨b, j, none⟩ = some (.string (tx x))) (hbw : b < w.heap.size) :
    Calls Tryz.prog 257 #[.slice (some ⟨b, 0, none⟩) l.length c] w fun e w' => e = .returned (.tuple #[.string (tx l.sum), .int .i64 0]) ∧ Below w.heap.size w w' := by
  have hF := WB.newZero w
  have hB0 : Below w.heap.size w (w.alloc (.cells Tryz.zeroCells180 180)) := (Below.refl _ _).alloc (Nat.le_refl _) _
  go_enter Tryz.func257, Tryz.ntmps257
  go_wp2
  generalize w.alloc (.cells Tryz.zeroCells180 180) = W at *
  go_loopg [11] l.length (fun m i wr => ∃ (k : Nat) (s : Bool) (v : Nat), k + m = l.length ∧ i = .int .i64 k ∧ WB wr w.heap.size s (nw v) (wd v) ∧ sv s v = (l.take k).sum ∧ Below w.heap.size w wr)
  case atStart => exact ⟨0, false, 0, by omega, rfl, hF, by simp [sv], hB0⟩
  case round =>
    obtain ⟨k, s, v, hm, rfl, hW, hv, hB⟩ := hrel
    have hv2 : nw v ≤ 114 := by
      have := (hp k).nw
      rw [← hv, sv_abs] at this; exact this
    by_cases hlt : k < l.length
    · obtain ⟨x, hx⟩ : ∃ x, l[k]? = some x := ⟨_, List.getElem?_eq_getElem hlt⟩
      have hcell : wr.cell? ⟨b, k, none⟩ = some (.string (tx x)) := (hB.cell (p := ⟨b, k, none⟩) hbw).trans (hc k x hx)
      have hz : Sz x := hl _ (List.mem_of_getElem? hx)
      have HX := Lib.hid (And.intro hx (And.intro hm hv))
      have HR := read_c hz
      clear hx hc hm hv hp hl
      go_wp2_with (first
        | (go_at_call 119; refine (HR _).mono ?_; rintro e w1 ⟨d, rfl, hd1, hd2, hb1⟩)
        | (go_at_call 249; refine (plus_c w.heap.size d (by have := hW.lt; omega) s _ v _ (by omega) (by have := hz.nw; omega) (by have := nw_add hv2 hz.nw; omega) _ (hW.below hb1 hW.lt) hd1).mono ?_; rintro e w2 ⟨rfl, s2, v2, hW2, hv3, _, hC2⟩))
      go_roundg (gk - 1)
      case measure => have := HX.out.2.1; omega
      case rel =>
        obtain ⟨hx, hm, hv⟩ := HX.out
        refine ⟨k + 1, s2, v2, by omega, by go_num, hW2, ?_, (hB.trans (hb1.mono hB.size)).trans (hC2.below (Nat.le_refl _) (hB.trans (hb1.mono hB.size)).size)⟩
        rw [hv3, hv, sv_read, List.take_add_one, hx]
        simp
    · have hk : k = l.length := by omega
      subst hk
      rw [List.take_length] at hv
      have hz : Sz (sv s v) := by rw [hv]; have := hp l.length; rwa [List.take_length] at this
      have HL := limited_c w.heap.size s v (by omega) hz wr (g.below hB) hW
      rw [hv] at HL
      clear hc hp hl hv hz
      go_wp2_with (go_at_call 248; refine HL.mono ?_; rintro e w1 ⟨rfl, hb1⟩)
      go_ret2
      exact ⟨rfl, hB.trans (hb1.mono hB.size)⟩
end Go.Proofs.YtdknneofiefieaaGreatDoor

namespace Go.Proofs.YtdknneofiefieaaGreatDoor
open Go.RowKit Go.Lib Dec Wd

theorem pair_cells (w : World) (a b : Value) (t : TypeId) (f : Int → Value) (x y : Int) (ha : a = f x) (hb : b = f y) : ∀ j z, [x, y][j]? = some z → (w.alloc (.cells #[a, b] t (0, 0))).cell? ⟨w.heap.size, j, none⟩ = some (f z) := by
  intro j z h
  subst ha hb
  have e : (w.alloc (.cells #[f x, f y] t (0, 0))).cell? ⟨w.heap.size, j, none⟩ = #[f x, f y][j]? := by
    unfold World.cell?
    have : (w.alloc (.cells #[f x, f y] t (0, 0))).heap[w.heap.size]? = some (.cells #[f x, f y] t (0, 0)) := heap_alloc_new w _
    simp only [this]; rfl
  rw [e]
  match j, h with
  | 0, h => simp at h; subst h; rfl
  | 1, h => simp at h; subst h; rfl
theorem pair_below (w : World) (o : Obj) : Below w.heap.size w (w.alloc o) := (Below.refl _ w).alloc (Nat.le_refl _) o
theorem pair_lt (w : World) (o : Obj) : w.heap.size < (w.alloc o).heap.size := by simp

theorem pair_all {P : Int → Prop} {a b : Int} (ha : P a) (hb : P b) : ∀ n ∈ [a, b], P n := by
  intro n hn
  rcases List.mem_cons.1 hn with rfl | hn
  · exact ha
  · rw [List.mem_singleton] at hn; subst hn; exact hb
theorem all_pair {a b : Int} (ha : Sz a) (hb : Sz b) (w : World) (t : TypeId) :
    Calls Tryz.prog 116 #[.slice (some ⟨w.heap.size, 0, none⟩) 2 2] (w.alloc (.cells #[.string (tx a), .string (tx b)] t (0, 0))) fun e w' => e = .returned (.int .i64 0) ∧ Below w.heap.size w w' :=
  (all_c w.heap.size 2 [a, b] (pair_all ha hb) (Nat.le_of_ble_eq_true rfl) _ (pair_cells w _ _ t (fun z => .string (tx z)) a b rfl rfl) (pair_lt w _)).mono fun e w' => by
    rintro ⟨rfl, hb⟩
    exact ⟨rfl, Bl.trans (pair_below w _) hb⟩
theorem ten_pos (k : Nat) : Int.natAbs 0 < 10 ^ k := Nat.pow_pos (by decide)
theorem sz_zero : Sz 0 := ⟨ten_pos 1024⟩
theorem sum_pair {a b : Int} (ha : Sz a) (hb : Sz b) (hs : Sz (a + b)) (w : World) (g : Gd w) (t : TypeId) :
    Calls Tryz.prog 257 #[.slice (some ⟨w.heap.size, 0, none⟩) 2 2] (w.alloc (.cells #[.string (tx a), .string (tx b)] t (0, 0))) fun e w' => e = .returned (.tuple #[.string (tx (a + b)), .int .i64 0]) ∧ Below w.heap.size w w' :=
  (sum_c w.heap.size 2 [a, b] (pair_all ha hb) (by
      intro k
      match k with
      | 0 => exact sz_zero
      | 1 => simpa using ha
      | (k + 2) => simpa using hs) (Nat.le_of_ble_eq_true rfl) _ (g.alloc _) (pair_cells w _ _ t (fun z => .string (tx z)) a b rfl rfl) (pair_lt w _)).mono fun e w' => by
    rintro ⟨rfl, hb⟩
    exact ⟨by simp, Bl.trans (pair_below w _) hb⟩
theorem small_bd {n : Int} (h : (tx n).size ≤ 9) : n.natAbs < 1000000000 := by
  rw [tx_size] at h
  have h2 : (decDigits n.natAbs).length ≤ 9 := by
    unfold itoa at h; split at h
    · simp at h; omega
    · rw [show n.natAbs = n.toNat by omega]; exact h
  exact (dec_len n.natAbs 9 (by omega)).1 h2

set_option maxRecDepth 100000 in
set_option maxHeartbeats 1000000 in
theorem Add_c {a b : Int} (ha : Sz a) (hb : Sz b) (hs : Sz (a + b)) (w : World) (g : Gd w) :
    Calls Tryz.prog 243 #[.string (tx a), .string (tx b)] w fun e w' => e = .returned (.tuple #[.string (tx (a + b)), .int .i64 0]) ∧ Below w.heap.size w w' := by
  have HA := all_pair ha hb w 96
  by_cases h : (tx a).size ≤ 9 ∧ (tx b).size ≤ 9
  · have h1 := small_bd h.1
    have h2 := small_bd h.2
    have H2 := small_yes h.1 h.2
    clear h hs ha hb
    go_enter Tryz.func243, Tryz.ntmps243
    go_wp2_with (first
      | (go_at_call 116; refine HA.mono ?_; rintro e w1 ⟨rfl, hb1⟩)
      | (go_at_call 245; refine (H2 _).mono ?_; rintro e w2 ⟨rfl, hb2⟩)
      | (go_at_call 246; refine (result_c (a + b) (by omega) (by omega) _ ((g.below hb1).below hb2)).mono ?_; rintro e w3 ⟨rfl, hb3⟩))
    go_ret2
    exact ⟨rfl, Bl.trans (Bl.trans hb1 hb2) hb3⟩
  · have H2 := small_no h
    have HS := fun w g => sum_pair ha hb hs w g 96
    clear h hs ha hb
    go_enter Tryz.func243, Tryz.ntmps243
    go_wp2_with (first
      | (go_at_call 116; refine HA.mono ?_; rintro e w1 ⟨rfl, hb1⟩)
      | (go_at_call 245; refine (H2 _).mono ?_; rintro e w2 ⟨rfl, rfl⟩)
      | (go_at_call 257; refine (HS _ (g.below hb1)).mono ?_; rintro e w3 ⟨rfl, hb3⟩))
    go_ret2
    exact ⟨rfl, Bl.trans hb1 hb3⟩

set_option maxRecDepth 100000 in
set_option maxHeartbeats 1000000 in
theorem Sub_c {a b : Int} (ha : Sz a) (hb : Sz b) (hs : Sz (a - b)) (w : World) (g : Gd w) :
    Calls Tryz.prog 226 #[.string (tx a), .string (tx b)] w fun e w' => e = .returned (.tuple #[.string (tx (a - b)), .int .i64 0]) ∧ Below w.heap.size w w' := by
  have HA := all_pair ha hb w 96
  have HO := opposite_c hb
  have HB := fun w g => Add_c ha (b := -b) ⟨by rw [Int.natAbs_neg]; exact hb.out⟩ (by rw [← Int.sub_eq_add_neg]; exact hs) w g
  rw [← Int.sub_eq_add_neg] at HB
  clear hs ha hb
  go_enter Tryz.func226, Tryz.ntmps226
  go_wp2_with (first
    | (go_at_call 116; refine HA.mono ?_; rintro e w1 ⟨rfl, hb1⟩)
    | (go_at_call 244; refine (HO _).mono ?_; rintro e w2 ⟨rfl, rfl⟩)
    | (go_at_call 243; refine (HB _ (g.below hb1)).mono ?_; rintro e w3 ⟨rfl, hb3⟩))
  go_ret2
  exact ⟨rfl, Bl.trans hb1 hb3⟩

theorem mul_bd {a b : Int} (ha : a.natAbs < 1000000000) (hb : b.natAbs < 1000000000) : -1000000000000000000 ≤ a * b ∧ a * b ≤ 1000000000000000000 := by
  have h : (a * b).natAbs ≤ 1000000000 * 1000000000 := by
    rw [Int.natAbs_mul]; exact Nat.mul_le_mul (by omega) (by omega)
  generalize a * b = c at *
  omega
theorem sv_mul (a b : Int) : sv (decide (a < 0) != decide (b < 0)) (a.natAbs * b.natAbs) = a * b := by
  unfold sv
  have h1 : (a.natAbs : Int) = if a < 0 then -a else a := by split <;> omega
  have h2 : (b.natAbs : Int) = if b < 0 then -b else b := by split <;> omega
  rw [Int.natCast_mul, h1, h2]
  by_cases ha : a < 0 <;> by_cases hb : b < 0 <;> simp [ha, hb] <;> grind

set_option maxRecDepth 100000 in
set_option maxHeartbeats 1000000 in
theorem Mul_c {a b : Int} (ha : Sz a) (hb : Sz b) (hs : Sz (a * b)) (w : World) (g : Gd w) :
    Calls Tryz.prog 227 #[.string (tx a), .string (tx b)] w fun e w' => e = .returned (.tuple #[.string (tx (a * b)), .int .i64 0]) ∧ Below w.heap.size w w' := by
  have HA := all_pair ha hb w 96
  by_cases h : (tx a).size ≤ 9 ∧ (tx b).size ≤ 9
  · have H2 := small_yes h.1 h.2
    obtain ⟨h1, h2⟩ := mul_bd (small_bd h.1) (small_bd h.2)
    have HR := fun w g => result_c (a * b) (by omega) (by omega) w g
    have hw : IntKind.i64.wrap (a * b) = a * b := IntWalk.i64_in _ (by omega)
    clear h hs ha hb
    generalize hc : a * b = c at *
    go_enter Tryz.func227, Tryz.ntmps227
    go_wp2_with (first
      | (go_at_call 116; refine HA.mono ?_; rintro e w1 ⟨rfl, hb1⟩)
      | (go_at_call 245; refine (H2 _).mono ?_; rintro e w2 ⟨rfl, hb2⟩)
      | (go_at_call 246; refine (HR _ ((g.below hb1).below hb2)).mono ?_; rintro e w3 ⟨rfl, hb3⟩))
    go_ret2
    exact ⟨rfl, Bl.trans (Bl.trans hb1 hb2) hb3⟩
  · have H2 := small_no h
    have hz : Sz (sv (decide (a < 0) != decide (b < 0)) (a.natAbs * b.natAbs)) := by rw [sv_mul]; exact hs
    have hx := sv_mul a b
    have n1 := ha.nw
    have n2 := hb.nw
    have n3 : nw (a.natAbs * b.natAbs) ≤ 232 := by have := hz.nw; rw [sv_abs] at this; omega
    have HL := fun d w g h => limited_c d _ (a.natAbs * b.natAbs) n3 hz w g h
    rw [hx] at HL
    have R1 := read_c ha
    have R2 := read_c hb
    have HT := fun b1 c w h k => times_c b1 c (decide (a < 0)) (decide (b < 0)) a.natAbs b.natAbs (by omega) w h k
    clear h hs ha hb hz hx n3
    go_enter Tryz.func227, Tryz.ntmps227
    go_wp2_with (first
      | (go_at_call 116; refine HA.mono ?_; rintro e w1 ⟨rfl, hb1⟩)
      | (go_at_call 245; refine (H2 _).mono ?_; rintro e w2 ⟨rfl, rfl⟩))
    refine (R1 _).mono ?_
    rintro e w2 ⟨d, rfl, hd1, hd2, hb2⟩
    go_wp2_with fail
    refine (R2 _).mono ?_
    rintro e w3 ⟨d', rfl, hd3, hd4, hb3⟩
    go_wp2_with fail
    refine (HT _ _ _ (hd1.below hb3 hd1.lt) hd3).mono ?_
    rintro e w4 ⟨d'', rfl, hd5, hd6, hb4⟩
    go_wp2_with fail
    have B14 := Bl.trans (Bl.trans (Bl.trans hb1 hb2) hb3) hb4
    refine (HL _ _ (g.below B14) hd5).mono ?_
    rintro e w5 ⟨rfl, hb5⟩
    go_wp2_with fail
    go_ret2
    exact ⟨rfl, Bl.trans B14 hb5⟩
end Go.Proofs.YtdknneofiefieaaGreatDoor
