import Derived.Laws.CopyOwn
import Derived.Test.YtdknneofiefieaaGreatDoorGi

namespace Go.Proofs.YtdknneofiefieaaGreatDoor
open Go.RowKit Go.Lib Dec Wd

set_option maxRecDepth 100000 in
set_option maxHeartbeats 1000000 in
theorem top_c (b : Nat) (s : Bool) (v : Nat) (hv : nw v ≤ 232) (j : Nat) (i : Int) (hi : i = (j : Int)) (w : World) (h : WB w b s (nw v) (wd v)) :
    Calls Tryz.prog 192 #[.pointer (some ⟨b, 0, none⟩), .int .i64 i] w fun e w' => e = .returned (.int .i64 (wd v j : Nat)) ∧ w = w' := by
  subst hi
  have c1 := h.cell1
  by_cases hj : j < nw v
  · have c2 := h.word (i := j) (by omega)
    have hj2 : j < 232 := by omega
    go_enter Tryz.func192, Tryz.ntmps192
    go_wp2
    go_ret
    exact ⟨rfl, rfl⟩
  · have h0 : wd v j = 0 := wd_above (by omega)
    go_enter Tryz.func192, Tryz.ntmps192
    go_wp2
    go_ret
    exact ⟨by rw [h0]; rfl, rfl⟩

/-- what estimate returns -/
def EstR (x y : Nat) (w : World) (e : Ending) (w' : World) : Prop := ∃ k : Nat, e = .returned (.int .i64 k) ∧ 1 ≤ k ∧ k ≤ 999999999 ∧ k * y ≤ x ∧ ∃ q, w' = w.drewN q

theorem est_top {x y n : Nat} (hn : nw y = n + 1) (hx : nw x ≤ n + 2) : (wd x (n + 1) * 1000000000 + wd x n) * B ^ n ≤ x ∧ y < (wd y n + 1) * B ^ n ∧ (n = 0 → y = wd y 0) ∧ 0 < wd y n := by
  have h1 : wd x (n + 1) = x / B ^ (n + 1) := by
    unfold wd; rw [Nat.mod_eq_of_lt]
    rw [Nat.div_lt_iff_lt_mul (Wd.pow_pos _), ← Nat.pow_succ']
    exact nw_le.1 hx
  have h2 : wd y n = y / B ^ n := (top_word hn).symm
  have h3 : x / B ^ n = wd x (n + 1) * 1000000000 + wd x n := by
    rw [h1]; unfold wd
    rw [Nat.pow_succ, ← Nat.div_div_eq_div_mul]
    have := Nat.div_add_mod (x / B ^ n) B
    have hB : B = 1000000000 := rfl
    rw [hB] at this ⊢
    omega
  have h0 : y ≠ 0 := fun e => by subst e; rw [nw_zero] at hn; omega
  refine ⟨?_, ?_, ?_, ?_⟩
  · rw [← h3]; exact Nat.div_mul_le_self _ _
  · rw [h2]; exact (Nat.div_lt_iff_lt_mul (Wd.pow_pos n)).1 (Nat.lt_succ_self _)
  · intro e; subst e; rw [h2]; simp
  · have := top_ne h0; rw [hn] at this; exact Nat.pos_of_ne_zero this

theorem est_ok {x y n b k : Nat} (hn : nw y = n + 1) (hx : nw x ≤ n + 2) (hb : b = wd y n ∧ n = 0 ∨ b = wd y n + 1) (hk : k * b ≤ wd x (n + 1) * 1000000000 + wd x n) : k * y ≤ x := by
  obtain ⟨h1, h2, h3, h4⟩ := est_top hn hx
  refine est_le h1 (b := b) ?_ hk
  rcases hb with ⟨rfl, rfl⟩ | rfl
  · rw [Nat.pow_zero, Nat.mul_one]; exact Nat.le_of_eq (h3 rfl)
  · exact Nat.le_of_lt h2

theorem est_min (a1 a2 b : Nat) : ((min ((a1 * 1000000000 + a2) / b) 999999999 : Nat) : Int) = min (((a1 : Int) * 1000000000 + a2) / (b : Int)) 999999999 := by
  have h : (((a1 * 1000000000 + a2) / b : Nat) : Int) = ((a1 : Int) * 1000000000 + a2) / (b : Int) := rfl
  rw [← h]; omega

set_option maxRecDepth 100000 in
set_option maxHeartbeats 2000000 in
theorem est_c (b c : Nat) (sx sy : Bool) (x y : Nat) (hx : nw x ≤ 232) (hy : nw y ≤ 231) (hy0 : y ≠ 0) (hxy : y ≤ x) (hx2 : nw x ≤ nw y + 1) (w : World) (h : WB w b sx (nw x) (wd x)) (k : WB w c sy (nw y) (wd y)) :
    Calls Tryz.prog 160 #[.pointer (some ⟨b, 0, none⟩), .pointer (some ⟨c, 0, none⟩)] w (EstR x y w) := by
  obtain ⟨n, hn⟩ : ∃ n, nw y = n + 1 := ⟨nw y - 1, by have := @nw_eq_zero y; omega⟩
  have hok := fun b k => @est_ok x y n b k hn (by omega)
  have h4 := (est_top hn (x := x) (by omega)).2.2.2
  rw [hn] at k
  have c2 := k.cell1
  have T1 := fun i hi q => (top_c b sx x hx (n + 1) i hi (w.drewN q) (h.drewN q)).mono fun e w' (h : _ ∧ _ = w') => (⟨h.1, h.2.symm⟩ : _ ∧ w' = _)
  have T2 := fun i hi q => (top_c b sx x hx n i hi (w.drewN q) (h.drewN q)).mono fun e w' (h : _ ∧ _ = w') => (⟨h.1, h.2.symm⟩ : _ ∧ w' = _)
  have T3 := fun i hi q => (top_c c sy y (by omega) n i hi (w.drewN q) (by rw [hn]; exact k.drewN q)).mono fun e w' (h : _ ∧ _ = w') => (⟨h.1, h.2.symm⟩ : _ ∧ w' = _)
  have TT : ∀ (p : Nat) (i : Int) (v : Nat), (p = b ∧ i = ((n + 1 : Nat) : Int) ∧ v = wd x (n + 1)) ∨ (p = b ∧ i = (n : Int) ∧ v = wd x n) ∨ (p = c ∧ i = (n : Int) ∧ v = wd y n) → ∀ q, Calls Tryz.prog 192 #[.pointer (some ⟨p, 0, none⟩), .int .i64 i] (w.drewN q) fun e w' => e = .returned (.int .i64 v) ∧ w' = w.drewN q := by
    rintro p i v (⟨rfl, hi, rfl⟩ | ⟨rfl, hi, rfl⟩ | ⟨rfl, hi, rfl⟩) q
    · exact T1 i hi q
    · exact T2 i hi q
    · exact T3 i hi q
  clear T1 T2 T3
  have a1 := wd_le x (n + 1)
  have a2 := wd_le x n
  have a3 := wd_le y n
  have hn2 : n ≤ 231 := by omega
  have HH := Lib.hid (And.intro hn (And.intro hxy hok))
  clear hn hx2 hxy hx hy hok
  generalize wd x (n + 1) = A1 at *
  generalize wd x n = A2 at *
  generalize wd y n = A3 at *
  have w1 : IntKind.i64.wrap ((A1 : Int) * 1000000000) = (A1 : Int) * 1000000000 := IntWalk.i64_in _ (by omega)
  have w2 : IntKind.i64.wrap ((A1 : Int) * 1000000000 + A2) = (A1 : Int) * 1000000000 + A2 := IntWalk.i64_in _ (by omega)
  have w3 : IntKind.i64.wrap (((n + 1 : Nat) : Int) - 1) = (n : Int) := by rw [IntWalk.i64_in _ (by omega)]; omega
  go_enter Tryz.func160, Tryz.ntmps160
  go_wp2
  go_ways
  go_quiet ((go_at_call 192; exact Calls.quiet_of_same (TT _ _ _ (by first | exact .inl ⟨rfl, by omega, rfl⟩ | exact .inr (.inl ⟨rfl, by omega, rfl⟩) | exact .inr (.inr ⟨rfl, by omega, rfl⟩)) _)))
  go_wp2
  all_goals go_ret
  all_goals first
    | exact ⟨1, rfl, by omega, by omega, by rw [Nat.one_mul]; exact HH.out.2.1, _, rfl⟩
    | (have e := est_min A1 A2 (A3 + 1)
       rw [Int.natCast_add] at e
       refine ⟨min ((A1 * 1000000000 + A2) / (A3 + 1)) 999999999, by rw [e]; rfl, ?_, Nat.min_le_right _ _, HH.out.2.2 _ _ (.inr rfl) (Nat.le_trans (Nat.mul_le_mul_right _ (Nat.min_le_left _ _)) (Nat.div_mul_le_self _ _)), _, rfl⟩
       have h2 : (((A1 * 1000000000 + A2) / (A3 + 1) : Nat) : Int) = ((A1 : Int) * 1000000000 + A2) / ((A3 : Int) + 1) := rfl
       omega)
    | (have e := est_min A1 A2 A3
       refine ⟨min ((A1 * 1000000000 + A2) / A3) 999999999, by rw [e]; rfl, ?_, Nat.min_le_right _ _, HH.out.2.2 _ _ (.inl ⟨rfl, by omega⟩) (Nat.le_trans (Nat.mul_le_mul_right _ (Nat.min_le_left _ _)) (Nat.div_mul_le_self _ _)), _, rfl⟩
       have h2 : (((A1 * 1000000000 + A2) / A3 : Nat) : Int) = ((A1 : Int) * 1000000000 + A2) / (A3 : Int) := rfl
       omega)
end Go.Proofs.YtdknneofiefieaaGreatDoor

namespace Go.Proofs.YtdknneofiefieaaGreatDoor
open Go.RowKit Go.Lib Dec Wd

theorem wcells_list (s : Bool) (n : Nat) (f : Nat → Nat) : (wcells s n f).toList = .bool s :: .int .i64 n :: (List.range 232).map fun i => .int .i64 (f i : Nat) := by unfold wcells; simp
theorem range_get (f : Nat → Nat) (j : Nat) : ((List.range 232).map fun i => Value.int .i64 (f i : Nat))[j]? = if j < 232 then some (.int .i64 (f j : Nat)) else none := by
  rw [List.getElem?_map]
  by_cases h : j < 232
  · rw [List.getElem?_range h, if_pos h]; rfl
  · rw [if_neg h, List.getElem?_eq_none (by simpa using h)]; rfl
/-- the words of a number, one place up -/
theorem splice_wide {s : Bool} {r n : Nat} (hn : n = nw r) (h : n ≤ 231) :
    (splice (wcells s n (wd r)).toList 3 ((List.range n).map fun i => Value.int .i64 (wd r i : Nat))).toArray = wcells s n (fun j => if j = 0 then wd r 0 else wd r (j - 1)) := by
  apply Array.toList_inj.1
  rw [List.toList_toArray]
  apply List.ext_getElem?
  intro j
  unfold splice
  rw [wcells_list, wcells_list]
  generalize hL : ((List.range 232).map fun i => Value.int .i64 (wd r i : Nat)) = L
  generalize hM : ((List.range 232).map fun i => Value.int .i64 ((if i = 0 then wd r 0 else wd r (i - 1) : Nat) : Nat)) = M
  have gL : ∀ j, L[j]? = if j < 232 then some (.int .i64 (wd r j : Nat)) else none := fun j => by rw [← hL]; exact range_get _ j
  have gM : ∀ j, M[j]? = if j < 232 then some (.int .i64 ((if j = 0 then wd r 0 else wd r (j - 1) : Nat) : Nat)) else none := fun j => by rw [← hM]; exact range_get (fun i => if i = 0 then wd r 0 else wd r (i - 1)) j
  have hlen : L.length = 232 := by rw [← hL]; simp
  match j with
  | 0 => rfl
  | 1 => rfl
  | 2 =>
    have h1 := gL 0
    have h2 := gM 0
    rw [List.getElem?_append_left (by simp; omega)]
    simp only [List.take_succ_cons, List.getElem?_cons_succ, h2, List.getElem?_take, h1]
    simp
  | j + 3 =>
    have h2 := gM (j + 1)
    rw [List.getElem?_append_right (by simp; omega)]
    have e3 : (List.take 3 (Value.bool s :: Value.int IntKind.i64 (n : Nat) :: L)).length = 3 := by simp [hlen]
    rw [e3, Nat.add_sub_cancel]
    simp only [List.getElem?_cons_succ, h2]
    by_cases hj : j < n
    · rw [List.getElem?_append_left (by simpa using hj), List.getElem?_map, List.getElem?_range hj, if_pos (by omega)]
      simp
    · rw [List.getElem?_append_right (by simpa using hj), List.getElem?_drop]
      have e4 : 3 + (List.map (fun i => Value.int IntKind.i64 (wd r i : Nat)) (List.range n)).length + (j - (List.map (fun i => Value.int IntKind.i64 (wd r i : Nat)) (List.range n)).length) = j + 3 := by simp; omega
      rw [e4]
      simp only [List.getElem?_cons_succ, gL]
      rw [wd_above (v := r) (i := j + 1) (by omega)]
      simp [wd_above (v := r) (i := j) (by omega)]

theorem shifted {r d : Nat} (hd : d < B) (j : Nat) : (if j = 0 then d else if j = 0 then wd r 0 else wd r (j - 1)) = wd (r * B + d) j := by
  by_cases h : j = 0
  · subst h; rw [if_pos rfl, wd_shift0 _ _ hd]
  · rw [if_neg h, if_neg h]
    obtain ⟨i, rfl⟩ : ∃ i, j = i + 1 := ⟨j - 1, by omega⟩
    rw [wd_shift _ _ _ hd, Nat.add_sub_cancel]

theorem step_copy_wide {ops : Array Oper} {o : Oper} {a : Act} {w : World} {K : Act → World → Prop} {Q : Exit → Act → World → Prop} {E : Prop} (hgd : o.guard = none) (d s : Operand)
    (ho : o.op = .call { callee := .builtin .copy, args := #[d, s], argTypes := #[59, 59] }) (R n r : Nat) (sg : Bool) (hn : n = nw r) (h231 : n ≤ 231)
    (hd : a.eval d = .slice (some ⟨R, 3, none⟩) 231 231) (hs : a.eval s = .slice (some ⟨R, 2, none⟩) n 232) (hW : WB w R sg n (wd r))
    (h : ∀ w', RowKit.Hid (WB w' R sg n (fun j => if j = 0 then wd r 0 else wd r (j - 1))) → RowKit.Below R w w' → K (a.put o.dst (goInt n)) w') :
    if Region.wanted o (yielded ops a.tmps) = true then Oper.wp Tryz.prog o a w K Q else E := by
  refine step_copy_splice hgd d s 59 59 ho 3 Tryz.underlying59 (by kernel_rfl) (some ⟨R, 3, none⟩) (some ⟨R, 2, none⟩) 231 231 n 232 hd hs R 3 (wcells sg n (wd r)).toList 180
    (by rw [Array.toArray_toList]; exact hW.out) ((List.range n).map fun i => Value.int .i64 (wd r i : Nat)) (by simp; exact (Nat.min_eq_left h231).symm)
    (fun _ => ⟨rfl, _, rfl, fun j v hv => ?_⟩) (by rw [wcells_list]; simp; omega) (fun v hv => ?_) R w (Below.refl _ w) (Nat.le_refl _) fun w' hw hb => ?_
  · rw [List.getElem?_map] at hv
    by_cases hj : j < n
    · rw [List.getElem?_range hj] at hv
      cases hv
      have := hW.word (i := j) (by omega)
      have e : (⟨R, 2, none⟩ : Addr).add j = ⟨R, 2 + j, none⟩ := by by_cases h0 : j = 0 <;> simp [Addr.add, h0]
      rw [e]; exact this
    · rw [List.getElem?_eq_none (by simpa using hj)] at hv; cases hv
  · obtain ⟨j, _, rfl⟩ := List.mem_map.1 hv; rfl
  · have e : ((List.range n).map fun i => Value.int .i64 (wd r i : Nat)).length = n := by simp
    have hw2 := hw.out
    rw [splice_wide hn h231] at hw2
    rw [e]
    exact h w' ⟨hw2⟩ hb

/-- state of divided at the head of the round for word m - 1 -/
structure DivI (S x y m : Nat) (w wr : World) : Prop where
  q : WB wr S false (if m = nw x then 0 else nw x) (fun j => if m ≤ j then wd (x / y) j else 0)
  r : WB wr (S + 1) false (nw (x / B ^ m % y)) (wd (x / B ^ m % y))
  b : Below S w wr

theorem DivI.start (S x y : Nat) (w wr : World) (hq : WB wr S false (nw 0) (wd 0)) (hr : WB wr (S + 1) false (nw 0) (wd 0)) (hb : Below S w wr) : DivI S x y (nw x) w wr := by
  have h0 : x / B ^ nw x % y = 0 := by rw [Nat.div_eq_of_lt (lt_nw x)]; exact Nat.zero_mod _
  refine ⟨?_, by rw [h0]; exact hr, hb⟩
  rw [if_pos rfl]
  rw [nw_zero] at hq
  refine hq.congr fun j _ => ?_
  split
  · rw [wd_zero, wd_above]; exact Nat.le_trans (nw_le.2 (Nat.lt_of_le_of_lt (Nat.div_le_self _ _) (lt_nw x))) ‹_›
  · exact wd_zero j
theorem DivI.next {S x y i D u : Nat} {w wr w' : World} (hw : WB wr S false (if i + 1 = nw x then 0 else nw x) (fun j => if i + 1 ≤ j then wd (x / y) j else 0)) (hi : i < nw x) (hx : nw x ≤ 232) (hy : 0 < y)
    (hD : D * y + u = x / B ^ (i + 1) % y * B + wd x i) (hu : u < y) (hr : WB wr (S + 1) false (nw u) (wd u)) (hb : Below S w wr)
    (e : w' = (wr.setCell ⟨S, 2 + i, none⟩ (.int .i64 (D : Nat))).setCell ⟨S, 1, none⟩ (.int .i64 (nw x : Nat))) : DivI S x y i w w' := by
  obtain ⟨d1, d2, d3⟩ := div_step x y i hy
  have hV : (x / B ^ (i + 1) % y * B + wd x i) / y = D ∧ (x / B ^ (i + 1) % y * B + wd x i) % y = u := by
    rw [← hD]
    constructor
    · rw [Nat.mul_comm, Nat.mul_add_div hy, Nat.div_eq_of_lt hu]; rfl
    · rw [Nat.mul_comm, Nat.mul_add_mod, Nat.mod_eq_of_lt hu]
  rw [hV.1] at d1 d3
  rw [hV.2] at d2
  subst e
  refine ⟨?_, ?_, (hb.setCell (Nat.le_refl _) _).setCell (Nat.le_refl _) _⟩
  · rw [if_neg (Nat.ne_of_lt hi)]
    refine ((hw.setWord (i := i) (by omega) D).setN (nw x)).congr fun j _ => ?_
    by_cases hj : j = i
    · subst hj
      rw [if_pos rfl, if_pos (Nat.le_refl _)]
      unfold wd
      rw [Nat.div_div_eq_div_mul, Nat.mul_comm y, ← Nat.div_div_eq_div_mul, d1, Nat.mul_comm, Nat.mul_add_mod, Nat.mod_eq_of_lt d3]
    · rw [if_neg hj]
      by_cases h2 : i + 1 ≤ j
      · rw [if_pos h2, if_pos (by omega)]
      · rw [if_neg h2, if_neg (by omega)]
  · rw [d2]
    exact (hr.other (by simp) _).other (by simp) _
theorem less_by {g kk y : Nat} (h : kk * y ≤ g) : ((g - kk * y : Nat) : Int) = g + -(kk : Int) * y * (B : Int) ^ 0 := by
  rw [Int.natCast_sub h, Int.natCast_mul]; grind
end Go.Proofs.YtdknneofiefieaaGreatDoor

namespace Go.Proofs.YtdknneofiefieaaGreatDoor
open Go.RowKit Go.Lib Dec Wd

set_option maxRecDepth 100000 in
set_option maxHeartbeats 4000000 in
theorem divided_c (b c : Nat) (sx sy : Bool) (x y : Nat) (hx : nw x ≤ 232) (hy : nw y ≤ 231) (hy0 : 0 < y) (w : World) (h : WB w b sx (nw x) (wd x)) (k : WB w c sy (nw y) (wd y)) :
    Calls Tryz.prog 121 #[.pointer (some ⟨b, 0, none⟩), .pointer (some ⟨c, 0, none⟩)] w fun e w' =>
      e = .returned (.tuple #[.pointer (some ⟨w.heap.size, 0, none⟩), .pointer (some ⟨w.heap.size + 1, 0, none⟩)]) ∧
      WB w' w.heap.size false (nw (x / y)) (wd (x / y)) ∧ WB w' (w.heap.size + 1) false (nw (x % y)) (wd (x % y)) ∧ Below w.heap.size w w' := by
  have hb0 : Below w.heap.size w ((w.alloc (.cells Tryz.zeroCells180 180)).alloc (.cells Tryz.zeroCells180 180)) := ((Below.refl _ w).alloc (Nat.le_refl _) _).alloc (by simp) _
  have hq0 : WB ((w.alloc (.cells Tryz.zeroCells180 180)).alloc (.cells Tryz.zeroCells180 180)) w.heap.size false (nw 0) (wd 0) :=
    (WB.newZero w).below ((Below.refl _ _).alloc (Nat.le_refl _) _) (by simp)
  have hr0 : WB ((w.alloc (.cells Tryz.zeroCells180 180)).alloc (.cells Tryz.zeroCells180 180)) (w.heap.size + 1) false (nw 0) (wd 0) := by
    have := WB.newZero (w.alloc (.cells Tryz.zeroCells180 180))
    simpa using this
  go_enter Tryz.func121, Tryz.ntmps121
  have hx1 := (h.below hb0 h.lt).cell1
  go_wp2
  go_loopg [8] (nw x) (fun m i wr => m ≤ nw x ∧ i = .int .i64 ((m : Int) - 1) ∧ DivI w.heap.size x y m w wr)
  case atStart => exact ⟨Nat.le_refl _, rfl, DivI.start _ _ _ _ _ hq0 hr0 hb0⟩
  case round =>
    obtain ⟨hm, rfl, hI⟩ := hrel
    clear hx1 hq0 hr0 hb0
    by_cases h0 : gk = 0
    · subst h0
      have hT := trimmed_c w.heap.size false (x / y) (if 0 = nw x then 0 else nw x) (by
        split
        · rename_i e; have := nw_eq_zero.1 e.symm; subst this; simp [nw_zero]
        · exact nw_le.2 (Nat.lt_of_le_of_lt (Nat.div_le_self _ _) (lt_nw x))) (by split <;> omega) wr (hI.q.congr fun j _ => by simp)
      have hR := hI.r
      rw [Nat.pow_zero, Nat.div_one] at hR
      have hB := hI.b
      clear hI
      go_wp2_with (go_at_call 157; refine hT.mono ?_; rintro e w2 ⟨rfl, hW2, hC2⟩)
      go_ret2
      exact ⟨rfl, hW2, hR.ch hC2 (by omega), hB.trans (hC2.below (Nat.le_refl _) hB.size)⟩
    · obtain ⟨i, rfl⟩ : ∃ i, gk = i + 1 := ⟨gk - 1, by omega⟩
      have hwi : (((i + 1 : Nat) : Int) - 1) = (i : Int) := by omega
      rw [hwi]
      have hR := hI.r
      have hr1 := hR.cell1
      have hB := hI.b
      have hQ := Lib.hid hI.q
      clear hI
      have hry : x / B ^ (i + 1) % y < y := Nat.mod_lt _ hy0
      have hrn : nw (x / B ^ (i + 1) % y) ≤ 231 := Nat.le_trans (nw_le.2 (Nat.lt_trans hry (lt_nw y))) hy
      generalize hr : x / B ^ (i + 1) % y = r at *
      obtain ⟨n, hn⟩ : ∃ n, nw r = n := ⟨_, rfl⟩
      rw [hn] at hr1 hrn
      have hn231 : (n : Int) ≤ 231 := by omega
      have HH := Lib.hid (And.intro hn hr)
      have hn232 : (n : Int) ≤ 232 := by omega
      rw [hn] at hR
      have hId := hR.drew
      go_wp2
      go_region_law (refine step_copy_wide rfl (.tmp 27) (.tmp 35) rfl (w.heap.size + 1) n r false hn.symm (by omega) rfl rfl hId ?_; intro w4 hW4 hb4)
      have hB4 : Below w.heap.size w w4 := hB.drew.trans (hb4.mono (Nat.le_succ _))
      have hX4 := (h.below hB4 h.lt).drew
      have e1 := hX4.word (i := i) (by omega)
      have e2 := hW4.out.drew.word (i := 0) (by omega)
      have e3 := hW4.out.drew.frozen 2
      have e5 := hW4.out.cell1
      have e6 := hW4.out.frozen 1
      have hi232 : i < 232 := by omega
      have hW5 : WB ((w4.setCell ⟨w.heap.size + 1, 2, none⟩ (.int .i64 (wd x i : Nat))).setCell ⟨w.heap.size + 1, 1, none⟩ (.int .i64 ((n : Int) + 1))).drew (w.heap.size + 1) false (n + 1) (wd (r * B + wd x i)) :=
        ((hW4.out.setWord (i := 0) (by omega) (wd x i)).setN (n + 1)).drew.congr fun j _ => shifted (wd_lt x i) j
      have hv := nw_shift (r := r) (wd_lt x i)
      rw [hn] at hv
      have HT := trimmed_c (w.heap.size + 1) false (r * B + wd x i) (n + 1) hv (by omega) _ hW5
      simp only [Nat.add_zero] at e2
      have hDS := Lib.hid (div_step x y i hy0)
      have HI := Lib.hid (And.intro hm (And.intro h0 hB))
      go_wp2
      go_region
      go_wp2_with (go_at_call 157; refine HT.mono ?_; rintro e w5 ⟨rfl, hW6, hC6⟩)
      have hB5 : Below w.heap.size w w5 := by
        refine Below.trans ?_ (hC6.below (Nat.le_succ _) ?_)
        · exact (Below.setCell (Below.setCell hB4 (Nat.le_succ _) _) (Nat.le_succ _) _).drew
        · simp; exact hB4.size
      have hS := hC6.block w.heap.size (by simp; have := hB4.size; have := (hW4.out).lt; omega) (by omega)
      have hQ5 : WB w5 w.heap.size false (if i + 1 = nw x then 0 else nw x) (fun j => if i + 1 ≤ j then wd (x / y) j else 0) :=
        ((((hQ.out.drew.below hb4 (Nat.lt_succ_self _)).other (p := ⟨w.heap.size + 1, 2, none⟩) (by simp) _).other (p := ⟨w.heap.size + 1, 1, none⟩) (by simp) _).drew).ch hC6 (by omega)
      have hQH := Lib.hid hQ5
      clear HT hW5 e1 e2 e3 e5 e6 hv hX4 hW4 hb4 hId hR hr1 hQ hQ5 hS hB4 hC6
      have hyn : nw y ≤ nw y := Nat.le_refl _
      have hrle : nw r ≤ nw y := nw_le.2 (Nat.lt_trans hry (lt_nw y))
      have hVn : nw (r * B + wd x i) ≤ nw y + 1 := Nat.le_trans (nw_shift (wd_lt x i)) (Nat.succ_le_succ hrle)
      have hVd : (r * B + wd x i) / y < B := by have := (div_step x y i hy0).2.2; rwa [hr] at this
      have hr2 := Lib.hid hr
      clear hr
      generalize hV : r * B + wd x i = V at *
      have hVH := Lib.hid hV
      clear hV
      go_loopg [9] V (fun u d wr2 => ∃ D : Nat, d = .int .i64 D ∧ D * y + u = V ∧ WB wr2 (w.heap.size + 1) false (nw u) (wd u) ∧ Ch (w.heap.size + 1) w5 wr2)
      case atStart => exact ⟨0, rfl, by omega, hW6, Ch.refl _ _⟩
      case round =>
        obtain ⟨D, rfl, hD, hU, hCh⟩ := hrel
        have hUn : nw gk ≤ nw y + 1 := Nat.le_trans (nw_le.2 (Nat.lt_of_le_of_lt (by rw [← hD]; exact Nat.le_add_left _ _) (lt_nw V))) hVn
        have hBr : Below w.heap.size w wr := hB5.trans (hCh.below (Nat.le_succ _) hB5.size)
        have hY := k.below hBr k.lt
        have hcR : w.heap.size + 1 ≠ c := by have := k.lt; omega
        have hDb : D < 1000000000 := by
          have : D ≤ V / y := (Nat.le_div_iff_mul_le hy0).2 (by omega)
          unfold B at hVd; omega
        have HB := beyond_c (w.heap.size + 1) c false sy gk y (by omega) (by omega) wr hU hY
        by_cases hge : y ≤ gk
        · have HE := est_c (w.heap.size + 1) c false sy gk y (by omega) hy (by omega) hge hUn
          have HC := fun (kk : Nat) (hk1 : kk ≤ 999999999) (hk2 : kk * y ≤ gk) => carry_c (w.heap.size + 1) c hcR.symm false sy gk y (by omega) (-(kk : Int)) (by omega) (by omega) 0 (by omega) (gk - kk * y) (less_by hk2) (Nat.le_trans (nw_le.2 (Nat.lt_of_le_of_lt (Nat.sub_le _ _) (lt_nw gk))) (by omega))
          have HX := Lib.hid (And.intro hge (And.intro hD (And.intro hVd hy0)))
          have HCH := Lib.hid hCh
          clear hVH hr2 HH HI hDS hQH hB5 hW6 hVn hrle hyn hVd hD hge hUn hn hry hrn hn231 hn232 hm h0 hy0 hBr hCh
          go_wp2_with (first
            | (go_at_call 159; refine HB.mono ?_; rintro e w1 ⟨rr, rfl, hrr, q, rfl⟩; have hrr2 := hrr.2 HX.out.1; clear hrr)
            | (go_at_call 160; refine (HE _ (hU.drewN _) (hY.drewN _)).mono ?_; rintro e w1 ⟨kk, rfl, hk0, hk1, hk2, q2, rfl⟩)
            | (go_at_call 161; refine (HC kk hk1 hk2 _ (hU.drewN _) (hY.drewN _)).mono ?_; rintro e w1 ⟨rfl, hW7, hC7⟩))
          go_roundg (gk - kk * y)
          case measure =>
            have : 1 * y ≤ kk * y := Nat.mul_le_mul_right _ hk0
            have := HX.out.2.2
            omega
          case rel =>
            obtain ⟨hge, hD, hVd, hy0⟩ := HX.out
            refine ⟨D + kk, by go_num, ?_, hW7, (HCH.out.drewN _).trans hC7⟩
            rw [Nat.add_mul]; omega
        · have hQr := hQH.out.ch hCh (by omega)
          obtain ⟨n0, hn0⟩ : ∃ n0, (if i + 1 = nw x then 0 else nw x) = n0 := ⟨_, rfl⟩
          have hn0m : max (n0 : Int) ((i : Int) + 1) = (nw x : Int) := by
            rw [← hn0]; split <;> omega
          have hNX := fun q W => DivI.next (S := w.heap.size) (x := x) (y := y) (i := i) (D := D) (u := gk) (w := w) (wr := wr.drewN q) (w' := W) (hQr.drewN q) (by omega) hx hy0 (by rw [hD, hr2.out, hVH.out]) (by omega) (hU.drewN q) (below_drewN hBr q)
          rw [hn0] at hQr
          have f1 := hQr.cell1
          obtain ⟨old, f2⟩ : ∃ old : Value, wr.cell? ⟨w.heap.size, 2 + i, none⟩ = some old := ⟨_, hQr.word (i := i) (by omega)⟩
          have f3 := hQr.frozen 1
          have f4 := hQr.frozen (2 + i)
          have HX := Lib.hid (And.intro hge (And.intro hD (And.intro hVd hy0)))
          have hii : i < 232 := by omega
          have hm3 := Lib.hid hm
          have HNX := Lib.hid hNX
          have HQR := Lib.hid hQr
          clear hQr hNX hVH hr2 HH HI hDS hQH hB5 hW6 hVn hrle hyn hVd hD hge hUn hn hry hrn hn231 hn232 hm h0 hy0 hBr hCh hU hY hn0
          go_wp2_with (go_at_call 159; refine HB.mono ?_; rintro e w1 ⟨rr, rfl, hrr, q, rfl⟩; have hrr2 : rr < 0 := Int.not_le.1 fun h => HX.out.1 (hrr.1 h); clear hrr)
          go_roundg i
          case measure => omega
          case rel =>
            have := hm3.out
            exact ⟨by omega, rfl, HNX.out _ _ (by rw [← hn0m])⟩
end Go.Proofs.YtdknneofiefieaaGreatDoor
