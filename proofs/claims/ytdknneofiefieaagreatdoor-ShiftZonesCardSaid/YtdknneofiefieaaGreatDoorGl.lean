import Derived.Test.YtdknneofiefieaaGreatDoorGk
import Derived.Test.YtdknneofiefieaaGreatDoorGa

namespace Go.Proofs.YtdknneofiefieaaGreatDoor
open Go.RowKit Go.Lib Dec Wd Rt

theorem index_slash : ∀ (l k : List UInt8), (∀ c ∈ l, c ≠ 47) → Lib.index (l ++ 47 :: k) [47] = l.length
  | [], k, _ => by unfold Lib.index; simp
  | a :: l, k, h => by
    have ih := index_slash l k fun c hc => h c (List.mem_cons_of_mem _ hc)
    have ha := h a (List.mem_cons_self ..)
    show Lib.index (a :: (l ++ 47 :: k)) [47] = _
    unfold Lib.index
    rw [ih]
    have : ([47] : List UInt8).isPrefixOf (a :: (l ++ 47 :: k)) = false := by simp [List.isPrefixOf]; exact fun e => ha e.symm
    rw [this]
    have h2 : ((l.length : Int) == -1) = false := by rw [beq_eq_false_iff_ne]; omega
    rw [h2]; simp
theorem index_noslash : ∀ (l : List UInt8), (∀ c ∈ l, c ≠ 47) → Lib.index l [47] = -1
  | [], _ => by unfold Lib.index; simp
  | a :: l, h => by
    have ih := index_noslash l fun c hc => h c (List.mem_cons_of_mem _ hc)
    have ha := h a (List.mem_cons_self ..)
    unfold Lib.index
    rw [ih]
    have : ([47] : List UInt8).isPrefixOf (a :: l) = false := by simp [List.isPrefixOf]; exact fun e => ha e.symm
    rw [this]; simp
theorem itoa_slash (n : Int) : ∀ c ∈ itoa n, c ≠ 47 := by
  intro c hc e
  subst e
  unfold itoa at hc
  split at hc
  · rcases List.mem_cons.1 hc with h | h
    · cases h
    · have := dec_digs _ _ h; unfold dig at this; simp at this
  · have := dec_digs _ _ hc; unfold dig at this; simp at this
theorem cut_rtx (q : Rat) : Lib.cut (rtx q) [47] = (itoa q.num, if q.den = 1 then [] else decDigits q.den, decide (q.den ≠ 1)) := by
  unfold Lib.cut rtx
  by_cases h : q.den = 1
  · rw [if_pos h, index_noslash _ (itoa_slash _)]
    simp [h]
  · rw [if_neg h, index_slash _ _ (itoa_slash _)]
    have : (0 : Int) ≤ ((itoa q.num).length : Int) := by omega
    rw [if_pos this]
    simp [h]

/-- the text of a rational number -/
def rt (q : Rat) : ByteArray := ⟨(rtx q).toArray⟩
theorem rt_data (q : Rat) : (rt q).data.toList = rtx q := by unfold rt; simp
structure Sq (q : Rat) : Prop where
  num : Sz q.num
  den : Sz (q.den : Int)
theorem rt_size {q : Rat} (h : Sq q) : (rt q).size ≤ 3000 := by
  have h1 := sz_len h.num
  have h2 := sz_len h.den
  rw [tx_size] at h1 h2
  rw [itoa_nat] at h2
  have : (rt q).size = (rtx q).length := by unfold rt; simp [ByteArray.size]
  rw [this]
  unfold rtx; split <;> simp <;> omega

set_option maxRecDepth 100000 in
set_option maxHeartbeats 1000000 in
theorem cut_c {q : Rat} (h : Sq q) (w : World) (g : Gd w) :
    Calls Tryz.prog 76 #[.string (rt q)] w fun e w' => e = .returned (.tuple #[.string (tx q.num), .string (tx q.den), .bool (decide (q.den ≠ 1))]) ∧ ∃ k, w' = w.drewN k := by
  have H := fun w g => Tryz.strings_Cut_shaped (rt q) ⟨#[47]⟩ w g (by have := rt_size h; omega)
  rw [rt_data] at H
  have e47 : (⟨#[47]⟩ : ByteArray).data.toList = [47] := rfl
  rw [e47, cut_rtx] at H
  clear h e47
  have hnum : (⟨(itoa q.num).toArray⟩ : ByteArray) = tx q.num := rfl
  have hone : (⟨#[49]⟩ : ByteArray) = tx 1 := by unfold tx; decide +kernel
  by_cases hd : q.den = 1
  · have e1 : decide (q.den ≠ 1) = false := by simp [hd]
    have e2 : tx (q.den : Int) = ⟨#[49]⟩ := by rw [hd]; exact hone.symm
    rw [if_pos hd, e1] at H
    rw [e1, e2]
    simp only [hnum] at H
    clear hone hnum e1 e2 hd
    generalize tx q.num = t at *
    go_enter Tryz.func76, Tryz.ntmps76
    go_wp2_with (go_at_call 113; refine (H _ g.shaped).mono ?_; rintro e w' ⟨rfl, k, rfl⟩)
    go_ret3
    exact ⟨rfl, _, rfl⟩
  · have hf : decide (q.den ≠ 1) = true := by simpa using hd
    rw [hf] at *
    rw [if_neg hd] at H
    have hden : (⟨(decDigits q.den).toArray⟩ : ByteArray) = tx q.den := by unfold tx; rw [itoa_nat]
    simp only [hnum, hden] at H
    clear hone hnum hden hf
    generalize tx q.num = t at *
    generalize tx q.den = t2 at *
    go_enter Tryz.func76, Tryz.ntmps76
    go_wp2_with (go_at_call 113; refine (H _ g.shaped).mono ?_; rintro e w' ⟨rfl, k, rfl⟩)
    go_ret3
    exact ⟨rfl, _, rfl⟩
end Go.Proofs.YtdknneofiefieaaGreatDoor

namespace Go.Proofs.YtdknneofiefieaaGreatDoor
open Go.RowKit Go.Lib Dec Wd Rt

theorem tx_one (n : Int) : ((tx n).toList == [49]) = decide (n = 1) := by
  have e : (tx n).toList = itoa n := tx_list n
  have h1 : itoa 1 = [49] := by decide +kernel
  rw [e, ← h1]
  by_cases h : n = 1
  · subst h; simp
  · rw [decide_eq_false h, beq_eq_false_iff_ne]
    exact fun e => h (itoa_inj e)
theorem one_ten (k : Nat) (h : k ≠ 0) : Int.natAbs 1 < 10 ^ k := Nat.lt_of_lt_of_le (by decide : (1 : Nat) < 10) (Nat.le_self_pow h 10)
theorem sz_one : Sz 1 := ⟨one_ten 1024 (by decide)⟩
theorem rt_one {q : Rat} (h : q.den = 1) : rt q = tx q.num := by unfold rt rtx tx; rw [if_pos h]
theorem rt_frac {q : Rat} (h : q.den ≠ 1) : rt q = tx q.num ++ (⟨#[47]⟩ : ByteArray) ++ tx q.den := by
  refine bytes_ext ?_
  rw [rt_data, ByteArray.data_append, Array.toList_append, ByteArray.data_append, Array.toList_append, tx_data, tx_data]
  unfold rtx; rw [if_neg h, itoa_nat]; simp

set_option maxRecDepth 100000 in
set_option maxHeartbeats 1000000 in
theorem joined_c {q : Rat} (h : Sq q) (w : World) :
    Calls Tryz.prog 206 #[.string (tx q.num), .string (tx q.den)] w fun e w' => e = .returned (.string (rt q)) ∧ w = w' := by
  have s1 := sz_len h.num
  have s2 := sz_len h.den
  have h1 := tx_one q.den
  clear h
  by_cases hd : q.den = 1
  · have e : decide ((q.den : Int) = 1) = true := by simp [hd]
    rw [e] at h1
    rw [rt_one hd]
    clear hd e
    go_enter Tryz.func206, Tryz.ntmps206
    go_wp2
    go_ret
    exact ⟨rfl, rfl⟩
  · have e : decide ((q.den : Int) = 1) = false := by rw [decide_eq_false_iff_not]; omega
    rw [e] at h1
    have hf := Lib.hid (rt_frac hd)
    clear hd e
    go_enter Tryz.func206, Tryz.ntmps206
    go_wp2
    go_ret
    exact ⟨by rw [hf.out]; rfl, rfl⟩

set_option maxRecDepth 100000 in
set_option maxHeartbeats 1000000 in
theorem rCheck_c {q : Rat} (h : Sq q) (w : World) (g : Gd w) :
    Calls Tryz.prog 47 #[.string (rt q)] w fun e w' => e = .returned (.int .i64 0) ∧ Below w.heap.size w w' := by
  have HC := cut_c h w g
  have K1 := check_tx h.num
  have K2 := check_tx h.den
  by_cases hd : q.den = 1
  · have e : decide (q.den ≠ 1) = false := by simp [hd]
    rw [e] at HC
    clear h hd e
    go_enter Tryz.func47, Tryz.ntmps47
    go_wp2_with (go_at_call 76; refine HC.mono ?_; rintro e w1 ⟨rfl, k, rfl⟩)
    refine (K1 _).mono ?_
    rintro e w2 ⟨rfl, hb2⟩
    go_wp2_with fail
    refine (K2 _).mono ?_
    rintro e w3 ⟨rfl, hb3⟩
    go_wp2_with fail
    go_ret
    exact ⟨rfl, Bl.trans (Bl.trans (below_drewN (Below.refl _ w) k) hb2) hb3⟩
  · have e : decide (q.den ≠ 1) = true := by simpa using hd
    rw [e] at HC
    have hone : (⟨#[49]⟩ : ByteArray) = tx 1 := by unfold tx; decide +kernel
    have K3 := Compare_c (a := (q.den : Int)) (b := 1) h.den sz_one
    have hc : cmpZ (q.den : Int) 1 = 1 := by
      unfold cmpZ
      have := q.den_nz
      rw [if_neg (by omega), if_pos (by omega)]
    rw [hc, ← hone] at K3
    have K4 := fun w g => Gcd_c h.num h.den w g
    have hg : Nat.gcd q.num.natAbs ((q.den : Int).natAbs) = 1 := q.reduced
    rw [hg] at K4
    have h1 : ((tx 1).toList == [49]) = true := by rw [tx_one]; rfl
    clear h hd e hc hg hone
    go_enter Tryz.func47, Tryz.ntmps47
    go_wp2_with (go_at_call 76; refine HC.mono ?_; rintro e w1 ⟨rfl, k, rfl⟩)
    refine (K1 _).mono ?_
    rintro e w2 ⟨rfl, hb2⟩
    go_wp2_with fail
    refine (K2 _).mono ?_
    rintro e w3 ⟨rfl, hb3⟩
    go_wp2_with fail
    have B3 := Bl.trans (Bl.trans (below_drewN (Below.refl _ w) k) hb2) hb3
    refine (K3 _).mono ?_
    rintro e w4 ⟨rfl, hb4⟩
    go_wp2_with fail
    refine (K4 _ (g.below (Bl.trans B3 hb4))).mono ?_
    rintro e w5 ⟨rfl, hb5⟩
    go_wp2_with fail
    go_ret
    exact ⟨rfl, Bl.trans (Bl.trans B3 hb4) hb5⟩
end Go.Proofs.YtdknneofiefieaaGreatDoor

namespace Go.Proofs.YtdknneofiefieaaGreatDoor
open Go.RowKit Go.Lib Dec Wd Rt

/-- block p holds a sums without an error; all below w0 is as in w0 -/
structure St (w0 : World) (p : Nat) (w : World) : Prop where
  g : Gd w0
  b : Below w0.heap.size w0 w
  lo : w0.heap.size ≤ p
  out : w.heap[p]? = some (.cells #[.int .i64 0] 242 (0, 0))
theorem St.lt {w0 w : World} {p : Nat} (h : St w0 p w) : p < w.heap.size := (Array.getElem?_eq_some_iff.1 h.out).1
theorem St.gd {w0 w : World} {p : Nat} (h : St w0 p w) : Gd w := h.g.below h.b
theorem St.cell {w0 w : World} {p : Nat} (h : St w0 p w) : w.cell? ⟨p, 0, none⟩ = some (.int .i64 0) := by
  unfold World.cell?; simp only [h.out]; rfl
theorem St.frozen {w0 w : World} {p : Nat} (h : St w0 p w) : w.frozen? ⟨p, 0, none⟩ = false := by
  unfold World.frozen?; simp only [h.out]; simp
theorem St.below {w0 w w' : World} {p : Nat} (h : St w0 p w) (hb : Below w.heap.size w w') : St w0 p w' :=
  ⟨h.g, h.b.trans (hb.mono h.b.size), h.lo, (hb.block p h.lt).trans h.out⟩
theorem St.set {w0 w : World} {p : Nat} (h : St w0 p w) : St w0 p (w.setCell ⟨p, 0, none⟩ (.int .i64 0)) := by
  refine ⟨h.g, h.b.setCell (p := ⟨p, 0, none⟩) h.lo _, h.lo, ?_⟩
  simp only [World.setCell, Array.getElem?_modify, h.out]
  simp

/-- what an operation on integers returns -/
def OpR (z : Int) (w : World) (e : Ending) (w' : World) : Prop := e = .returned (.tuple #[.string (tx z), .int .i64 0]) ∧ Below w.heap.size w w'
/-- what an operation of sums returns -/
def SumR (w0 : World) (p : Nat) (v : Value) (w : World) (e : Ending) (w' : World) : Prop := e = .returned v ∧ St w0 p w' ∧ Ch p w w'

set_option maxRecDepth 100000 in
set_option maxHeartbeats 1000000 in
theorem do_Add (x y z : Int) (H : ∀ w, Gd w → Calls Tryz.prog 243 #[.string (tx x), .string (tx y)] w (OpR z w)) (w0 : World) (p : Nat) (w : World) (h : St w0 p w) :
    Calls Tryz.prog 204 #[.pointer (some ⟨p, 0, none⟩), .func (.func 243) #[] #[], .string (tx x), .string (tx y)] w (SumR w0 p (.string (tx z)) w) := by
  have c := h.cell
  have H1 := H w h.gd
  clear H
  go_enter Tryz.func204, Tryz.ntmps204
  go_wp2_with fail
  refine H1.mono ?_
  rintro e w1 ⟨rfl, hb1⟩
  have h1 := h.below hb1
  have c1 := h1.cell
  have c2 := h1.frozen
  go_wp2_with fail
  go_ret
  exact ⟨rfl, h1.set, (Ch.of hb1).set _ _⟩

set_option maxRecDepth 100000 in
set_option maxHeartbeats 1000000 in
theorem do_Sub (x y z : Int) (H : ∀ w, Gd w → Calls Tryz.prog 226 #[.string (tx x), .string (tx y)] w (OpR z w)) (w0 : World) (p : Nat) (w : World) (h : St w0 p w) :
    Calls Tryz.prog 204 #[.pointer (some ⟨p, 0, none⟩), .func (.func 226) #[] #[], .string (tx x), .string (tx y)] w (SumR w0 p (.string (tx z)) w) := by
  have c := h.cell
  have H1 := H w h.gd
  clear H
  go_enter Tryz.func204, Tryz.ntmps204
  go_wp2_with fail
  refine H1.mono ?_
  rintro e w1 ⟨rfl, hb1⟩
  have h1 := h.below hb1
  have c1 := h1.cell
  have c2 := h1.frozen
  go_wp2_with fail
  go_ret
  exact ⟨rfl, h1.set, (Ch.of hb1).set _ _⟩

set_option maxRecDepth 100000 in
set_option maxHeartbeats 1000000 in
theorem do_Mul (x y z : Int) (H : ∀ w, Gd w → Calls Tryz.prog 227 #[.string (tx x), .string (tx y)] w (OpR z w)) (w0 : World) (p : Nat) (w : World) (h : St w0 p w) :
    Calls Tryz.prog 204 #[.pointer (some ⟨p, 0, none⟩), .func (.func 227) #[] #[], .string (tx x), .string (tx y)] w (SumR w0 p (.string (tx z)) w) := by
  have c := h.cell
  have H1 := H w h.gd
  clear H
  go_enter Tryz.func204, Tryz.ntmps204
  go_wp2_with fail
  refine H1.mono ?_
  rintro e w1 ⟨rfl, hb1⟩
  have h1 := h.below hb1
  have c1 := h1.cell
  have c2 := h1.frozen
  go_wp2_with fail
  go_ret
  exact ⟨rfl, h1.set, (Ch.of hb1).set _ _⟩

set_option maxRecDepth 100000 in
set_option maxHeartbeats 1000000 in
theorem do_Gcd (x y z : Int) (H : ∀ w, Gd w → Calls Tryz.prog 79 #[.string (tx x), .string (tx y)] w (OpR z w)) (w0 : World) (p : Nat) (w : World) (h : St w0 p w) :
    Calls Tryz.prog 204 #[.pointer (some ⟨p, 0, none⟩), .func (.func 79) #[] #[], .string (tx x), .string (tx y)] w (SumR w0 p (.string (tx z)) w) := by
  have c := h.cell
  have H1 := H w h.gd
  clear H
  go_enter Tryz.func204, Tryz.ntmps204
  go_wp2_with fail
  refine H1.mono ?_
  rintro e w1 ⟨rfl, hb1⟩
  have h1 := h.below hb1
  have c1 := h1.cell
  have c2 := h1.frozen
  go_wp2_with fail
  go_ret
  exact ⟨rfl, h1.set, (Ch.of hb1).set _ _⟩

set_option maxRecDepth 100000 in
set_option maxHeartbeats 1000000 in
theorem do_Quo (x y z : Int) (H : ∀ w, Gd w → Calls Tryz.prog 207 #[.string (tx x), .string (tx y)] w (OpR z w)) (w0 : World) (p : Nat) (w : World) (h : St w0 p w) :
    Calls Tryz.prog 204 #[.pointer (some ⟨p, 0, none⟩), .func (.func 207) #[] #[], .string (tx x), .string (tx y)] w (SumR w0 p (.string (tx z)) w) := by
  have c := h.cell
  have H1 := H w h.gd
  clear H
  go_enter Tryz.func204, Tryz.ntmps204
  go_wp2_with fail
  refine H1.mono ?_
  rintro e w1 ⟨rfl, hb1⟩
  have h1 := h.below hb1
  have c1 := h1.cell
  have c2 := h1.frozen
  go_wp2_with fail
  go_ret
  exact ⟨rfl, h1.set, (Ch.of hb1).set _ _⟩

end Go.Proofs.YtdknneofiefieaaGreatDoor

namespace Go.Proofs.YtdknneofiefieaaGreatDoor
open Go.RowKit Go.Lib Dec Wd Rt

set_option maxRecDepth 100000 in
set_option maxHeartbeats 1000000 in
theorem sadd_c {a b : Int} (ha : Sz a) (hb : Sz b) (hs : Sz (a + b)) (w0 : World) (p : Nat) (w : World) (h : St w0 p w) :
    Calls Tryz.prog 225 #[.pointer (some ⟨p, 0, none⟩), .string (tx a), .string (tx b)] w (SumR w0 p (.string (tx (a + b))) w) := by
  have H := do_Add a b (a + b) (fun w g => Add_c ha hb hs w g) w0 p w h
  go_enter Tryz.func225, Tryz.ntmps225
  go_wp2_with (go_at_call 204; refine H.mono ?_; rintro e w1 ⟨rfl, h1, h2⟩)
  go_ret
  exact ⟨rfl, h1, h2⟩
set_option maxRecDepth 100000 in
set_option maxHeartbeats 1000000 in
theorem ssub_c {a b : Int} (ha : Sz a) (hb : Sz b) (hs : Sz (a - b)) (w0 : World) (p : Nat) (w : World) (h : St w0 p w) :
    Calls Tryz.prog 197 #[.pointer (some ⟨p, 0, none⟩), .string (tx a), .string (tx b)] w (SumR w0 p (.string (tx (a - b))) w) := by
  have H := do_Sub a b (a - b) (fun w g => Sub_c ha hb hs w g) w0 p w h
  go_enter Tryz.func197, Tryz.ntmps197
  go_wp2_with (go_at_call 204; refine H.mono ?_; rintro e w1 ⟨rfl, h1, h2⟩)
  go_ret
  exact ⟨rfl, h1, h2⟩

/-- the product of a list -/
def prod (l : List Int) : Int := l.foldl (· * ·) 1
theorem prod_take {l : List Int} {k : Nat} {x : Int} (h : l[k]? = some x) : prod (l.take (k + 1)) = prod (l.take k) * x := by
  unfold prod
  rw [List.take_add_one, h, List.foldl_append]
  rfl

set_option maxRecDepth 100000 in
set_option maxHeartbeats 1000000 in
theorem smul_c (b c : Nat) (l : List Int) (hl : ∀ n ∈ l, Sz n) (hp : ∀ k, Sz (prod (l.take k))) (hn : l.length ≤ 100) (w0 : World) (p : Nat) (w : World) (h : St w0 p w)
    (hc : ∀ j x, l[j]? = some x → w.cell? ⟨b, j, none⟩ = some (.string (tx x))) (hbw : b < w.heap.size) (hbp : b ≠ p) :
    Calls Tryz.prog 198 #[.pointer (some ⟨p, 0, none⟩), .slice (some ⟨b, 0, none⟩) l.length c] w (SumR w0 p (.string (tx (prod l))) w) := by
  have hone : (⟨#[49]⟩ : ByteArray) = tx 1 := by unfold tx; decide +kernel
  have HO := Lib.hid hone
  clear hone
  go_enter Tryz.func198, Tryz.ntmps198
  go_wp2
  go_loopg [5, 13] l.length (fun m o i wr => ∃ k : Nat, k + m = l.length ∧ o = .string (tx (prod (l.take k))) ∧ i = .int .i64 k ∧ St w0 p wr ∧ Ch p w wr)
  case atStart => exact ⟨0, by omega, by rw [HO.out]; rfl, rfl, h, Ch.refl _ _⟩
  case round =>
    obtain ⟨k, hm, rfl, rfl, hS, hC⟩ := hrel
    by_cases hlt : k < l.length
    · obtain ⟨x, hx⟩ : ∃ x, l[k]? = some x := ⟨_, List.getElem?_eq_getElem hlt⟩
      have hcell : wr.cell? ⟨b, k, none⟩ = some (.string (tx x)) := (World.cell?_of_block (w := w) (hC.block b hbw hbp)).trans (hc k x hx)
      have hz : Sz x := hl _ (List.mem_of_getElem? hx)
      have hz1 := hp k
      have hz2 := hp (k + 1)
      have e := prod_take hx
      rw [e] at hz2
      have HD := do_Mul (prod (l.take k)) x (prod (l.take k) * x) (fun w g => Mul_c hz1 hz hz2 w g) w0 p wr hS
      rw [← e] at HD
      have HM := Lib.hid hm
      clear e hz1 hz2 hz hx hm hc hl hp
      generalize tx (prod (l.take k)) = t1 at *
      go_wp2_with (go_at_call 204; refine HD.mono ?_; rintro e w1 ⟨rfl, h1, h2⟩)
      go_roundg (gk - 1)
      case measure => have := HM.out; omega
      case rel => exact ⟨k + 1, by have := HM.out; omega, rfl, by go_num, h1, hC.trans h2⟩
    · have hk : k = l.length := by omega
      subst hk
      rw [List.take_length]
      clear hc hl hp
      go_wp2_with fail
      go_ret
      exact ⟨rfl, hS, hC⟩
end Go.Proofs.YtdknneofiefieaaGreatDoor

namespace Go.Proofs.YtdknneofiefieaaGreatDoor
open Go.RowKit Go.Lib Dec Wd Rt

theorem gs_ne {num den : Int} (h : den ≠ 0) : gs num den ≠ 0 := by
  have := gcd_pos (num := num) h
  unfold gs; split <;> omega
theorem gs_num {num den : Int} (h : den ≠ 0) : num = gs num den * (Rat.divInt num den).num := by
  rw [← low_num h, Int.mul_ediv_cancel']
  unfold gs; split
  · exact (Int.neg_dvd).2 (Int.gcd_dvd_left _ _)
  · exact Int.gcd_dvd_left _ _
theorem gs_den {num den : Int} (h : den ≠ 0) : den = gs num den * ((Rat.divInt num den).den : Int) := by
  rw [← low_den h, Int.mul_ediv_cancel']
  unfold gs; split
  · exact (Int.neg_dvd).2 (Int.gcd_dvd_right _ _)
  · exact Int.gcd_dvd_right _ _
theorem Sz.le {a b : Int} (h : Sz b) (hle : a.natAbs ≤ b.natAbs) : Sz a := ⟨Nat.lt_of_le_of_lt hle h.out⟩
theorem sz_gcd {num den : Int} (h : Sz den) (h0 : den ≠ 0) : Sz ((Nat.gcd num.natAbs den.natAbs : Nat) : Int) :=
  h.le (Nat.le_of_dvd (Int.natAbs_pos.2 h0) (Nat.gcd_dvd_right _ _))
theorem low_sq {num den : Int} (h1 : Sz num) (h2 : Sz den) (h0 : den ≠ 0) : Sq (Rat.divInt num den) := ⟨h1.le (num_le h0), h2.le (den_le h0)⟩
theorem neg_prefix (n : Int) : Lib.hasPrefix (tx n).data.toList [45] = decide (n < 0) := by
  rw [tx_data]
  obtain ⟨c, t, e, h⟩ := itoa_head n
  rw [e]
  unfold Lib.hasPrefix
  by_cases hn : n < 0
  · rw [h.2 hn]; simp [hn]
  · have : c ≠ 45 := fun e => hn (h.1 e)
    simp [hn, List.isPrefixOf]; exact fun e => this e.symm

set_option maxRecDepth 100000 in
set_option maxHeartbeats 1000000 in
theorem lowest_c {num den : Int} (h1 : Sz num) (h2 : Sz den) (h0 : den ≠ 0) (w0 : World) (p : Nat) (w : World) (h : St w0 p w) :
    Calls Tryz.prog 181 #[.pointer (some ⟨p, 0, none⟩), .string (tx num), .string (tx den)] w (SumR w0 p (.string (rt (Rat.divInt num den))) w) := by
  have hsq := low_sq h1 h2 h0
  have hzg := sz_gcd (num := num) h2 h0
  have hgs : Sz (gs num den) := hzg.le (by unfold gs; split <;> rw [show Int.gcd num den = Nat.gcd num.natAbs den.natAbs from rfl] <;> omega)
  have DG := fun w h => do_Gcd num den (Nat.gcd num.natAbs den.natAbs : Nat) (fun w g => Gcd_c h1 h2 w g) w0 p w h
  have Q1 := fun w h => do_Quo num (gs num den) (Rat.divInt num den).num (fun w g => Quo_c h1 hgs hsq.num (gs_ne h0) (gs_num h0) w g) w0 p w h
  have Q2 := fun w h => do_Quo den (gs num den) (Rat.divInt num den).den (fun w g => Quo_c h2 hgs hsq.den (gs_ne h0) (gs_den h0) w g) w0 p w h
  have HJ := joined_c hsq
  have HP := Tryz.strings_HasPrefix (tx den) ⟨#[45]⟩
  have e45 : (⟨#[45]⟩ : ByteArray).data.toList = [45] := rfl
  rw [e45, neg_prefix] at HP
  clear e45 hsq
  by_cases hneg : den < 0
  · have hg : (0 : Int) - ((Nat.gcd num.natAbs den.natAbs : Nat) : Int) = gs num den := by
      unfold gs; rw [if_pos hneg, show Int.gcd num den = Nat.gcd num.natAbs den.natAbs from rfl]; omega
    have SS := fun w h => ssub_c (a := 0) sz_zero hzg (by rw [hg]; exact hgs) w0 p w h
    rw [hg] at SS
    have hz0 : (⟨#[48]⟩ : ByteArray) = tx 0 := by unfold tx; rw [itoa_zero]
    rw [← hz0] at SS
    rw [decide_eq_true hneg] at HP
    clear h1 h2 h0 hzg hgs hg hz0 hneg
    generalize tx (gs num den) = tg at *
    generalize tx ((Nat.gcd num.natAbs den.natAbs : Nat) : Int) = tg2 at *
    go_enter Tryz.func181, Tryz.ntmps181
    go_wp2_with fail
    refine (DG _ h).mono ?_
    rintro e w1 ⟨rfl, s1, c1⟩
    go_wp2_with fail
    refine (HP _).mono ?_
    rintro e w2 ⟨rfl, rfl⟩
    go_wp2_with fail
    refine (SS _ s1).mono ?_
    rintro e w3 ⟨rfl, s3, c3⟩
    have d3 := s3.cell
    go_wp2_with fail
    refine (Q1 _ s3).mono ?_
    rintro e w4 ⟨rfl, s4, c4⟩
    go_wp2_with fail
    refine (Q2 _ s4).mono ?_
    rintro e w5 ⟨rfl, s5, c5⟩
    go_wp2_with fail
    refine (HJ _).mono ?_
    rintro e w6 ⟨rfl, rfl⟩
    go_wp2_with fail
    go_ret
    exact ⟨rfl, s5, (((c1.trans c3).trans c4).trans c5)⟩
  · have hg : ((Nat.gcd num.natAbs den.natAbs : Nat) : Int) = gs num den := by
      unfold gs; rw [if_neg hneg, show Int.gcd num den = Nat.gcd num.natAbs den.natAbs from rfl]
    rw [hg] at DG
    rw [decide_eq_false hneg] at HP
    clear h1 h2 h0 hzg hgs hg hneg
    generalize tx (gs num den) = tg at *
    go_enter Tryz.func181, Tryz.ntmps181
    go_wp2_with fail
    refine (DG _ h).mono ?_
    rintro e w1 ⟨rfl, s1, c1⟩
    have d3 := s1.cell
    go_wp2_with fail
    refine (HP _).mono ?_
    rintro e w2 ⟨rfl, rfl⟩
    go_wp2_with fail
    refine (Q1 _ s1).mono ?_
    rintro e w4 ⟨rfl, s4, c4⟩
    go_wp2_with fail
    refine (Q2 _ s4).mono ?_
    rintro e w5 ⟨rfl, s5, c5⟩
    go_wp2_with fail
    refine (HJ _).mono ?_
    rintro e w6 ⟨rfl, rfl⟩
    go_wp2_with fail
    go_ret
    exact ⟨rfl, s5, ((c1.trans c4).trans c5)⟩
end Go.Proofs.YtdknneofiefieaaGreatDoor

namespace Go.Proofs.YtdknneofiefieaaGreatDoor
open Go.RowKit Go.Lib Dec Wd Rt

set_option maxRecDepth 100000 in
set_option maxHeartbeats 1000000 in
theorem ssign_c {a : Int} (ha : Sz a) (w0 : World) (p : Nat) (w : World) (h : St w0 p w) :
    Calls Tryz.prog 224 #[.pointer (some ⟨p, 0, none⟩), .string (tx a)] w (SumR w0 p (.int .i64 a.sign) w) := by
  have c := h.cell
  have H1 := Sign_c ha w
  clear ha
  go_enter Tryz.func224, Tryz.ntmps224
  go_wp2_with fail
  refine H1.mono ?_
  rintro e w1 ⟨rfl, hb1⟩
  have h1 := h.below hb1
  have c1 := h1.cell
  have c2 := h1.frozen
  go_wp2_with fail
  go_ret
  exact ⟨rfl, h1.set, (Ch.of hb1).set _ _⟩

/-- checks of rational numbers -/
theorem checks_loop (b c : Nat) (l : List Rat) (hl : ∀ q ∈ l, Sq q) (hn : l.length ≤ 100) (w : World) (g : Gd w)
    (hc : ∀ j q, l[j]? = some q → w.cell? ⟨b, j, none⟩ = some (.string (rt q))) (hbw : b < w.heap.size) :
    Calls Tryz.prog 202 #[.slice (some ⟨b, 0, none⟩) l.length c] w fun e w' => e = .returned (.int .i64 0) ∧ Below w.heap.size w w' := by
  go_enter Tryz.func202, Tryz.ntmps202
  go_wp2
  go_loopw [8] (fun i wr => ∃ k : Nat, k ≤ l.length ∧ i = .int .i64 k ∧ Below w.heap.size w wr) (fun i _ => l.length - (RowKit.intOf i).toNat)
  case atStart => exact ⟨0, Nat.zero_le _, rfl, Below.refl _ _⟩
  case round =>
    obtain ⟨k, hk, rfl, hB⟩ := hrel
    by_cases hlt : k < l.length
    · obtain ⟨x, hx⟩ : ∃ x, l[k]? = some x := ⟨_, List.getElem?_eq_getElem hlt⟩
      have hcell : wr.cell? ⟨b, k, none⟩ = some (.string (rt x)) := (hB.cell (p := ⟨b, k, none⟩) hbw).trans (hc k x hx)
      have hz : Sq x := hl _ (List.mem_of_getElem? hx)
      have H := rCheck_c hz wr (g.below hB)
      clear hx hc hl hz
      go_wp2_with (go_at_call 47; refine H.mono ?_; rintro e w' ⟨rfl, hb⟩)
      go_roundw
      case rel => exact ⟨k + 1, by omega, by go_num, hB.trans (hb.mono hB.size)⟩
      case measure => simp [RowKit.intOf]; omega
    · go_wp2
      go_ret
      exact ⟨rfl, hB⟩
end Go.Proofs.YtdknneofiefieaaGreatDoor
