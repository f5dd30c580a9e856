import Derived.Lib.Strings
import Derived.Laws.BytesString
import Derived.Lib.SlBytesRow
import Derived.Test.YtdknneofiefieaaGreatDoorGp

namespace Go.Proofs.YtdknneofiefieaaGreatDoor
open Go.RowKit Go.Lib Dec

/-- a text out of its bytes -/
def S (l : List UInt8) : ByteArray := ⟨l.toArray⟩
theorem S_size (l : List UInt8) : (S l).size = l.length := by unfold S; simp [ByteArray.size]
theorem S_list (l : List UInt8) : (S l).toList = l := by unfold S; simp
theorem S_tx (n : Int) : tx n = S (itoa n) := rfl
theorem S_ext (l : List UInt8) (a b : Nat) : (S l).extract a b = S ((l.take b).drop a) := by
  unfold S
  apply ByteArray.ext
  simp [ByteArray.data_extract, List.extract_toArray, List.drop_take]
theorem S_app (l k : List UInt8) : S l ++ S k = S (l ++ k) := by
  unfold S
  apply ByteArray.ext
  simp
theorem S_nil (l : List UInt8) : ((S l).toList == []) = l.isEmpty := by rw [S_list]; cases l <;> rfl
/-- the text of a natural number -/
def nt (n : Nat) : ByteArray := S (decDigits n)
theorem itoa_nn (n : Nat) : itoa (n : Int) = decDigits n := by
  unfold itoa; rw [if_neg (by omega)]; simp
theorem itoa_ng {n : Nat} (h : n ≠ 0) : itoa (-(n : Int)) = 45 :: decDigits n := by
  unfold itoa; rw [if_pos (by omega)]; simp
theorem tx_nn (n : Nat) : tx (n : Int) = nt n := by rw [S_tx, itoa_nn]; rfl
theorem tx_ng {n : Nat} (h : n ≠ 0) : tx (-(n : Int)) = S (45 :: decDigits n) := by rw [S_tx, itoa_ng h]
theorem nt_tx (n : Nat) : nt n = tx (n : Int) := (tx_nn n).symm
theorem int_cases (n : Int) : (∃ k : Nat, n = k) ∨ ∃ k : Nat, k ≠ 0 ∧ n = -(k : Int) := by
  by_cases h : 0 ≤ n
  · exact .inl ⟨n.toNat, by omega⟩
  · exact .inr ⟨(-n).toNat, by omega, by omega⟩
theorem dec_ne45 (n : Nat) : ∃ c t, decDigits n = c :: t ∧ ((c.toNat : Int) == 45) = false := by
  obtain ⟨c, t, e, hc⟩ := dec_head n
  refine ⟨c, t, e, ?_⟩
  unfold dig at hc
  rw [beq_eq_false_iff_ne]; omega

set_option maxRecDepth 100000 in
set_option maxHeartbeats 1000000 in
theorem rsz_n (t : List UInt8) (w : World) : Calls Tryz.prog 90 #[.string (S (45 :: t))] w fun e w' => e = .returned (.string (S t)) ∧ w' = w := by
  have h1 : ((S (45 :: t)).toList == []) = false := by rw [S_list]; rfl
  have h2 : 0 < (S (45 :: t)).size := by rw [S_size]; simp
  have h3 : (S (45 :: t))[0]'h2 = 45 := rfl
  have h4 : (S (45 :: t)).extract 1 (S (45 :: t)).size = S t := by rw [S_ext, S_size]; simp
  go_enter Tryz.func90, Tryz.ntmps90
  go_wp2
  go_ret
  exact ⟨rfl, rfl⟩
set_option maxRecDepth 100000 in
set_option maxHeartbeats 1000000 in
theorem rsz_p (c : UInt8) (t : List UInt8) (hc : ((c.toNat : Int) == 45) = false) (w : World) : Calls Tryz.prog 90 #[.string (S (c :: t))] w fun e w' => e = .returned (.string (S (c :: t))) ∧ w' = w := by
  have h1 : ((S (c :: t)).toList == []) = false := by rw [S_list]; rfl
  have h2 : 0 < (S (c :: t)).size := by rw [S_size]; simp
  have h3 : (S (c :: t))[0]'h2 = c := rfl
  go_enter Tryz.func90, Tryz.ntmps90
  go_wp2
  go_ret
  exact ⟨rfl, rfl⟩
theorem rsz_c (n : Int) (w : World) : Calls Tryz.prog 90 #[.string (tx n)] w fun e w' => e = .returned (.string (nt n.natAbs)) ∧ w' = w := by
  rcases int_cases n with ⟨k, rfl⟩ | ⟨k, hk, rfl⟩
  · rw [tx_nn, Int.natAbs_natCast]
    unfold nt
    obtain ⟨c, t, e, hc⟩ := dec_ne45 k
    rw [e]; exact rsz_p c t hc w
  · rw [tx_ng hk, Int.natAbs_neg, Int.natAbs_natCast]
    exact rsz_n _ w
set_option maxRecDepth 100000 in
set_option maxHeartbeats 1000000 in
theorem rbelow_c (n : Int) (w : World) : Calls Tryz.prog 91 #[.string (tx n)] w fun e w' => e = .returned (.bool (decide (n < 0))) ∧ w' = w := by
  have h1 := tx_pos n
  have h2 := tx_get0 n h1
  generalize decide (n < 0) = b at *
  go_enter Tryz.func91, Tryz.ntmps91
  go_wp2
  go_ret
  exact ⟨rfl, rfl⟩
set_option maxRecDepth 100000 in
set_option maxHeartbeats 1000000 in
theorem rsigned_f (l : List UInt8) (w : World) : Calls Tryz.prog 92 #[.string (S l), .bool false] w fun e w' => e = .returned (.string (S l)) ∧ w' = w := by
  go_enter Tryz.func92, Tryz.ntmps92
  go_wp2
  go_ret
  exact ⟨rfl, rfl⟩
set_option maxRecDepth 100000 in
set_option maxHeartbeats 1000000 in
theorem rsigned_z (w : World) : Calls Tryz.prog 92 #[.string (S [48]), .bool true] w fun e w' => e = .returned (.string (S [48])) ∧ w' = w := by
  have h1 : ((S [48]).toList == [48]) = true := by rw [S_list]; rfl
  go_enter Tryz.func92, Tryz.ntmps92
  go_wp2
  go_ret
  exact ⟨rfl, rfl⟩
set_option maxRecDepth 100000 in
set_option maxHeartbeats 1000000 in
theorem rsigned_t (l : List UInt8) (hl : l ≠ [48]) (h9 : l.length ≤ 1000000) (w : World) : Calls Tryz.prog 92 #[.string (S l), .bool true] w fun e w' => e = .returned (.string (S (45 :: l))) ∧ w' = w := by
  have h1 : ((S l).toList == [48]) = false := by rw [S_list, beq_eq_false_iff_ne]; exact hl
  have h2 : (⟨#[45]⟩ : ByteArray) ++ S l = S (45 :: l) := S_app [45] l
  have h3 : (S l).size ≤ 1000000 := by rw [S_size]; exact h9
  go_enter Tryz.func92, Tryz.ntmps92
  go_wp2
  go_ret
  exact ⟨rfl, rfl⟩
theorem rsigned_c (m : Nat) (b : Bool) (hm : (decDigits m).length ≤ 1000000) (w : World) : Calls Tryz.prog 92 #[.string (nt m), .bool b] w fun e w' => e = .returned (.string (tx (if b then -(m : Int) else m))) ∧ w' = w := by
  cases b with
  | false => rw [if_neg (by decide), tx_nn]; exact rsigned_f _ w
  | true =>
    rw [if_pos rfl]
    by_cases h : m = 0
    · subst h
      have e : decDigits 0 = [48] := by decide +kernel
      have e2 : tx (-((0 : Nat) : Int)) = S [48] := by decide +kernel
      unfold nt
      rw [e, e2]; exact rsigned_z w
    · rw [tx_ng h]
      refine rsigned_t _ ?_ hm w
      intro e
      have := vd_dec m
      rw [e] at this
      exact h (by rw [← this]; decide)
set_option maxRecDepth 100000 in
set_option maxHeartbeats 1000000 in
theorem rturned_c (n : Int) (hm : (decDigits n.natAbs).length ≤ 1000000) (w : World) : Calls Tryz.prog 96 #[.string (tx n)] w fun e w' => e = .returned (.string (tx (-n))) ∧ w' = w := by
  have H1 := rsz_c n w
  have H2 := rbelow_c n w
  have H3 := rsigned_c n.natAbs (!decide (n < 0)) hm w
  have e : (if (!decide (n < 0)) = true then -((n.natAbs : Nat) : Int) else (n.natAbs : Nat)) = -n := by
    by_cases h : n < 0
    · simp [h]; omega
    · simp [h]; omega
  rw [e] at H3
  generalize decide (n < 0) = b at *
  generalize tx n = t1 at *
  generalize nt n.natAbs = t2 at *
  generalize tx (-n) = t3 at *
  go_enter Tryz.func96, Tryz.ntmps96
  go_wp2_with fail
  refine H1.mono ?_
  rintro e w1 ⟨rfl, rfl⟩
  go_wp2_with fail
  refine H2.mono ?_
  rintro e w2 ⟨rfl, rfl⟩
  go_wp2_with fail
  refine H3.mono ?_
  rintro e w3 ⟨rfl, rfl⟩
  go_wp2_with fail
  go_ret
  exact ⟨rfl, rfl⟩
end Go.Proofs.YtdknneofiefieaaGreatDoor

namespace Go.Proofs.YtdknneofiefieaaGreatDoor
open Go.RowKit Go.Lib Dec

theorem vd_take_succ {l : List UInt8} {k : Nat} {c : UInt8} (h : l[k]? = some c) : vd (l.take (k + 1)) = 10 * vd (l.take k) + (c.toNat - 48) := by
  rw [List.take_add_one, h]; exact vd_snoc _ _
theorem vd_take_lt {l : List UInt8} (h : digs l) {k : Nat} (hl : l.length ≤ 18) : vd (l.take k) < 1000000000000000000 := by
  have h1 : digs (l.take k) := fun c hc => h c (List.mem_of_mem_take hc)
  have h2 := vd_lt _ h1
  have h3 : (l.take k).length ≤ 18 := by rw [List.length_take]; omega
  exact Nat.lt_of_lt_of_le h2 (Nat.le_trans (Nat.pow_le_pow_right (by decide) h3) (by decide))
/-- at most eighteen digits -/
theorem dec18 {m : Nat} (h : m < 10 ^ 18) : (decDigits m).length ≤ 18 := (dec_len m 18 (by decide)).2 h
theorem dec18' {m : Nat} (h : ¬ m < 10 ^ 18) : 18 < (decDigits m).length := by
  have h1 : ¬ (decDigits m).length ≤ 18 := fun k => h ((dec_len m 18 (by decide)).1 k)
  omega

set_option maxRecDepth 100000 in
set_option maxHeartbeats 1000000 in
theorem rnum_w {l : List UInt8} {t : ByteArray} {b : Bool} {r : Int} (hd : digs l) (hl : l.length ≤ 18) (hr : IntKind.i64.wrap (-(vd l : Int)) = -(vd l : Int)) (w : World) (he : (if b then -(vd l : Int) else vd l) = r)
    (Z : Calls Tryz.prog 90 #[.string t] w fun e w' => e = .returned (.string (S l)) ∧ w' = w)
    (B : Calls Tryz.prog 91 #[.string t] w fun e w' => e = .returned (.bool b) ∧ w' = w) :
    Calls Tryz.prog 132 #[.string t] w fun e w' => e = .returned (.int .i64 r) ∧ w' = w := by
  have hsz : (S l).size = l.length := S_size l
  have hszi : ((S l).size : Int) = (l.length : Int) := by rw [hsz]
  have hli : (l.length : Int) ≤ 18 := by omega
  have B := Lib.hid B
  have he := Lib.hid he
  go_enter Tryz.func132, Tryz.ntmps132
  go_wp2_with fail
  refine Z.mono ?_
  rintro e w1 ⟨rfl, rfl⟩
  clear Z
  go_wp2_with fail
  go_loopg [3, 5] l.length (fun m n i wr => ∃ k : Nat, k + m = l.length ∧ i = .int .i64 k ∧ n = .int .i64 (vd (l.take k) : Nat) ∧ wr = w1)
  case atStart => exact ⟨0, by omega, rfl, rfl, rfl⟩
  case round =>
    obtain ⟨k, hm, rfl, rfl, rfl⟩ := hrel
    by_cases hlt : k < l.length
    · have hlti : (k : Int) < (l.length : Int) := by omega
      obtain ⟨c, hc⟩ : ∃ c, l[k]? = some c := ⟨_, List.getElem?_eq_getElem hlt⟩
      have hks : k < (S l).size := by rw [hsz]; exact hlt
      have hget : (S l)[k]'hks = c := by
        have := (List.getElem?_eq_some_iff.1 hc).2
        exact this
      have hdc := hd c (List.mem_of_getElem? hc)
      unfold dig at hdc
      have hv := vd_take_lt (k := k) hd hl
      have hs := vd_take_succ hc
      have hv' := vd_take_lt (k := k + 1) hd hl
      have hw1 : IntKind.u8.wrap ((c.toNat : Int) - 48) = (c.toNat : Int) - 48 := by
        have : IntKind.u8.wrap ((c.toNat : Int) - 48) = ((c.toNat : Int) - 48) % 256 := rfl
        rw [this]; omega
      have hw2 : IntKind.i64.wrap ((c.toNat : Int) - 48) = (c.toNat : Int) - 48 := IntWalk.i64_in _ (by omega)
      have hw3 : IntKind.i64.wrap (10 * ((vd (l.take k) : Nat) : Int)) = 10 * ((vd (l.take k) : Nat) : Int) := IntWalk.i64_in _ (by omega)
      have hw4 : IntKind.i64.wrap (10 * ((vd (l.take k) : Nat) : Int) + ((c.toNat : Int) - 48)) = ((vd (l.take (k + 1)) : Nat) : Int) := by
        rw [hs, IntWalk.i64_in _ (by omega)]; omega
      have hwk : IntKind.i64.wrap ((k : Int) + 1) = ((k + 1 : Nat) : Int) := by rw [IntWalk.i64_in _ (by omega)]; omega
      have HM := Lib.hid hm
      have H4 := Lib.hid hw4
      clear hm hs hdc hc hv hd
      clear hv'
      go_wp2_with fail
      go_roundg (gk - 1)
      case measure => have := HM.out; omega
      case rel => exact ⟨k + 1, by have := HM.out; omega, by go_num, rfl, rfl⟩
    · have hk : l.length = k := by omega
      have hv := vd_take_lt (k := k) hd hl
      have hnl : ¬ (k : Int) < (l.length : Int) := by omega
      have htk : l.take k = l := List.take_of_length_le (by omega)
      rw [htk] at *
      have BB := B.out
      have he := he.out
      clear hm hlt hv hk htk
      go_wp2_with fail
      refine BB.mono ?_
      rintro e w2 ⟨rfl, rfl⟩
      cases b with
      | true =>
        rw [if_pos rfl] at he
        subst he
        go_wp2_with fail
        go_ret
        exact ⟨rfl, rfl⟩
      | false =>
        rw [if_neg (by decide)] at he
        subst he
        go_wp2_with fail
        go_ret
        exact ⟨rfl, rfl⟩

theorem rnum_c {n : Int} (h : n.natAbs < 10 ^ 18) (w : World) : Calls Tryz.prog 132 #[.string (tx n)] w fun e w' => e = .returned (.int .i64 n) ∧ w' = w := by
  refine rnum_w (l := decDigits n.natAbs) (dec_digs _) (dec18 h) ?_ w ?_ (rsz_c n w) (rbelow_c n w)
  · rw [vd_dec]; exact IntWalk.i64_in _ (by omega)
  · rw [vd_dec]
    by_cases h0 : n < 0
    · rw [decide_eq_true h0, if_pos rfl]; omega
    · rw [decide_eq_false h0, if_neg (by decide)]; omega
set_option maxRecDepth 100000 in
set_option maxHeartbeats 1000000 in
theorem rbrief_w {t1 t2 z1 z2 : ByteArray} {a b : Int} (h1 : (z1.size : Int) ≤ 18) (h2 : (z2.size : Int) ≤ 18) (w : World)
    (Z1 : Calls Tryz.prog 90 #[.string t1] w fun e w' => e = .returned (.string z1) ∧ w' = w) (Z2 : Calls Tryz.prog 90 #[.string t2] w fun e w' => e = .returned (.string z2) ∧ w' = w)
    (N1 : Calls Tryz.prog 132 #[.string t1] w fun e w' => e = .returned (.int .i64 a) ∧ w' = w) (N2 : Calls Tryz.prog 132 #[.string t2] w fun e w' => e = .returned (.int .i64 b) ∧ w' = w) :
    Calls Tryz.prog 93 #[.string t1, .string t2] w fun e w' => e = .returned (.tuple #[.int .i64 a, .int .i64 b, .bool true]) ∧ w' = w := by
  go_enter Tryz.func93, Tryz.ntmps93
  go_wp2_with fail
  refine Z1.mono ?_
  rintro e w1 ⟨rfl, rfl⟩
  go_wp2_with fail
  refine Z2.mono ?_
  rintro e w2 ⟨rfl, rfl⟩
  go_wp2_with fail
  refine N1.mono ?_
  rintro e w3 ⟨rfl, rfl⟩
  go_wp2_with fail
  refine N2.mono ?_
  rintro e w4 ⟨rfl, rfl⟩
  go_wp2_with fail
  refine bodyPost_ret (v := .tuple #[.int .i64 a, .int .i64 b, .bool true]) ?_ rfl ⟨rfl, rfl⟩
  simp [results, Tryz.f93, go_sem]
set_option maxRecDepth 100000 in
set_option maxHeartbeats 1000000 in
theorem rbrief_a {t1 t2 z1 : ByteArray} (h1 : (18 : Int) < (z1.size : Int)) (w : World)
    (Z1 : Calls Tryz.prog 90 #[.string t1] w fun e w' => e = .returned (.string z1) ∧ w' = w) :
    Calls Tryz.prog 93 #[.string t1, .string t2] w fun e w' => e = .returned (.tuple #[.int .i64 0, .int .i64 0, .bool false]) ∧ w' = w := by
  go_enter Tryz.func93, Tryz.ntmps93
  go_wp2_with fail
  refine Z1.mono ?_
  rintro e w1 ⟨rfl, rfl⟩
  go_wp2_with fail
  refine bodyPost_ret (v := .tuple #[.int .i64 0, .int .i64 0, .bool false]) ?_ rfl ⟨rfl, rfl⟩
  simp [results, Tryz.f93, go_sem]
set_option maxRecDepth 100000 in
set_option maxHeartbeats 1000000 in
theorem rbrief_b {t1 t2 z1 z2 : ByteArray} (h1 : (z1.size : Int) ≤ 18) (h2 : (18 : Int) < (z2.size : Int)) (w : World)
    (Z1 : Calls Tryz.prog 90 #[.string t1] w fun e w' => e = .returned (.string z1) ∧ w' = w) (Z2 : Calls Tryz.prog 90 #[.string t2] w fun e w' => e = .returned (.string z2) ∧ w' = w) :
    Calls Tryz.prog 93 #[.string t1, .string t2] w fun e w' => e = .returned (.tuple #[.int .i64 0, .int .i64 0, .bool false]) ∧ w' = w := by
  go_enter Tryz.func93, Tryz.ntmps93
  go_wp2_with fail
  refine Z1.mono ?_
  rintro e w1 ⟨rfl, rfl⟩
  go_wp2_with fail
  refine Z2.mono ?_
  rintro e w2 ⟨rfl, rfl⟩
  go_wp2_with fail
  refine bodyPost_ret (v := .tuple #[.int .i64 0, .int .i64 0, .bool false]) ?_ rfl ⟨rfl, rfl⟩
  simp [results, Tryz.f93, go_sem]
theorem rbrief_y {a b : Int} (h1 : a.natAbs < 10 ^ 18) (h2 : b.natAbs < 10 ^ 18) (w : World) :
    Calls Tryz.prog 93 #[.string (tx a), .string (tx b)] w fun e w' => e = .returned (.tuple #[.int .i64 a, .int .i64 b, .bool true]) ∧ w' = w := by
  have l1 := dec18 h1
  have l2 := dec18 h2
  exact rbrief_w (by unfold nt; rw [S_size]; omega) (by unfold nt; rw [S_size]; omega) w (rsz_c a w) (rsz_c b w) (rnum_c h1 w) (rnum_c h2 w)
theorem rbrief_n {a b : Int} (h : ¬ (a.natAbs < 10 ^ 18 ∧ b.natAbs < 10 ^ 18)) (w : World) :
    Calls Tryz.prog 93 #[.string (tx a), .string (tx b)] w fun e w' => e = .returned (.tuple #[.int .i64 0, .int .i64 0, .bool false]) ∧ w' = w := by
  by_cases h1 : a.natAbs < 10 ^ 18
  · have h2 : ¬ b.natAbs < 10 ^ 18 := fun k => h ⟨h1, k⟩
    have l1 := dec18 h1
    have l2 := dec18' h2
    exact rbrief_b (by unfold nt; rw [S_size]; omega) (by unfold nt; rw [S_size]; omega) w (rsz_c a w) (rsz_c b w)
  · have l1 := dec18' h1
    exact rbrief_a (by unfold nt; rw [S_size]; omega) w (rsz_c a w)
end Go.Proofs.YtdknneofiefieaaGreatDoor

namespace Go.Proofs.YtdknneofiefieaaGreatDoor
open Go.RowKit Go.Lib Dec

theorem dec_step10 {n : Nat} (h : 10 ≤ n) : decDigits n = decDigits (n / 10) ++ [UInt8.ofNat (48 + n % 10)] := by
  have hd : digs (decDigits (n / 10) ++ [UInt8.ofNat (48 + n % 10)]) := digs_append.2 ⟨dec_digs _, fun c hc => by
    rw [List.mem_singleton] at hc; subst hc
    unfold dig
    rw [dig_toNat (by omega)]; omega⟩
  have hv : vd (decDigits (n / 10) ++ [UInt8.ofNat (48 + n % 10)]) = n := by
    rw [vd_snoc, vd_dec, dig_toNat (by omega)]; omega
  have hl : lead (decDigits (n / 10) ++ [UInt8.ofNat (48 + n % 10)]) := Wd.lead_append (dec_ne_nil _) (dec_lead _) (by rw [vd_dec]; omega)
  have := dec_of_vd (by simp) hd hl
  rw [hv] at this; exact this
theorem dec_one {n : Nat} (h : n ≤ 9) : decDigits n = [UInt8.ofNat (48 + n)] := by
  have hd : digs [UInt8.ofNat (48 + n)] := fun c hc => by
    rw [List.mem_singleton] at hc; subst hc
    unfold dig
    rw [dig_toNat (by omega)]; omega
  have hv : vd [UInt8.ofNat (48 + n)] = n := by
    have := vd_snoc [] (UInt8.ofNat (48 + n))
    rw [List.nil_append, vd_nil, dig_toNat (by omega)] at this; omega
  have hl : lead [UInt8.ofNat (48 + n)] := fun c t e _ => by cases e; rfl
  have := dec_of_vd (by simp) hd hl
  rw [hv] at this; exact this
theorem conv_one (w : World) (c : UInt8) (v : Int) (hv : v = (c.toNat : Int)) (o : Obj) (ho : o = .cells #[.int .u8 v] 5 (0, 0)) :
    (convert 158 9 (.slice (some ⟨w.heap.size, 0, none⟩) 1 1)).run Tryz.prog (w.alloc o) = .ok (.string (S [c])) (w.alloc o) := by
  subst ho hv
  have q := heap_alloc_new w (.cells #[.int .u8 (c.toNat : Int)] 5 (0, 0))
  refine Lib.run_convert_whole _ _ 5 _ Tryz.underlying158 Tryz.underlying5 Tryz.underlying9 w.heap.size 0 (S [c]) (fun i hi => ?_) _
  have hi : i = 0 := by rw [S_size] at hi; simp at hi; omega
  subst hi
  exact cell_of_row _ _ 0 _ _ _ q


set_option maxRecDepth 100000 in
set_option maxHeartbeats 2000000 in
theorem rof_l (N : Nat) (hN : N ≤ 9223372036854775807) (w0 w : World) (hb : Below w0.heap.size w0 w) :
    Calls Tryz.prog 64 #[.int .i64 (N : Int)] w fun e w' => e = .returned (.string (nt N)) ∧ Below w0.heap.size w0 w' := by
  have hneg : IntKind.i64.wrap (-(N : Int)) = -(N : Int) := IntWalk.i64_in _ (by omega)
  have hnl : ¬ (N : Int) < 0 := by omega
  have HB := Lib.hid hb
  have HN := Lib.hid hN
  clear hb hN
  by_cases h0 : N = 0
  · subst h0
    clear hneg hnl
    go_enter Tryz.func64, Tryz.ntmps64
    go_wp2_with fail
    go_loopg [0, 3] 0 (fun _m x y wr => x = .int .i64 ((0 : Nat) : Int) ∧ y = .string ⟨#[]⟩ ∧ Below w0.heap.size w0 wr)
    case atStart => exact ⟨rfl, rfl, HB.out⟩
    case round =>
      have hc := conv_one wr 48 48 rfl _ rfl
      have hs : S [48] ++ (⟨#[]⟩ : ByteArray) = nt 0 := by decide +kernel
      have hs2 : (S [48]).size ≤ 1000 := by decide +kernel
      obtain ⟨rfl, rfl, hb⟩ := hrel
      have hb := Lib.hid hb
      go_wp2_with fail
      go_ret
      exact ⟨rfl, hb.out.alloc (by have := hb.out.size; omega) _⟩
  · go_enter Tryz.func64, Tryz.ntmps64
    go_wp2_with fail
    go_loopg [0, 3] N (fun m x y wr => ∃ (k : Nat) (l : List UInt8), k = m ∧ k ≤ N ∧ l.length + (decDigits k).length = (decDigits N).length ∧ decDigits N = decDigits k ++ l ∧ x = .int .i64 k ∧ y = .string (S l) ∧ Below w0.heap.size w0 wr)
    case atStart => exact ⟨N, [], rfl, Nat.le_refl _, by simp, by simp, rfl, rfl, HB.out⟩
    case round =>
      clear hneg
      obtain ⟨k, l, rfl, hkN, hl0, hde, rfl, rfl, hb⟩ := hrel
      have hlen : l.length ≤ 1000 := by have := (dec_len N 19 (by decide)).2 (by have := HN.out; omega); omega
      by_cases h9 : 9 < k
      · have hki : ¬ (k : Int) ≤ 9 := by omega
        have hkp : (9 : Int) < (k : Int) := by omega
        have hkb : (k : Int) ≤ 9223372036854775807 := by have := HN.out; omega
        have e3 : 48 + (k : Int) % 10 = ((UInt8.ofNat (48 + k % 10)).toNat : Int) := by rw [UInt8.toNat_ofNat']; omega
        have hde2 := dec_step10 (n := k) (by omega)
        generalize UInt8.ofNat (48 + k % 10) = c at *
        have hc := conv_one wr c _ e3 _ rfl
        have ha : S [c] ++ S l = S (c :: l) := S_app [c] l
        have hs1 : (S [c]).size = 1 := S_size _
        have hs2 : (S l).size ≤ 1000 := by rw [S_size]; exact hlen
        have F := Lib.hid (show k / 10 ≤ N ∧ k / 10 < k ∧ (c :: l).length + (decDigits (k / 10)).length = (decDigits N).length ∧ decDigits N = decDigits (k / 10) ++ (c :: l) from ⟨by omega, by omega, by rw [← hl0, hde2]; simp; omega, by rw [hde, hde2]; simp⟩)
        have hb := Lib.hid hb
        clear hde hde2 hkN hl0 h9 e3
        go_wp2_with fail
        go_roundg (k / 10)
        case measure => exact F.out.2.1
        case rel => exact ⟨k / 10, c :: l, rfl, F.out.1, F.out.2.2.1, F.out.2.2.2, by go_num, rfl, hb.out.alloc (by have := hb.out.size; omega) _⟩
      · have hki : (k : Int) ≤ 9 := by omega
        have e3 : 48 + (k : Int) = ((UInt8.ofNat (48 + k)).toNat : Int) := by rw [UInt8.toNat_ofNat']; omega
        have hde2 := dec_one (n := k) (by omega)
        generalize UInt8.ofNat (48 + k) = c at *
        have hc := conv_one wr c _ e3 _ rfl
        have ha : S [c] ++ S l = nt N := by unfold nt; rw [hde, hde2]; exact S_app [c] l
        have hs1 : (S [c]).size = 1 := S_size _
        have hs2 : (S l).size ≤ 1000 := by rw [S_size]; exact hlen
        have hb := Lib.hid hb
        clear hde hde2 hkN hl0 h9 e3
        go_wp2_with fail
        go_ret
        exact ⟨rfl, hb.out.alloc (by have := hb.out.size; omega) _⟩

set_option maxRecDepth 100000 in
set_option maxHeartbeats 2000000 in
theorem rof_n' (n : Int) (m : Nat) (t : ByteArray) (w : World) (c0 : IntKind.i64.wrap (-n) = (m : Int)) (c1 : (n == (m : Int)) = false) (c2 : n < 0)
    (B : Calls Tryz.prog 64 #[.int .i64 (m : Int)] w fun e w' => e = .returned (.string (nt m)) ∧ Below w.heap.size w w')
    (T : ∀ w', Calls Tryz.prog 96 #[.string (nt m)] w' fun e w'' => e = .returned (.string t) ∧ w'' = w') :
    Calls Tryz.prog 64 #[.int .i64 n] w (RB (.string t) w) := by
  go_enter Tryz.func64, Tryz.ntmps64
  go_wp2_with fail
  refine B.mono ?_
  rintro e w1 ⟨rfl, hb⟩
  have hb := Lib.hid hb
  go_wp2_with fail
  refine (T _).mono ?_
  rintro e w2 ⟨rfl, rfl⟩
  go_wp2_with fail
  go_ret
  exact ⟨rfl, hb.out⟩
theorem rof_n (m : Nat) (h0 : m ≠ 0) (hN : m ≤ 9223372036854775807) (w : World) :
    Calls Tryz.prog 64 #[.int .i64 (-(m : Int))] w (RB (.string (tx (-(m : Int)))) w) := by
  refine rof_n' _ m _ w ?_ ?_ ?_ (rof_l m hN w w (Below.refl _ w)) fun w' => ?_
  · rw [Int.neg_neg]; exact IntWalk.i64_in _ (by omega)
  · rw [beq_eq_false_iff_ne]; omega
  · omega
  · have := rturned_c (m : Int) (by have := (dec_len m 19 (by decide)).2 (by omega); simp; omega) w'
    rwa [tx_nn] at this

theorem rof_c (n : Int) (h : n.natAbs ≤ 9223372036854775807) (w : World) :
    Calls Tryz.prog 64 #[.int .i64 n] w (RB (.string (tx n)) w) := by
  rcases int_cases n with ⟨k, rfl⟩ | ⟨k, hk, rfl⟩
  · rw [tx_nn]
    exact rof_l k (by omega) w w (Below.refl _ w)
  · exact rof_n k hk (by omega) w
end Go.Proofs.YtdknneofiefieaaGreatDoor

namespace Go.Proofs.YtdknneofiefieaaGreatDoor
open Go.RowKit Go.Lib Dec

set_option maxRecDepth 100000 in
set_option maxHeartbeats 2000000 in
theorem rplus_w {t1 t2 : ByteArray} {a b : Int} (ha : -1000000000000000000 < a ∧ a < 1000000000000000000) (hb : -1000000000000000000 < b ∧ b < 1000000000000000000) (w : World)
    (Q : Calls Tryz.prog 93 #[.string t1, .string t2] w fun e w' => e = .returned (.tuple #[.int .i64 a, .int .i64 b, .bool true]) ∧ w' = w)
    (O : Calls Tryz.prog 64 #[.int .i64 (a + b)] w (RB (.string (tx (a + b))) w)) :
    Calls Tryz.prog 97 #[.string t1, .string t2] w (RB (.string (tx (a + b))) w) := by
  obtain ⟨a1, a2⟩ := ha
  obtain ⟨b1, b2⟩ := hb
  have O := Lib.hid O
  go_enter Tryz.func97, Tryz.ntmps97
  go_wp2_with fail
  refine Q.mono ?_
  rintro e w1 ⟨rfl, rfl⟩
  clear Q
  go_wp2_with fail
  refine O.out.mono ?_
  rintro e w2 ⟨rfl, hb⟩
  have hb := Lib.hid hb
  go_wp2_with fail
  go_ret
  exact ⟨rfl, hb.out⟩
theorem rplus_c {a b : Int} (h1 : a.natAbs < 10 ^ 18) (h2 : b.natAbs < 10 ^ 18) (w : World) :
    Calls Tryz.prog 97 #[.string (tx a), .string (tx b)] w (RB (.string (tx (a + b))) w) :=
  rplus_w (by omega) (by omega) w (rbrief_y h1 h2 w) (rof_c _ (by omega) w)

set_option maxRecDepth 100000 in
set_option maxHeartbeats 2000000 in
theorem rminus_w {t1 t2 t3 t4 : ByteArray} (w : World)
    (Q : Calls Tryz.prog 96 #[.string t2] w fun e w' => e = .returned (.string t3) ∧ w' = w)
    (O : Calls Tryz.prog 97 #[.string t1, .string t3] w (RB (.string t4) w)) :
    Calls Tryz.prog 63 #[.string t1, .string t2] w (RB (.string t4) w) := by
  have O := Lib.hid O
  go_enter Tryz.func63, Tryz.ntmps63
  go_wp2_with fail
  refine Q.mono ?_
  rintro e w1 ⟨rfl, rfl⟩
  clear Q
  go_wp2_with fail
  refine O.out.mono ?_
  rintro e w2 ⟨rfl, hb⟩
  have hb := Lib.hid hb
  go_wp2_with fail
  go_ret
  exact ⟨rfl, hb.out⟩
theorem dec18m {n : Int} (h : n.natAbs < 10 ^ 18) : (decDigits n.natAbs).length ≤ 1000000 := by have := dec18 h; omega
theorem rminus_c {a b : Int} (h1 : a.natAbs < 10 ^ 18) (h2 : b.natAbs < 10 ^ 18) (w : World) :
    Calls Tryz.prog 63 #[.string (tx a), .string (tx b)] w (RB (.string (tx (a - b))) w) :=
  rminus_w w (rturned_c b (dec18m h2) w) (by have := rplus_c (a := a) (b := -b) h1 (by omega) w; rwa [← Int.sub_eq_add_neg] at this)

set_option maxRecDepth 100000 in
set_option maxHeartbeats 2000000 in
theorem rorder_w {t1 t2 t3 : ByteArray} {z g : Bool} (w : World) (hz : (t3.toList == [48]) = z)
    (Q : Calls Tryz.prog 63 #[.string t1, .string t2] w (RB (.string t3) w))
    (O : ∀ w', Calls Tryz.prog 91 #[.string t3] w' fun e w'' => e = .returned (.bool g) ∧ w'' = w') :
    Calls Tryz.prog 59 #[.string t1, .string t2] w (RB (.int .i64 (if z then 0 else if g then -1 else 1)) w) := by
  have O' := Lib.hid O
  clear O
  have O := O'
  clear O'
  rcases z with _ | _
  · rcases g with _ | _
    · go_enter Tryz.func59, Tryz.ntmps59
      go_wp2_with fail
      refine Q.mono ?_
      rintro e w1 ⟨rfl, hb⟩
      have hb := Lib.hid hb
      clear Q
      go_wp2_with fail
      refine (O.out _).mono ?_
      rintro e w2 ⟨rfl, rfl⟩
      go_wp2_with fail
      go_ret
      exact ⟨rfl, hb.out⟩
    · go_enter Tryz.func59, Tryz.ntmps59
      go_wp2_with fail
      refine Q.mono ?_
      rintro e w1 ⟨rfl, hb⟩
      have hb := Lib.hid hb
      clear Q
      go_wp2_with fail
      refine (O.out _).mono ?_
      rintro e w2 ⟨rfl, rfl⟩
      go_wp2_with fail
      go_ret
      exact ⟨rfl, hb.out⟩
  · go_enter Tryz.func59, Tryz.ntmps59
    go_wp2_with fail
    refine Q.mono ?_
    rintro e w1 ⟨rfl, hb⟩
    have hb := Lib.hid hb
    clear Q
    go_wp2_with fail
    go_ret
    exact ⟨rfl, hb.out⟩
def rsgn (n : Int) : Int := if n = 0 then 0 else if n < 0 then -1 else 1
theorem rorder_c {a b : Int} (h1 : a.natAbs < 10 ^ 18) (h2 : b.natAbs < 10 ^ 18) (w : World) :
    Calls Tryz.prog 59 #[.string (tx a), .string (tx b)] w (RB (.int .i64 (rsgn (a - b))) w) := by
  have := rorder_w w (tx_zero (a - b)) (rminus_c h1 h2 w) (fun w' => rbelow_c (a - b) w')
  simp only [decide_eq_true_eq] at this
  exact this

set_option maxRecDepth 100000 in
set_option maxHeartbeats 2000000 in
theorem rtimes_w {t1 t2 : ByteArray} {a b p : Int} (hm : IntKind.i64.wrap (a * b) = p) (hl : (t1.size : Int) + (t2.size : Int) ≤ 18) (w : World)
    (Q : Calls Tryz.prog 93 #[.string t1, .string t2] w fun e w' => e = .returned (.tuple #[.int .i64 a, .int .i64 b, .bool true]) ∧ w' = w)
    (O : Calls Tryz.prog 64 #[.int .i64 p] w (RB (.string (tx p)) w)) :
    Calls Tryz.prog 95 #[.string t1, .string t2] w (RB (.string (tx p)) w) := by
  have O := Lib.hid O
  go_enter Tryz.func95, Tryz.ntmps95
  go_wp2_with fail
  refine Q.mono ?_
  rintro e w1 ⟨rfl, rfl⟩
  clear Q
  go_wp2_with fail
  refine O.out.mono ?_
  rintro e w2 ⟨rfl, hb⟩
  have hb := Lib.hid hb
  go_wp2_with fail
  go_ret
  exact ⟨rfl, hb.out⟩
theorem pt_q {m n : Int} (h : 0 < n) : (m - m % n).tdiv n = m / n := by
  have : m - m % n = n * (m / n) := by have := Int.mul_ediv_add_emod m n; omega
  rw [this, Int.mul_tdiv_cancel_left _ (by omega)]
theorem pt_0 {m n : Int} (h0 : m.tmod n = 0) : m % n = 0 := Int.emod_eq_zero_of_dvd (Int.dvd_of_tmod_eq_zero h0)
theorem pt_n {m n : Int} (hn : 0 < n) (h0 : m.tmod n < 0) : m.tmod n + n = m % n := by
  have := @Int.tmod_eq_emod m n
  have h1 := Int.emod_nonneg m (show n ≠ 0 by omega)
  split at this <;> omega
theorem pt_p {m n : Int} (hn : 0 < n) (h0 : ¬ m.tmod n < 0) : m.tmod n = m % n := by
  have := @Int.tmod_eq_emod m n
  have h1 := Int.emod_lt_of_pos m hn
  split at this <;> omega
theorem w64 {x : Int} (h : -9223372036854775808 ≤ x ∧ x ≤ 9223372036854775807) : wrap64 x = x := by unfold wrap64; omega
theorem pt_b {m n : Int} (hn : 0 < n) (hm : -1000000000000000000 < m ∧ m < 1000000000000000000) : -1000000000000000000 ≤ m / n ∧ m / n < 1000000000000000000 := by
  constructor
  · exact Int.le_ediv_of_mul_le hn (by omega)
  · exact Int.ediv_lt_of_lt_mul hn (by omega)
theorem of_eq {x q : Int} (O : ∀ w, Calls Tryz.prog 64 #[.int .i64 q] w (RB (.string (tx q)) w)) (h : x = q) (w : World) :
    Calls Tryz.prog 64 #[.int .i64 x] w (RB (.string (tx q)) w) := by subst h; exact O w

set_option maxRecDepth 100000 in
set_option maxHeartbeats 2000000 in
theorem rparted_w {t1 t2 : ByteArray} {m n q r' : Int} (w : World) (F : Hid (0 < n ∧ n < 1000000000000000000 ∧ (-1000000000000000000 < m ∧ m < 1000000000000000000) ∧ m / n = q ∧ m % n = r'))
    (Q : Calls Tryz.prog 93 #[.string t1, .string t2] w fun e w' => e = .returned (.tuple #[.int .i64 m, .int .i64 n, .bool true]) ∧ w' = w)
    (O1 : ∀ w, Calls Tryz.prog 64 #[.int .i64 q] w (RB (.string (tx q)) w)) (O2 : ∀ w, Calls Tryz.prog 64 #[.int .i64 r'] w (RB (.string (tx r')) w)) :
    Calls Tryz.prog 94 #[.string t1, .string t2] w (RB (.tuple #[.string (tx q), .string (tx r')]) w) := by
  have O2 := Lib.hid O2
  go_enter Tryz.func94, Tryz.ntmps94
  go_wp2_with fail
  refine Q.mono ?_
  rintro e w1 ⟨rfl, rfl⟩
  clear Q
  go_wp2_with fail
  · rename_i hn
    have := F.out.1
    omega
  · have hc : m.tmod n = 0 := by assumption
    refine (of_eq O1 (show wrap64 ((wrap64 m).tdiv n) = q from ?_) _).mono ?_
    · obtain ⟨n0, _, hm, hq, hr⟩ := F.out
      rw [w64 (x := m) (by omega)]
      have z := pt_0 hc
      have e := pt_q (m := m) n0
      rw [z, Int.sub_zero] at e
      have b := pt_b n0 hm
      rw [e, w64 (by omega)]; exact hq
    rintro e w2 ⟨rfl, hb1⟩
    have hb1 := Lib.hid hb1
    go_wp2_with fail
    refine (of_eq O2.out (show (0 : Int) = r' from ?_) _).mono ?_
    · rw [← F.out.2.2.2.2]; exact (pt_0 hc).symm
    rintro e w3 ⟨rfl, hb2⟩
    have hb := Lib.hid (Bl.trans hb1.out hb2)
    go_wp2_with fail
    refine bodyPost_ret (v := .tuple #[.string (tx q), .string (tx r')]) ?_ rfl ⟨rfl, hb.out⟩
    simp [results, Tryz.f94, go_sem]
  · have hc : (m.tmod n != 0) = true ∧ (!decide (m.tmod n < 0) == decide (n < 0)) = true := by assumption
    have hl : m.tmod n < 0 := by
      by_cases k : m.tmod n < 0
      · exact k
      · exfalso; have n0 := F.out.1; have k2 : ¬ n < 0 := by omega
        rw [decide_eq_false k, decide_eq_false k2] at hc; exact absurd hc.2 (by decide)
    refine (of_eq O1 (show wrap64 ((wrap64 (m - wrap64 (m.tmod n + n))).tdiv n) = q from ?_) _).mono ?_
    · obtain ⟨n0, n2, hm, hq, hr⟩ := F.out
      have e := pt_n n0 hl
      have e2 := Int.emod_lt_of_pos m n0
      have e3 := Int.emod_nonneg m (show n ≠ 0 by omega)
      have b := pt_b n0 hm
      rw [e, w64 (x := m % n) (by omega), w64 (x := m - m % n) (by omega), pt_q n0, w64 (by omega)]; exact hq
    rintro e w2 ⟨rfl, hb1⟩
    have hb1 := Lib.hid hb1
    go_wp2_with fail
    refine (of_eq O2.out (show wrap64 (m.tmod n + n) = r' from ?_) _).mono ?_
    · obtain ⟨n0, n2, hm, hq, hr⟩ := F.out
      have e2 := Int.emod_lt_of_pos m n0
      have e3 := Int.emod_nonneg m (show n ≠ 0 by omega)
      rw [pt_n n0 hl, w64 (by omega)]; exact hr
    rintro e w3 ⟨rfl, hb2⟩
    have hb := Lib.hid (Bl.trans hb1.out hb2)
    go_wp2_with fail
    refine bodyPost_ret (v := .tuple #[.string (tx q), .string (tx r')]) ?_ rfl ⟨rfl, hb.out⟩
    simp [results, Tryz.f94, go_sem]
  · have hc0 : ¬ m.tmod n = 0 := by assumption
    have hc : (m.tmod n != 0) = false ∨ (!decide (m.tmod n < 0) == decide (n < 0)) = false := by assumption
    have hl : ¬ m.tmod n < 0 := by
      intro k
      have n0 := F.out.1; have k2 : ¬ n < 0 := by omega
      rw [decide_eq_true k, decide_eq_false k2, bne_iff_ne.2 hc0] at hc; exact absurd hc (by decide)
    refine (of_eq O1 (show wrap64 ((wrap64 (m - m.tmod n)).tdiv n) = q from ?_) _).mono ?_
    · obtain ⟨n0, n2, hm, hq, hr⟩ := F.out
      have e := pt_p n0 hl
      have e2 := Int.emod_lt_of_pos m n0
      have e3 := Int.emod_nonneg m (show n ≠ 0 by omega)
      have b := pt_b n0 hm
      rw [e, w64 (x := m - m % n) (by omega), pt_q n0, w64 (by omega)]; exact hq
    rintro e w2 ⟨rfl, hb1⟩
    have hb1 := Lib.hid hb1
    go_wp2_with fail
    refine (of_eq O2.out (show m.tmod n = r' from ?_) _).mono ?_
    · rw [← F.out.2.2.2.2]; exact pt_p F.out.1 (Int.not_lt.2 hl)
    rintro e w3 ⟨rfl, hb2⟩
    have hb := Lib.hid (Bl.trans hb1.out hb2)
    go_wp2_with fail
    refine bodyPost_ret (v := .tuple #[.string (tx q), .string (tx r')]) ?_ rfl ⟨rfl, hb.out⟩
    simp [results, Tryz.f94, go_sem]

theorem rparted_c {m n : Int} (h1 : m.natAbs < 10 ^ 18) (h0 : 0 < n) (h2 : n.natAbs < 10 ^ 18) (w : World) :
    Calls Tryz.prog 94 #[.string (tx m), .string (tx n)] w (RB (.tuple #[.string (tx (m / n)), .string (tx (m % n))]) w) := by
  have e2 := Int.emod_lt_of_pos m h0
  have e3 := Int.emod_nonneg m (show n ≠ 0 by omega)
  have b := pt_b h0 (show -1000000000000000000 < m ∧ m < 1000000000000000000 by omega)
  exact rparted_w w (Lib.hid ⟨h0, by omega, by omega, rfl, rfl⟩) (rbrief_y h1 h2 w) (fun w => rof_c _ (by omega) w) (fun w => rof_c _ (by omega) w)
end Go.Proofs.YtdknneofiefieaaGreatDoor

namespace Go.Proofs.YtdknneofiefieaaGreatDoor
open Go.RowKit Go.Lib Dec

/-- a product of short numbers that are not negative -/
theorem rtimes_c {a b i j : Nat} (h1 : a < 10 ^ i) (h2 : b < 10 ^ j) (hi : 0 < i) (hj : 0 < j) (hij : i + j ≤ 18) (w : World) :
    Calls Tryz.prog 95 #[.string (nt a), .string (nt b)] w (RB (.string (nt (a * b))) w) := by
  have l1 := (dec_len a i hi).2 h1
  have l2 := (dec_len b j hj).2 h2
  have p1 : a < 10 ^ 18 := Nat.lt_of_lt_of_le h1 (Nat.pow_le_pow_right (by decide) (by omega))
  have p2 : b < 10 ^ 18 := Nat.lt_of_lt_of_le h2 (Nat.pow_le_pow_right (by decide) (by omega))
  have p3 : a * b < 10 ^ 18 := by
    have : a * b < 10 ^ i * 10 ^ j := by
      rcases Nat.eq_zero_or_pos b with h | h
      · subst h; simpa using Nat.mul_pos (Nat.pow_pos (by decide)) (Nat.pow_pos (by decide))
      · exact Nat.lt_of_lt_of_le (Nat.mul_lt_mul_of_pos_right h1 h) (Nat.mul_le_mul_left _ (Nat.le_of_lt h2))
    rw [← Nat.pow_add] at this
    exact Nat.lt_of_lt_of_le this (Nat.pow_le_pow_right (by decide) hij)
  have hm : IntKind.i64.wrap ((a : Int) * b) = ((a * b : Nat) : Int) := by
    rw [← Int.natCast_mul, IntWalk.i64_in _ (by omega)]
  have := rtimes_w (t1 := nt a) (t2 := nt b) hm (by unfold nt; rw [S_size, S_size]; omega) w (by rw [nt_tx, nt_tx]; exact rbrief_y (by omega) (by omega) w) (rof_c _ (by omega) w)
  rwa [tx_nn] at this

set_option maxRecDepth 100000 in
set_option maxHeartbeats 2000000 in
theorem rshared_w {t1 t2 : ByteArray} {X Y G : Nat} (w : World) (hg : Nat.gcd X Y = G) (b1 : X < 10 ^ 18) (b2 : Y < 10 ^ 18)
    (S1 : ∀ w, Calls Tryz.prog 90 #[.string t1] w fun e w' => e = .returned (.string (nt X)) ∧ w' = w) (S2 : ∀ w, Calls Tryz.prog 90 #[.string t2] w fun e w' => e = .returned (.string (nt Y)) ∧ w' = w) :
    Calls Tryz.prog 60 #[.string t1, .string t2] w (RB (.string (nt G)) w) := by
  have T1 : ∀ w, Calls Tryz.prog 92 #[.string (nt X), .bool false] w fun e w' => e = .returned (.string (nt X)) ∧ w' = w := fun w => rsigned_f _ w
  have T2 : ∀ w, Calls Tryz.prog 92 #[.string (nt Y), .bool false] w fun e w' => e = .returned (.string (nt Y)) ∧ w' = w := fun w => rsigned_f _ w
  have Q : ∀ w, Calls Tryz.prog 93 #[.string (nt X), .string (nt Y)] w fun e w' => e = .returned (.tuple #[.int .i64 (X : Int), .int .i64 (Y : Int), .bool true]) ∧ w' = w := fun w => by
    rw [nt_tx, nt_tx]; exact rbrief_y (by omega) (by omega) w
  have O : ∀ u : Nat, u < 10 ^ 18 → ∀ w, Calls Tryz.prog 64 #[.int .i64 (u : Int)] w (RB (.string (nt u)) w) := fun u hu w => by
    have := rof_c (u : Int) (by omega) w
    rwa [tx_nn] at this
  have hz : ((nt Y).toList == [48]) = decide (Y = 0) := by
    have := tx_zero (Y : Int)
    rw [tx_nn] at this; rw [this]; simp
  have S1 := Lib.hid S1
  have S2' := Lib.hid S2
  have T1' := Lib.hid T1
  have T2' := Lib.hid T2
  have Q' := Lib.hid Q
  have O' := Lib.hid O
  have B' := Lib.hid (And.intro hg (And.intro b1 b2))
  clear S2 T1 T2 Q O hg b1 b2
  go_enter Tryz.func60, Tryz.ntmps60
  go_wp2_with fail
  refine (S1.out _).mono ?_
  rintro e w1 ⟨rfl, rfl⟩
  go_wp2_with fail
  refine (T1'.out _).mono ?_
  rintro e w2 ⟨rfl, rfl⟩
  go_wp2_with fail
  refine (S2'.out _).mono ?_
  rintro e w3 ⟨rfl, rfl⟩
  go_wp2_with fail
  refine (T2'.out _).mono ?_
  rintro e w4 ⟨rfl, rfl⟩
  go_wp2_with fail
  go_loopg [0, 1] 0 (fun _m x y wr => x = .string (nt X) ∧ y = .string (nt Y) ∧ wr = w4)
  case atStart => exact ⟨rfl, rfl, rfl⟩
  case round =>
    obtain ⟨rfl, rfl, rfl⟩ := hrel
    by_cases h0 : Y = 0
    · have z : decide (Y = 0) = true := decide_eq_true h0
      rw [z] at hz
      have hG : X = G := by have := B'.out.1; rw [h0, Nat.gcd_zero_right] at this; exact this
      have H0 := Lib.hid (And.intro h0 hG)
      clear h0 z hG
      go_wp2_with fail
      go_ret
      exact ⟨by rw [← H0.out.2]; rfl, Below.refl _ _⟩
    · have z : decide (Y = 0) = false := decide_eq_false h0
      rw [z] at hz
      clear z h0
      go_wp2_with fail
      refine (Q'.out _).mono ?_
      rintro e w5 ⟨rfl, rfl⟩
      go_wp2_with fail
      go_loopg [5, 6] Y (fun v c1 c2 wr2 => ∃ (u k : Nat), c1 = .int .i64 u ∧ c2 = .int .i64 v ∧ Nat.gcd u v = G ∧ u < 10 ^ 18 ∧ v < 10 ^ 18 ∧ wr2 = w5.drewN k)
      case atStart => exact ⟨X, 0, rfl, rfl, B'.out.1, B'.out.2.1, B'.out.2.2, rfl⟩
      case round =>
        obtain ⟨u, k, rfl, rfl, hg2, hu, hv, rfl⟩ := hrel
        by_cases hv0 : gk = 0
        · subst hv0
          rw [Nat.gcd_zero_right] at hg2
          subst hg2
          have Hu := Lib.hid hu
          clear hu hv
          go_wp2_with fail
          refine (O'.out _ Hu.out _).mono ?_
          rintro e w6 ⟨rfl, hb⟩
          have hb := Lib.hid hb
          go_wp2_with fail
          go_ret
          exact ⟨rfl, (below_drewN (Below.refl _ _) k).trans (hb.out.mono (Nat.le_refl _))⟩
        · have ht : (u : Int).tmod (gk : Int) = ((u % gk : Nat) : Int) := rfl
          have hg3 := Lib.hid (And.intro hg2 (And.intro hu hv))
          clear hg2 hu hv
          go_wp2_with fail
          go_quiet (fail)
          go_wp2_with fail
          go_roundg (u % gk)
          case measure => exact Nat.mod_lt _ (Nat.pos_of_ne_zero hv0)
          case rel =>
            refine ⟨gk, _, rfl, rfl, ?_, hg3.out.2.2, Nat.lt_of_le_of_lt (Nat.mod_le _ _) hg3.out.2.1, World.drewN_drewN ..⟩
            rw [← hg3.out.1, Nat.gcd_comm u gk, Nat.gcd_rec gk u, Nat.gcd_comm]

theorem rshared_c {a b : Int} (h1 : a.natAbs < 10 ^ 18) (h2 : b.natAbs < 10 ^ 18) (w : World) :
    Calls Tryz.prog 60 #[.string (tx a), .string (tx b)] w (RB (.string (nt (Nat.gcd a.natAbs b.natAbs))) w) :=
  rshared_w w rfl h1 h2 (fun w => rsz_c a w) (fun w => rsz_c b w)
end Go.Proofs.YtdknneofiefieaaGreatDoor

namespace Go.Proofs.YtdknneofiefieaaGreatDoor
open Go.RowKit Go.Lib Dec Rt

set_option maxRecDepth 100000 in
set_option maxHeartbeats 2000000 in
/-- the index of the slash, or -1 -/
theorem rslash_w {L : List UInt8} {p : Nat} {r : Int} (hp : p ≤ L.length) (hno : ∀ k, k < p → L[k]? ≠ some 47) (hl : L.length ≤ 1000000) (he : (p = L.length ∧ r = -1) ∨ (L[p]? = some 47 ∧ r = p)) (w : World) :
    Calls Tryz.prog 58 #[.string (S L)] w fun e w' => e = .returned (.int .i64 r) ∧ w' = w := by
  have hsz : (S L).size = L.length := S_size L
  have hszi : ((S L).size : Int) = (L.length : Int) := by rw [hsz]
  have hli : (L.length : Int) ≤ 1000000 := by omega
  have HE := Lib.hid (And.intro hp (And.intro hno he))
  clear hp hno he
  go_enter Tryz.func58, Tryz.ntmps58
  go_wp2_with fail
  go_loopg [3] L.length (fun m i wr => ∃ k : Nat, k + m = L.length ∧ k ≤ p ∧ i = .int .i64 k ∧ wr = w)
  case atStart => exact ⟨0, by omega, Nat.zero_le _, rfl, rfl⟩
  case round =>
    obtain ⟨k, hm, hkp, rfl, rfl⟩ := hrel
    by_cases hlt : k < L.length
    · have hlti : (k : Int) < (L.length : Int) := by omega
      obtain ⟨c, hc⟩ : ∃ c, L[k]? = some c := ⟨_, List.getElem?_eq_getElem hlt⟩
      have hks : k < (S L).size := by rw [hsz]; exact hlt
      have hget : (S L)[k]'hks = c := by
        have := (List.getElem?_eq_some_iff.1 hc).2
        exact this
      have hwk : IntKind.i64.wrap ((k : Int) + 1) = ((k + 1 : Nat) : Int) := by rw [IntWalk.i64_in _ (by omega)]; omega
      by_cases h47 : c = 47
      · subst h47
        have hkr : r = (k : Int) := by
          obtain ⟨_, hno, he⟩ := HE.out
          have : ¬ k < p := fun h => hno k h hc
          have : k = p := by omega
          subst this
          rcases he with ⟨h1, _⟩ | ⟨_, h2⟩
          · omega
          · exact h2
        have hq : (((47 : UInt8).toNat : Int) == 47) = true := rfl
        have HM := Lib.hid hkr
        clear hm hkp hc hkr hwk
        go_wp2_with fail
        go_ret
        exact ⟨by rw [HM.out]; rfl, rfl⟩
      · have hq : ((c.toNat : Int) == 47) = false := by
          rw [beq_eq_false_iff_ne]
          intro h
          exact h47 (UInt8.toNat_inj.1 (by have : c.toNat = 47 := by omega
                                           rw [this]; rfl))
        have hkp2 : k + 1 ≤ p := by
          obtain ⟨hp, hno, he⟩ := HE.out
          rcases Nat.lt_or_ge k p with h | h
          · omega
          · have : k = p := by omega
            subst this
            rcases he with ⟨h1, _⟩ | ⟨h2, _⟩
            · omega
            · rw [hc] at h2; exact (h47 (Option.some.inj h2)).elim
        have HM := Lib.hid (And.intro hm hkp2)
        clear hm hkp hc h47 hkp2
        go_wp2_with fail
        go_roundg (gk - 1)
        case measure => have := HM.out; omega
        case rel => exact ⟨k + 1, by have := HM.out; omega, HM.out.2, by go_num, rfl⟩
    · have hk : L.length = k := by omega
      have hnl : ¬ (k : Int) < (L.length : Int) := by omega
      have hr : r = -1 := by
        obtain ⟨hp, _, he⟩ := HE.out
        rcases he with ⟨_, h2⟩ | ⟨h2, _⟩
        · exact h2
        · have := (List.getElem?_eq_some_iff.1 h2).1; omega
      subst hr
      clear hm hlt hk hkp
      go_wp2_with fail
      go_ret
      exact ⟨rfl, rfl⟩
set_option maxRecDepth 100000 in
set_option maxHeartbeats 2000000 in
theorem rsplit_1 {t : ByteArray} (w : World) (Q : Calls Tryz.prog 58 #[.string t] w fun e w' => e = .returned (.int .i64 (-1)) ∧ w' = w) :
    Calls Tryz.prog 46 #[.string t] w fun e w' => e = .returned (.tuple #[.string t, .string (tx 1)]) ∧ w' = w := by
  have e1 : (⟨#[49]⟩ : ByteArray) = tx 1 := by decide +kernel
  go_enter Tryz.func46, Tryz.ntmps46
  go_wp2_with fail
  refine Q.mono ?_
  rintro e w1 ⟨rfl, rfl⟩
  have E1 := Lib.hid e1
  clear e1
  go_wp2_with fail
  refine bodyPost_ret (v := .tuple #[.string t, .string (tx 1)]) ?_ rfl ⟨rfl, rfl⟩
  rw [← E1.out]
  simp [results, Tryz.f46, go_sem]
set_option maxRecDepth 100000 in
set_option maxHeartbeats 2000000 in
theorem rsplit_2 {t a b : ByteArray} {p : Nat} (w : World) (ht : (t.size : Int) ≤ 1000000) (hp : (p : Int) + 1 ≤ (t.size : Int)) (ha : t.extract 0 p = a) (hb : t.extract (p + 1) t.size = b)
    (Q : Calls Tryz.prog 58 #[.string t] w fun e w' => e = .returned (.int .i64 (p : Int)) ∧ w' = w) :
    Calls Tryz.prog 46 #[.string t] w fun e w' => e = .returned (.tuple #[.string a, .string b]) ∧ ∃ k, w' = w.drewN k := by
  have hp1 : p + 1 ≤ t.size := by omega
  have hp2 : (p : Int) ≤ (t.size : Int) := by omega
  have hnn : (0 : Int) ≤ (p : Int) := by omega
  go_enter Tryz.func46, Tryz.ntmps46
  go_wp2_with fail
  refine Q.mono ?_
  rintro e w1 ⟨rfl, rfl⟩
  go_wp2_with fail
  go_quiet (fail)
  go_wp2_with fail
  refine bodyPost_ret (v := .tuple #[.string a, .string b]) ?_ rfl ⟨rfl, _, rfl⟩
  simp [results, Tryz.f46, go_sem]
theorem itoa_no47 (n : Int) : ∀ k : Nat, (itoa n)[k]? ≠ some 47 := by
  intro k h
  have hm := List.mem_of_getElem? h
  have hd : ∀ m : Nat, (47 : UInt8) ∉ decDigits m := fun m h => by
    have := dec_digs m _ h
    unfold dig at this
    exact absurd this.1 (by decide)
  rcases int_cases n with ⟨m, rfl⟩ | ⟨m, hm0, rfl⟩
  · rw [itoa_nn] at hm; exact hd _ hm
  · rw [itoa_ng hm0] at hm
    rcases List.mem_cons.1 hm with h | h
    · exact absurd h (by decide)
    · exact hd _ h
theorem rsplit_c {q : Rat} (h : Sq q) (w : World) :
    Calls Tryz.prog 46 #[.string (rt q)] w fun e w' => e = .returned (.tuple #[.string (tx q.num), .string (tx q.den)]) ∧ ∃ k, w' = w.drewN k := by
  have s1 := sz_len h.num
  have s2 := sz_len h.den
  rw [S_tx, S_size] at s1 s2
  by_cases hd : q.den = 1
  · rw [rt_one hd, hd]
    refine (rsplit_1 w ?_).mono fun e w' h => ⟨h.1, 0, h.2⟩
    rw [S_tx]
    exact rslash_w (p := (itoa q.num).length) (Nat.le_refl _) (fun k _ => itoa_no47 _ k) (by omega) (.inl ⟨rfl, rfl⟩) w
  · have e : rt q = S (itoa q.num ++ 47 :: itoa (q.den : Int)) := by
      rw [rt_frac hd, S_tx, S_tx]
      have : (⟨#[47]⟩ : ByteArray) = S [47] := rfl
      rw [this, S_app, S_app]; simp
    have hsz : (rt q).size = (itoa q.num).length + ((itoa (q.den : Int)).length + 1) := by rw [e, S_size]; simp
    refine rsplit_2 (p := (itoa q.num).length) w (by omega) (by omega) ?_ ?_ ?_
    · rw [e, S_ext, S_tx]; simp
    · rw [hsz, e, S_ext, S_tx]
      congr 1
      rw [List.take_of_length_le (by simp)]
      rw [List.drop_append, List.drop_eq_nil_of_le (by omega), Nat.add_sub_cancel_left]; rfl
    · rw [e]
      refine rslash_w (by simp) (fun k hk => ?_) (by simp; omega) (.inr ⟨?_, rfl⟩) w
      · rw [List.getElem?_append_left hk]; exact itoa_no47 _ k
      · rw [List.getElem?_append_right (Nat.le_refl _)]; simp

set_option maxRecDepth 100000 in
set_option maxHeartbeats 2000000 in
theorem rlow_w {t1 t2 g n d x y z : ByteArray} {b : Bool} (w : World) (hb : (d.toList == [49]) = b) (hz : (if b then n else n ++ (⟨#[47]⟩ : ByteArray) ++ d) = z) (l1 : n.size ≤ 1025) (l2 : d.size ≤ 1025)
    (HS : Calls Tryz.prog 60 #[.string t1, .string t2] w (RB (.string g) w)) (HB : ∀ w, Calls Tryz.prog 91 #[.string t2] w fun e w' => e = .returned (.bool false) ∧ w' = w)
    (P1 : ∀ w, Calls Tryz.prog 94 #[.string t1, .string g] w (RB (.tuple #[.string n, .string x]) w)) (P2 : ∀ w, Calls Tryz.prog 94 #[.string t2, .string g] w (RB (.tuple #[.string d, .string y]) w)) :
    Calls Tryz.prog 62 #[.string t1, .string t2] w (RB (.string z) w) := by
  have HB' := Lib.hid HB
  have P1' := Lib.hid P1
  have P2' := Lib.hid P2
  clear HB P1 P2
  cases b
  · rw [if_neg (by decide)] at hz
    subst hz
    go_enter Tryz.func62, Tryz.ntmps62
    go_wp2_with fail
    refine HS.mono ?_
    rintro e w1 ⟨rfl, h1⟩
    have h1 := Lib.hid h1
    go_wp2_with fail
    refine (HB'.out _).mono ?_
    rintro e w2 ⟨rfl, rfl⟩
    go_wp2_with fail
    refine (P1'.out _).mono ?_
    rintro e w3 ⟨rfl, h3⟩
    have h3 := Lib.hid h3
    go_wp2_with fail
    refine (P2'.out _).mono ?_
    rintro e w4 ⟨rfl, h4⟩
    have h4 := Lib.hid h4
    go_wp2_with fail
    go_ret
    exact ⟨rfl, Bl.trans h1.out (Bl.trans h3.out h4.out)⟩
  · rw [if_pos rfl] at hz
    subst hz
    go_enter Tryz.func62, Tryz.ntmps62
    go_wp2_with fail
    refine HS.mono ?_
    rintro e w1 ⟨rfl, h1⟩
    have h1 := Lib.hid h1
    go_wp2_with fail
    refine (HB'.out _).mono ?_
    rintro e w2 ⟨rfl, rfl⟩
    go_wp2_with fail
    refine (P1'.out _).mono ?_
    rintro e w3 ⟨rfl, h3⟩
    have h3 := Lib.hid h3
    go_wp2_with fail
    refine (P2'.out _).mono ?_
    rintro e w4 ⟨rfl, h4⟩
    have h4 := Lib.hid h4
    go_wp2_with fail
    go_ret
    exact ⟨rfl, Bl.trans h1.out (Bl.trans h3.out h4.out)⟩
theorem sz18 {n : Int} (h : n.natAbs < 10 ^ 19) : (tx n).size ≤ 1025 := by
  have := (dec_len n.natAbs 19 (by decide)).2 h
  rcases int_cases n with ⟨m, rfl⟩ | ⟨m, hm0, rfl⟩
  · rw [tx_nn]; unfold nt; rw [S_size]; simp at this; omega
  · rw [tx_ng hm0, S_size]; simp at this; simp; omega
theorem rlow_c {a b : Int} (h1 : a.natAbs < 10 ^ 18) (h0 : 0 < b) (h2 : b.natAbs < 10 ^ 18) (w : World) :
    Calls Tryz.prog 62 #[.string (tx a), .string (tx b)] w (RB (.string (rt (Rat.divInt a b))) w) := by
  have hg : gs a b = ((Nat.gcd a.natAbs b.natAbs : Nat) : Int) := by unfold gs; rw [if_neg (by omega)]; rfl
  have hn := low_num (num := a) (den := b) (by omega)
  have hd := low_den (num := a) (den := b) (by omega)
  rw [hg] at hn hd
  have g0 : 0 < Nat.gcd a.natAbs b.natAbs := Nat.gcd_pos_of_pos_right _ (by omega)
  have g1 : Nat.gcd a.natAbs b.natAbs ≤ b.natAbs := Nat.gcd_le_right _ (by omega)
  have hs := rshared_c h1 h2 w
  generalize Nat.gcd a.natAbs b.natAbs = G at *
  have p1 := fun w => rparted_c (m := a) (n := (G : Int)) h1 (by omega) (by omega) w
  have p2 := fun w => rparted_c (m := b) (n := (G : Int)) h2 (by omega) (by omega) w
  rw [hn, tx_nn] at p1
  rw [hd, tx_nn G] at p2
  have bn := pt_b (m := a) (n := (G : Int)) (by omega) (by omega)
  have bd := pt_b (m := b) (n := (G : Int)) (by omega) (by omega)
  rw [hn] at bn
  rw [hd] at bd
  refine rlow_w w (tx_one _) ?_ (sz18 (by omega)) (sz18 (by omega)) hs (fun w => ?_) p1 p2
  · split
    · rename_i h; rw [rt_one (by have := of_decide_eq_true h; omega)]
    · rename_i h; rw [rt_frac (fun e => h (by rw [e]; rfl))]
  · have := rbelow_c b w
    rwa [decide_eq_false (by omega)] at this

end Go.Proofs.YtdknneofiefieaaGreatDoor

namespace Go.Proofs.YtdknneofiefieaaGreatDoor
open Go.RowKit Go.Lib Dec Rt

/-- small and not negative -/
structure Nn (q : Rat) : Prop where
  p : 0 ≤ q.num
  n : q.num.natAbs < 10 ^ 9
  d : q.den < 10 ^ 9
theorem pow_up {x k K : Nat} (h : x < 10 ^ k) (hk : k ≤ K) : x < 10 ^ K := Nat.lt_of_lt_of_le h (Nat.pow_le_pow_right (by decide) hk)
theorem Nn.sq {q : Rat} (h : Nn q) : Sq q := ⟨⟨pow_up (K := 1024) h.n (Nat.le_of_ble_eq_true rfl)⟩, ⟨pow_up (K := 1024) (show ((q.den : Int)).natAbs < 10 ^ 9 from h.d) (Nat.le_of_ble_eq_true rfl)⟩⟩
theorem rtimes_n {a b : Int} (ha : 0 ≤ a) (hb : 0 ≤ b) (h1 : a.natAbs < 10 ^ 9) (h2 : b.natAbs < 10 ^ 9) (w : World) :
    Calls Tryz.prog 95 #[.string (tx a), .string (tx b)] w (RB (.string (tx (a * b))) w) := by
  obtain ⟨m, rfl⟩ := Int.eq_ofNat_of_zero_le ha
  obtain ⟨n, rfl⟩ := Int.eq_ofNat_of_zero_le hb
  have := rtimes_c (a := m) (b := n) (i := 9) (j := 9) h1 h2 (by decide) (by decide) (by decide) w
  rwa [nt_tx, nt_tx, nt_tx, Int.natCast_mul] at this

def crs (a b : Rat) : Array Value := #[.string (tx (a.num * b.den)), .string (tx (b.num * a.den)), .string (tx (a.den * b.den)), .string (tx (a.num * b.num)), .string (tx (a.den * b.num))]
set_option maxRecDepth 100000 in
set_option maxHeartbeats 2000000 in
theorem rcrossed_w {t1 t2 n p m q : ByteArray} {x1 x2 x3 x4 x5 : ByteArray} (w : World)
    (S1 : ∀ w, Calls Tryz.prog 46 #[.string t1] w fun e w' => e = .returned (.tuple #[.string n, .string p]) ∧ ∃ k, w' = w.drewN k)
    (S2 : ∀ w, Calls Tryz.prog 46 #[.string t2] w fun e w' => e = .returned (.tuple #[.string m, .string q]) ∧ ∃ k, w' = w.drewN k)
    (T1 : ∀ w, Calls Tryz.prog 95 #[.string n, .string q] w (RB (.string x1) w))
    (T2 : ∀ w, Calls Tryz.prog 95 #[.string m, .string p] w (RB (.string x2) w))
    (T3 : ∀ w, Calls Tryz.prog 95 #[.string p, .string q] w (RB (.string x3) w))
    (T4 : ∀ w, Calls Tryz.prog 95 #[.string n, .string m] w (RB (.string x4) w))
    (T5 : ∀ w, Calls Tryz.prog 95 #[.string p, .string m] w (RB (.string x5) w)) :
    Calls Tryz.prog 61 #[.string t1, .string t2] w fun e w' => ∃ b : Nat, e = .returned (.slice (some ⟨b, 0, none⟩) 5 5) ∧ w'.heap[b]? = some (.cells #[.string x1, .string x2, .string x3, .string x4, .string x5] 96 (0, 0)) ∧ Below w.heap.size w w' := by
  have S1' := Lib.hid S1
  have S2' := Lib.hid S2
  have T1' := Lib.hid T1
  have T2' := Lib.hid T2
  have T3' := Lib.hid T3
  have T4' := Lib.hid T4
  have T5' := Lib.hid T5
  clear S1 S2 T1 T2 T3 T4 T5
  go_enter Tryz.func61, Tryz.ntmps61
  go_wp2_with fail
  refine (S1'.out _).mono ?_
  rintro e w1 ⟨rfl, k1, rfl⟩
  go_wp2_with fail
  refine (S2'.out _).mono ?_
  rintro e w2 ⟨rfl, k2, rfl⟩
  go_wp2_with fail
  refine (T1'.out _).mono ?_
  rintro e w3 ⟨rfl, h3⟩
  have h3 := Lib.hid h3
  go_wp2_with fail
  refine (T2'.out _).mono ?_
  rintro e w4 ⟨rfl, h4⟩
  have h4 := Lib.hid h4
  go_wp2_with fail
  refine (T3'.out _).mono ?_
  rintro e w5 ⟨rfl, h5⟩
  have h5 := Lib.hid h5
  go_wp2_with fail
  refine (T4'.out _).mono ?_
  rintro e w6 ⟨rfl, h6⟩
  have h6 := Lib.hid h6
  go_wp2_with fail
  refine (T5'.out _).mono ?_
  rintro e w7 ⟨rfl, h7⟩
  have h7 := Lib.hid h7
  go_wp2_with fail
  go_ret
  refine ⟨_, rfl, heap_alloc_new w7 _, ?_⟩
  have hb := Bl.trans (below_drewN (Below.refl w.heap.size w) (k1 + k2)) (Bl.trans h3.out (Bl.trans h4.out (Bl.trans h5.out (Bl.trans h6.out h7.out))))
  exact hb.alloc hb.size _
theorem rcrossed_c {a b : Rat} (ha : Nn a) (hb : Nn b) (w : World) :
    Calls Tryz.prog 61 #[.string (rt a), .string (rt b)] w fun e w' => ∃ x : Nat, e = .returned (.slice (some ⟨x, 0, none⟩) 5 5) ∧ w'.heap[x]? = some (.cells (crs a b) 96 (0, 0)) ∧ Below w.heap.size w w' :=
  rcrossed_w w (fun w => rsplit_c ha.sq w) (fun w => rsplit_c hb.sq w)
    (fun w => rtimes_n ha.p (Int.natCast_nonneg _) ha.n hb.d w) (fun w => rtimes_n hb.p (Int.natCast_nonneg _) hb.n ha.d w) (fun w => rtimes_n (Int.natCast_nonneg _) (Int.natCast_nonneg _) ha.d hb.d w)
    (fun w => rtimes_n ha.p hb.p ha.n hb.n w) (fun w => rtimes_n (Int.natCast_nonneg _) hb.p ha.d hb.n w)

set_option maxRecDepth 100000 in
set_option maxHeartbeats 2000000 in
theorem rrtimes_w {t1 t2 c0 c1 c2 c3 c4 z : ByteArray} (w : World)
    (X : ∀ w, Calls Tryz.prog 61 #[.string t1, .string t2] w fun e w' => ∃ x : Nat, e = .returned (.slice (some ⟨x, 0, none⟩) 5 5) ∧ w'.heap[x]? = some (.cells #[.string c0, .string c1, .string c2, .string c3, .string c4] 96 (0, 0)) ∧ Below w.heap.size w w')
    (L : ∀ w, Calls Tryz.prog 62 #[.string c3, .string c2] w (RB (.string z) w)) :
    Calls Tryz.prog 108 #[.string t1, .string t2] w (RB (.string z) w) := by
  have L' := Lib.hid L
  clear L
  go_enter Tryz.func108, Tryz.ntmps108
  go_wp2_with fail
  refine (X _).mono ?_
  rintro e w1 ⟨x, rfl, hx, h1⟩
  have d3 : w1.cell? ⟨x, 3, none⟩ = some (.string c3) := cell_of_row w1 x 3 _ _ _ hx
  have d2 : w1.cell? ⟨x, 2, none⟩ = some (.string c2) := cell_of_row w1 x 2 _ _ _ hx
  have h1 := Lib.hid h1
  clear X
  go_wp2_with fail
  clear hx
  go_region_with (first | (go_at_call 62; refine (L'.out _).mono ?_; rintro e w2 ⟨rfl, h2⟩))
  all_goals
    have h2 := Lib.hid h2
    go_wp2_with fail
    go_ret
    exact ⟨rfl, Bl.trans h1.out (Bl.trans (Below.refl _ _).drew h2.out)⟩
theorem dec_mul (a b : Rat) : Rat.divInt (a.num * b.num) (a.den * b.den) = a * b := by
  rw [← Rat.divInt_mul_divInt, Rat.num_divInt_den, Rat.num_divInt_den]
theorem lt18 {a b : Nat} (h1 : a < 10 ^ 9) (h2 : b < 10 ^ 9) : a * b < 10 ^ 18 := by
  have := Nat.mul_le_mul (Nat.le_of_lt_succ (show a < 999999999 + 1 by omega)) (Nat.le_of_lt_succ (show b < 999999999 + 1 by omega))
  omega
theorem rrtimes_c {a b : Rat} (ha : Nn a) (hb : Nn b) (w : World) :
    Calls Tryz.prog 108 #[.string (rt a), .string (rt b)] w (RB (.string (rt (a * b))) w) := by
  have l := fun w => rlow_c (a := a.num * b.num) (b := (a.den : Int) * b.den) (by rw [Int.natAbs_mul]; exact lt18 ha.n hb.n) (Int.mul_pos (by have := a.den_pos; omega) (by have := b.den_pos; omega)) (by rw [Int.natAbs_mul]; exact lt18 ha.d hb.d) w
  rw [dec_mul] at l
  exact rrtimes_w w (fun w => rcrossed_c ha hb w) l

set_option maxRecDepth 100000 in
set_option maxHeartbeats 2000000 in
theorem rwhole_w (n : Int) (t : ByteArray) (w : World) (O : Calls Tryz.prog 64 #[.int .i64 n] w (RB (.string t) w)) :
    Calls Tryz.prog 34 #[.int .i64 n] w (RB (.string t) w) := by
  go_enter Tryz.func34, Tryz.ntmps34
  go_wp2_with fail
  refine O.mono ?_
  rintro e w1 ⟨rfl, hb⟩
  have hb := Lib.hid hb
  go_wp2_with fail
  go_ret
  exact ⟨rfl, hb.out⟩
theorem rwhole_c (n : Int) (h : n.natAbs ≤ 9223372036854775807) (w : World) :
    Calls Tryz.prog 34 #[.int .i64 n] w (RB (.string (rt (n : Rat))) w) := by
  have := rwhole_w n _ w (rof_c n h w)
  rwa [rt_one (q := (n : Rat)) rfl]
set_option maxRecDepth 100000 in
set_option maxHeartbeats 2000000 in
theorem rover_w {m n : Int} {z : ByteArray} (w : World) (O1 : ∀ w, Calls Tryz.prog 64 #[.int .i64 m] w (RB (.string (tx m)) w)) (O2 : ∀ w, Calls Tryz.prog 64 #[.int .i64 n] w (RB (.string (tx n)) w))
    (L : ∀ w, Calls Tryz.prog 62 #[.string (tx m), .string (tx n)] w (RB (.string z) w)) :
    Calls Tryz.prog 107 #[.int .i64 m, .int .i64 n] w (RB (.string z) w) := by
  have O2' := Lib.hid O2
  have L' := Lib.hid L
  clear O2 L
  go_enter Tryz.func107, Tryz.ntmps107
  go_wp2_with fail
  refine (O1 _).mono ?_
  rintro e w1 ⟨rfl, h1⟩
  have h1 := Lib.hid h1
  go_wp2_with fail
  refine (O2'.out _).mono ?_
  rintro e w2 ⟨rfl, h2⟩
  have h2 := Lib.hid h2
  go_wp2_with fail
  refine (L'.out _).mono ?_
  rintro e w3 ⟨rfl, h3⟩
  have h3 := Lib.hid h3
  go_wp2_with fail
  go_ret
  exact ⟨rfl, Bl.trans h1.out (Bl.trans h2.out h3.out)⟩
theorem rover_c {m n : Int} (h1 : m.natAbs < 10 ^ 18) (h0 : 0 < n) (h2 : n.natAbs < 10 ^ 18) (w : World) :
    Calls Tryz.prog 107 #[.int .i64 m, .int .i64 n] w (RB (.string (rt (Rat.divInt m n))) w) :=
  rover_w w (fun w => rof_c m (by omega) w) (fun w => rof_c n (by omega) w) (fun w => rlow_c h1 h0 h2 w)
end Go.Proofs.YtdknneofiefieaaGreatDoor
