import Derived.WalkKit
import Derived.Lib.Hide
import Derived.Test.YtdknneofiefieaaGreatDoorProg
import Derived.Test.YtdknneofiefieaaGreatDoorShelf
import Derived.ChangeAgain
import Derived.Lib.LaidTab
import Derived.Shelf.Strings.SlTrimAscii
import Derived.Lib.AtoiErrMem
import Derived.Test.YtdknneofiefieaaGreatDoorGa

namespace Go.Proofs.YtdknneofiefieaaGreatDoor
open Go.RowKit Go.Lib Dec

/-- the text of an integer -/
def tx (n : Int) : ByteArray := ⟨(itoa n).toArray⟩
theorem tx_list (n : Int) : (tx n).toList = itoa n := by unfold tx; simp
theorem tx_data (n : Int) : (tx n).data.toList = itoa n := by unfold tx; simp
theorem tx_size (n : Int) : (tx n).size = (itoa n).length := by unfold tx; simp [ByteArray.size]
theorem itoa_ne (n : Int) : itoa n ≠ [] := by unfold itoa; split; simp; exact dec_ne_nil _
theorem tx_pos (n : Int) : 0 < (tx n).size := by
  rw [tx_size]; exact List.length_pos_iff.2 (itoa_ne n)
theorem itoa_zero : itoa 0 = [48] := by decide +kernel
theorem tx_zero (n : Int) : ((tx n).toList == [48]) = decide (n = 0) := by
  rw [tx_list]
  by_cases h : n = 0
  · subst h; rw [itoa_zero]; decide
  · rw [decide_eq_false h, beq_eq_false_iff_ne]
    intro e; exact h (itoa_inj (e.trans itoa_zero.symm))
theorem dec_head (n : Nat) : ∃ c t, decDigits n = c :: t ∧ dig c := by
  cases h : decDigits n with
  | nil => exact (dec_ne_nil n h).elim
  | cons c t => exact ⟨c, t, rfl, dec_digs n c (by rw [h]; simp)⟩
theorem itoa_head (n : Int) : ∃ c t, itoa n = c :: t ∧ (c = 45 ↔ n < 0) := by
  unfold itoa
  split
  · rename_i h; exact ⟨45, _, rfl, by simp [h]⟩
  · rename_i h
    obtain ⟨c, t, e, hc⟩ := dec_head n.toNat
    refine ⟨c, t, e, ⟨fun h' => ?_, fun h' => by omega⟩⟩
    subst h'; unfold dig at hc; exact absurd hc (by decide)
theorem tx_get0 (n : Int) (h : 0 < (tx n).size) : ((((tx n)[0]'h).toNat : Int) == 45) = decide (n < 0) := by
  obtain ⟨c, t, e, hc⟩ := itoa_head n
  have h1 : (tx n)[0]'h = c := by
    show (tx n).data[0] = c
    have : (tx n).data = (itoa n).toArray := rfl
    simp only [this, e]; rfl
  rw [h1]
  by_cases h2 : n < 0
  · rw [hc.2 h2, decide_eq_true h2]; decide
  · rw [decide_eq_false h2, beq_eq_false_iff_ne]
    intro h3
    have : c = 45 := UInt8.toNat_inj.1 (by have : (45 : UInt8).toNat = 45 := rfl; omega)
    exact h2 (hc.1 this)
end Go.Proofs.YtdknneofiefieaaGreatDoor

namespace Go.Proofs.YtdknneofiefieaaGreatDoor
open Go.RowKit Go.Lib

/-- what holds of the package-level variables -/
structure Gd (w : World) : Prop where
  shaped : w.ShapedOpen Tryz.prog
  tab : Lib.TabIs Tryz.prog w "internal/strconv.uint64pow10" .u64 Lib.pow10Tab
  signs : w.var? Tryz.prog "metrolab/bonus.signs" = some #[.int .i64 (-1), .int .i64 (-1), .int .i64 1, .int .i64 1, .int .i64 1, .int .i64 (-1)]

theorem var_below {w w' : World} {n : String} {cs : Array Value} (h : w.var? Tryz.prog n = some cs) (hb : Below w.heap.size w w') : w'.var? Tryz.prog n = some cs := by
  unfold World.var? at *
  cases hg : Tryz.prog.globalNamed n with
  | none => rw [hg] at h; cases h
  | some g =>
    rw [hg] at h
    simp only [Option.bind_some] at h ⊢
    by_cases hlt : g < w.heap.size
    · rw [hb.block g hlt]; exact h
    · rw [Array.getElem?_eq_none (by omega)] at h; cases h

theorem Gd.below {w w' : World} (h : Gd w) (hb : Below w.heap.size w w') : Gd w' :=
  ⟨h.shaped.keptBut (hb.frame (fun _ => False)) (fun _ h => h.elim), var_below h.tab hb, var_below h.signs hb⟩

theorem below_drewN {B : Nat} {a w : World} (h : Below B a w) (n : Nat) : Below B a (w.drewN n) := by
  induction n generalizing w with
  | zero => exact h
  | succ n ih => rw [← World.drew_drewN]; exact (ih h).drew
theorem Gd.drew {w : World} (h : Gd w) : Gd w.drew := h.below (Below.refl _ w).drew
theorem Gd.drewN {w : World} (h : Gd w) (n : Nat) : Gd (w.drewN n) := h.below (below_drewN (Below.refl _ w) n)
theorem Gd.alloc {w : World} (h : Gd w) (o : Obj) : Gd (w.alloc o) := h.below ((Below.refl _ w).alloc (Nat.le_refl _) o)

/-- two steps, each with blocks of its own -/
theorem Bl.trans {a b c : World} (h : Below a.heap.size a b) (k : Below b.heap.size b c) : Below a.heap.size a c := h.trans (k.mono h.size)
end Go.Proofs.YtdknneofiefieaaGreatDoor

namespace Go.Proofs.YtdknneofiefieaaGreatDoor
open Go.RowKit Go.Lib Dec

theorem below_grow (w : World) (os : Array Obj) : Below w.heap.size w (Sort.grow w os) := by
  refine ⟨rfl, rfl, rfl, ?_, fun k hk => ?_⟩
  · show w.heap.size ≤ (w.heap ++ os).size; simp
  · show (w.heap ++ os)[k]? = _
    rw [Array.getElem?_append_left hk]

/-- strconv.Itoa -/
theorem itoa_c (n : Int) (h0 : -9223372036854775808 ≤ n) (h1 : n ≤ 9223372036854775807) (w : World) (g : Gd w) :
    Calls Tryz.prog 158 #[.int .i64 n] w fun e w' => e = .returned (.string (tx n)) ∧ Below w.heap.size w w' := by
  refine (Tryz.strconv_Itoa n h0 h1 w g.tab).mono fun e w' => ?_
  rintro ⟨rfl, k, os, rfl⟩
  exact ⟨rfl, Bl.trans (below_drewN (Below.refl _ w) k) (below_grow _ _)⟩

theorem decFrom_digs (l : List UInt8) (h : digs l) (a : Nat) : Lib.decFrom a l = some (l.foldl (fun a c => 10 * a + (c.toNat - 48)) a) := by
  induction l generalizing a with
  | nil => rfl
  | cons c t ih =>
    have hc := (digs_cons.1 h).1
    unfold dig at hc
    have hv : Lib.digitVal c = some (c.toNat - 48) := by unfold Lib.digitVal; rw [if_pos hc]
    unfold Lib.decFrom
    rw [hv]
    simp only [List.foldl_cons]
    rw [ih (digs_cons.1 h).2, Nat.mul_comm]
theorem decNat_digs {l : List UInt8} (hn : l ≠ []) (h : digs l) : Lib.decNat l = some (vd l) := by
  unfold Lib.decNat
  rw [if_neg (by simpa using hn), decFrom_digs l h]; rfl
theorem atoi_digs {l : List UInt8} (hn : l ≠ []) (h : digs l) : Lib.atoi l = some (vd l : Int) := by
  cases l with
  | nil => exact (hn rfl).elim
  | cons c t =>
    have hc := (digs_cons.1 h).1
    unfold dig at hc
    unfold Lib.atoi
    have h1 : (c == 45) = false := by rw [beq_eq_false_iff_ne]; rintro rfl; exact absurd hc (by decide)
    have h2 : (c == 43) = false := by rw [beq_eq_false_iff_ne]; rintro rfl; exact absurd hc (by decide)
    simp only
    rw [h1, h2, decNat_digs hn h]; simp
theorem atoi_itoa (n : Int) : Lib.atoi (itoa n) = some n := by
  unfold itoa
  split
  · unfold Lib.atoi
    simp only
    rw [decNat_digs (dec_ne_nil _) (dec_digs _), vd_dec]
    simp; omega
  · rw [atoi_digs (dec_ne_nil _) (dec_digs _), vd_dec]
    congr 1; omega

/-- strconv.Atoi of at most 18 bytes -/
theorem atoi_c (s : ByteArray) (n : Int) (hl : s.size ≤ 18) (h : Lib.atoi s.data.toList = some n) (w : World) :
    Calls Tryz.prog 156 #[.string s] w fun e w' => e = .returned (.tuple #[.int .i64 n, .nilIface]) ∧ Below w.heap.size w w' := by
  refine (Tryz.strconv_Atoi s n hl h w).mono fun e w' => ?_
  rintro ⟨rfl, t, rfl⟩
  exact ⟨rfl, Lib.bytesWorld_below _ _ _⟩

/-- a text without a minus sign in front -/
def mag (l : List UInt8) : List UInt8 := match l with
  | 45 :: t => t
  | l => l
theorem mag_trim (l : List UInt8) : Lib.trimPrefix l [45] = mag l := by
  unfold Lib.trimPrefix Lib.hasPrefix mag
  cases l with
  | nil => rfl
  | cons c t =>
    by_cases h : c = 45
    · subst h; simp
    · have : ¬ [45] <+: c :: t := by
        intro hp; have := List.prefix_cons_iff.1 hp; simp at this; obtain ⟨_, e, _⟩ := this; exact h e.1.symm
      split
      · rename_i h2; simp at h2; exact (h h2.symm).elim
      · rename_i h2
        split
        · rename_i h3; cases h3; exact (h rfl).elim
        · rfl
/-- the decimal digits of the magnitude -/
def mg (n : Int) : ByteArray := ⟨(decDigits n.natAbs).toArray⟩
theorem mag_itoa (n : Int) : mag (itoa n) = decDigits n.natAbs := by
  unfold itoa
  split
  · rfl
  · rename_i h
    have e : n.toNat = n.natAbs := by omega
    rw [e]
    unfold mag
    split
    · rename_i t h2
      have := dec_digs n.natAbs 45 (by rw [h2]; simp)
      exact absurd this (by unfold dig; decide)
    · rfl
/-- strings.TrimPrefix of a minus sign -/
theorem trim_c (s : ByteArray) (w : World) :
    Calls Tryz.prog 114 #[.string s, .string ⟨#[45]⟩] w fun e w' => e = .returned (.string ⟨(mag s.data.toList).toArray⟩) ∧ w = w' := by
  refine (Tryz.strings_TrimPrefix s ⟨#[45]⟩ w).mono fun e w' => ?_
  rintro ⟨rfl, rfl⟩
  refine ⟨?_, rfl⟩
  rw [← mag_trim]
theorem trim_tx (n : Int) (w : World) :
    Calls Tryz.prog 114 #[.string (tx n), .string ⟨#[45]⟩] w fun e w' => e = .returned (.string (mg n)) ∧ w = w' := by
  have := trim_c (tx n) w
  rw [tx_data, mag_itoa] at this
  exact this

theorem dropWhile_nil {α : Type} (p : α → Bool) (l : List α) : l.dropWhile p = [] ↔ ∀ x ∈ l, p x = true := by
  induction l with
  | nil => simp
  | cons a t ih =>
    simp only [List.dropWhile_cons]
    split
    · rename_i h; rw [ih]; simp [h]
    · rename_i h; simp; intro h2; exact (h h2).elim
theorem ten (c : UInt8) : [48, 49, 50, 51, 52, 53, 54, 55, 56, 57].contains c = decide (48 ≤ c.toNat ∧ c.toNat ≤ 57) := by
  have : ∀ i : Fin 256, [48, 49, 50, 51, 52, 53, 54, 55, 56, 57].contains (UInt8.ofNat i.val) = decide (48 ≤ (UInt8.ofNat i.val).toNat ∧ (UInt8.ofNat i.val).toNat ≤ 57) := by decide +kernel
  have h := this ⟨c.toNat, c.toNat_lt⟩
  simpa using h
theorem trimS_nil (l : List UInt8) : Lib.trimS l [48, 49, 50, 51, 52, 53, 54, 55, 56, 57] = [] ↔ digs l := by
  unfold Lib.trimS Lib.trimLeftS Lib.trimRightS
  rw [dropWhile_nil]
  constructor
  · intro h c hc
    refine Classical.byContradiction fun hn => ?_
    have hne : l.reverse.dropWhile ([48, 49, 50, 51, 52, 53, 54, 55, 56, 57].contains ·) ≠ [] := by
      intro e
      have := (dropWhile_nil _ _).1 e c (by simpa using hc)
      rw [ten] at this
      have h3 : 48 ≤ c.toNat ∧ c.toNat ≤ 57 := of_decide_eq_true this
      exact hn h3
    cases hd : l.reverse.dropWhile ([48, 49, 50, 51, 52, 53, 54, 55, 56, 57].contains ·) with
    | nil => exact hne hd
    | cons x t =>
      have h1 := h x (by rw [hd]; simp)
      have h2 := List.head?_dropWhile_not ([48, 49, 50, 51, 52, 53, 54, 55, 56, 57].contains ·) l.reverse
      rw [hd] at h2
      simp only [List.head?_cons] at h2
      rw [h1] at h2; exact absurd h2 (by decide)
  · intro h x hx
    have hx2 : x ∈ l := by
      have := List.mem_reverse.1 hx
      exact List.mem_reverse.1 ((List.dropWhile_sublist _).subset this)
    have h3 : 48 ≤ x.toNat ∧ x.toNat ≤ 57 := h x hx2
    rw [ten]; exact decide_eq_true h3

/-- strings.Trim of the ten digits -/
theorem trim10_c (s : ByteArray) (hs : s.size ≤ 9223372036854775807) (w : World) :
    Calls Tryz.prog 115 #[.string s, .string ⟨#[48, 49, 50, 51, 52, 53, 54, 55, 56, 57]⟩] w fun e w' => e = .returned (.string ⟨(Lib.trimS s.data.toList [48, 49, 50, 51, 52, 53, 54, 55, 56, 57]).toArray⟩) ∧ Below w.heap.size w w' :=
  Any.strings_Trim_laid Tryz.lays160 (by kernel_rfl) s ⟨#[48, 49, 50, 51, 52, 53, 54, 55, 56, 57]⟩ w hs (by decide) (ascii_of_all (by decide))
end Go.Proofs.YtdknneofiefieaaGreatDoor

namespace Go.Proofs.YtdknneofiefieaaGreatDoor
open Go.RowKit Go.Lib Dec

set_option maxHeartbeats 400000 in
theorem sign_c (n : Int) (w : World) : Calls Tryz.prog 117 #[.string (tx n)] w fun e w' => e = .returned (.int .i64 n.sign) ∧ w = w' := by
  have h0 := tx_zero n
  have h1 := tx_pos n
  have h2 := tx_get0 n h1
  rcases Int.lt_trichotomy n 0 with h | h | h
  · rw [decide_eq_false (by omega)] at h0
    rw [decide_eq_true h] at h2
    rw [Int.sign_eq_neg_one_of_neg h]
    go_enter Tryz.func117, Tryz.ntmps117
    go_wp2
    go_ret
    exact ⟨rfl, rfl⟩
  · rw [decide_eq_true h] at h0
    subst h
    go_enter Tryz.func117, Tryz.ntmps117
    go_wp2
    go_ret
    exact ⟨rfl, rfl⟩
  · rw [decide_eq_false (by omega)] at h0 h2
    rw [Int.sign_eq_one_of_pos h]
    go_enter Tryz.func117, Tryz.ntmps117
    go_wp2
    go_ret
    exact ⟨rfl, rfl⟩

/-- what whole.Check says of a text -/
def ckI (s : List UInt8) : Int :=
  if mag s = [] ∨ ¬ digs (mag s) then 3 else if (mag s).head? = some 48 ∧ s ≠ [48] then 3 else if 1024 < (mag s).length then 11 else 0

theorem mk_data (s : ByteArray) : (⟨s.data.toList.toArray⟩ : ByteArray) = s := rfl

set_option maxRecDepth 100000 in
set_option maxHeartbeats 1000000 in
theorem check_c (s : ByteArray) (hs : s.size ≤ 1000000000) (w : World) :
    Calls Tryz.prog 77 #[.string s] w fun e w' => e = .returned (.int .i64 (ckI s.data.toList)) ∧ Below w.heap.size w w' := by
  have hT := trim_c s
  generalize hm : mag s.data.toList = m at hT
  have hml : m.length ≤ s.size := by
    rw [← hm, Lib.size_eq]; unfold mag; split
    · rename_i h; rw [h]; simp
    · exact Nat.le_refl _
  have hmS : (⟨m.toArray⟩ : ByteArray).size = m.length := by simp [ByteArray.size]
  have hTr := trim10_c ⟨m.toArray⟩ (by rw [hmS]; omega)
  have hdat : (⟨m.toArray⟩ : ByteArray).data.toList = m := by simp
  rw [hdat] at hTr
  have hnil : Lib.trimS m [48, 49, 50, 51, 52, 53, 54, 55, 56, 57] = [] ↔ digs m := trimS_nil m
  generalize Lib.trimS m [48, 49, 50, 51, 52, 53, 54, 55, 56, 57] = t at hTr hnil
  have e0 : ((⟨m.toArray⟩ : ByteArray).toList == []) = m.isEmpty := by simp
  have e1 : ((⟨t.toArray⟩ : ByteArray).toList == []) = t.isEmpty := by simp
  by_cases h0 : m = []
  · have hck : ckI s.data.toList = 3 := by unfold ckI; rw [hm, if_pos (.inl h0)]
    rw [hck]
    subst h0
    clear hm hck
    go_enter Tryz.func77, Tryz.ntmps77
    go_wp2_with (first | (go_at_call 114; refine (hT _).mono ?_; rintro e w' ⟨rfl, rfl⟩))
    go_ret
    exact ⟨rfl, Below.refl _ _⟩
  · have h0f : m.isEmpty = false := by simpa using h0
    by_cases hd : digs m
    · have ht : t = [] := hnil.2 hd
      subst ht
      obtain ⟨c, r, rfl⟩ : ∃ c r, m = c :: r := by
        cases m with
        | nil => exact (h0 rfl).elim
        | cons c r => exact ⟨c, r, rfl⟩
      have hpos : 0 < (⟨(c :: r).toArray⟩ : ByteArray).size := by rw [hmS]; simp
      have hget : (⟨(c :: r).toArray⟩ : ByteArray)[0]'hpos = c := rfl
      have hlen : ((⟨(c :: r).toArray⟩ : ByteArray).size : Int) = ((r.length + 1 : Nat) : Int) := by rw [hmS]; simp
      by_cases h48 : c = 48
      · subst h48
        by_cases hz : s.data.toList = [48]
        · have hck : ckI s.data.toList = 0 := by
            unfold ckI; rw [hm, if_neg (by simp [hd]), if_neg (by simp [hz])]
            have : r = [] := by rw [hz] at hm; simpa [mag] using hm.symm
            subst this
            rw [if_neg (by decide)]
          rw [hck]
          have : r = [] := by rw [hz] at hm; simpa [mag] using hm.symm
          subst this
          obtain rfl : s = ⟨#[48]⟩ := by rw [← mk_data s, hz]
          clear hm hck hz hnil
          go_enter Tryz.func77, Tryz.ntmps77
          go_wp2_with (first | (go_at_call 114; refine (hT _).mono ?_; rintro e w' ⟨rfl, rfl⟩) | (go_at_call 115; refine (hTr _).mono ?_; rintro e w' ⟨rfl, hb⟩))
          go_ret
          exact ⟨rfl, hb⟩
        · have hck : ckI s.data.toList = 3 := by
            unfold ckI; rw [hm, if_neg (by simp [hd]), if_pos ⟨rfl, hz⟩]
          rw [hck]
          have hsz : (s.toList == [48]) = false := by rw [Lib.toList_data]; simpa using hz
          clear hm hck hnil
          go_enter Tryz.func77, Tryz.ntmps77
          go_wp2_with (first | (go_at_call 114; refine (hT _).mono ?_; rintro e w' ⟨rfl, rfl⟩) | (go_at_call 115; refine (hTr _).mono ?_; rintro e w' ⟨rfl, hb⟩))
          go_ret
          exact ⟨rfl, hb⟩
      · have h48f : ((c.toNat : Int) == 48) = false := by
          rw [beq_eq_false_iff_ne]; intro h; exact h48 (UInt8.toNat_inj.1 (by have : (48 : UInt8).toNat = 48 := rfl; omega))
        by_cases hl : 1024 < (c :: r).length
        · have hck : ckI s.data.toList = 11 := by
            unfold ckI; rw [hm, if_neg (by simp [hd]), if_neg (by simp [h48]), if_pos hl]
          rw [hck]
          have hl2 : decide ((1024 : Int) < ((r.length + 1 : Nat) : Int)) = true := by rw [decide_eq_true_iff]; simp at hl; omega
          clear hm hck hnil
          go_enter Tryz.func77, Tryz.ntmps77
          go_wp2_with (first | (go_at_call 114; refine (hT _).mono ?_; rintro e w' ⟨rfl, rfl⟩) | (go_at_call 115; refine (hTr _).mono ?_; rintro e w' ⟨rfl, hb⟩))
          go_ret
          exact ⟨rfl, hb⟩
        · have hck : ckI s.data.toList = 0 := by
            unfold ckI; rw [hm, if_neg (by simp [hd]), if_neg (by simp [h48]), if_neg hl]
          rw [hck]
          have hl2 : ((r.length : Int) + 1) ≤ 1024 := by simp at hl; omega
          clear hm hck hnil
          go_enter Tryz.func77, Tryz.ntmps77
          go_wp2_with (first | (go_at_call 114; refine (hT _).mono ?_; rintro e w' ⟨rfl, rfl⟩) | (go_at_call 115; refine (hTr _).mono ?_; rintro e w' ⟨rfl, hb⟩))
          go_ret
          exact ⟨rfl, hb⟩
    · have hck : ckI s.data.toList = 3 := by
        unfold ckI; rw [hm, if_pos (.inr hd)]
      rw [hck]
      have ht : t ≠ [] := fun e => hd (hnil.1 e)
      have htf : t.isEmpty = false := by simpa using ht
      clear hm hck hnil
      go_enter Tryz.func77, Tryz.ntmps77
      go_wp2_with (first | (go_at_call 114; refine (hT _).mono ?_; rintro e w' ⟨rfl, rfl⟩) | (go_at_call 115; refine (hTr _).mono ?_; rintro e w' ⟨rfl, hb⟩))
      go_ret
      exact ⟨rfl, hb⟩

/-- an integer of at most 1024 digits -/
structure Sz (n : Int) : Prop where
  out : n.natAbs < 10 ^ 1024
theorem ck_itoa {n : Int} (h : Sz n) : ckI (itoa n) = 0 := by
  unfold ckI
  rw [mag_itoa]
  rw [if_neg (by have := dec_ne_nil n.natAbs; have := dec_digs n.natAbs; simp_all), if_neg, if_neg]
  · have := (dec_len n.natAbs 1024 (by omega)).2 h.out; omega
  · rintro ⟨h1, h2⟩
    obtain ⟨c, t, e, _⟩ := dec_head n.natAbs
    rw [e] at h1
    have h3 : c = 48 := by simpa using h1
    have h4 := dec_lead n.natAbs c t e h3
    subst h3; subst h4
    have h5 := vd_dec n.natAbs
    rw [e] at h5
    have h6 : n = 0 := by have : vd [(48 : UInt8)] = 0 := by decide
                          omega
    subst h6
    exact h2 itoa_zero
theorem sz_len {n : Int} (h : Sz n) : (tx n).size ≤ 1025 := by
  rw [tx_size]
  have := (dec_len n.natAbs 1024 (by omega)).2 h.out
  unfold itoa
  split
  · simp; omega
  · rename_i h2
    have e : n.toNat = n.natAbs := by omega
    rw [e]; omega
theorem check_tx {n : Int} (h : Sz n) (w : World) :
    Calls Tryz.prog 77 #[.string (tx n)] w fun e w' => e = .returned (.int .i64 0) ∧ Below w.heap.size w w' := by
  have := check_c (tx n) (by have := sz_len h; omega) w
  rw [tx_data, ck_itoa h] at this
  exact this

set_option maxHeartbeats 400000 in
theorem Of_c (n : Int) (h0 : -9223372036854775808 ≤ n) (h1 : n ≤ 9223372036854775807) (w : World) (g : Gd w) :
    Calls Tryz.prog 120 #[.int .i64 n] w fun e w' => e = .returned (.string (tx n)) ∧ Below w.heap.size w w' := by
  have H := itoa_c n h0 h1 w g
  go_enter Tryz.func120, Tryz.ntmps120
  go_wp2_with (go_at_call 158; refine H.mono ?_; rintro e w' ⟨rfl, hb⟩)
  go_ret
  exact ⟨rfl, hb⟩

set_option maxHeartbeats 400000 in
theorem result_c (n : Int) (h0 : -9223372036854775808 ≤ n) (h1 : n ≤ 9223372036854775807) (w : World) (g : Gd w) :
    Calls Tryz.prog 246 #[.int .i64 n] w fun e w' => e = .returned (.tuple #[.string (tx n), .int .i64 0]) ∧ Below w.heap.size w w' := by
  have H := Of_c n h0 h1 w g
  go_enter Tryz.func246, Tryz.ntmps246
  go_wp2_with (go_at_call 120; refine H.mono ?_; rintro e w' ⟨rfl, hb⟩)
  go_ret2
  exact ⟨rfl, hb⟩

set_option maxHeartbeats 400000 in
theorem Sign_c {n : Int} (h : Sz n) (w : World) :
    Calls Tryz.prog 242 #[.string (tx n)] w fun e w' => e = .returned (.tuple #[.int .i64 n.sign, .int .i64 0]) ∧ Below w.heap.size w w' := by
  have H := check_tx h w
  have H2 := sign_c n
  go_enter Tryz.func242, Tryz.ntmps242
  go_wp2_with (first | (go_at_call 77; refine H.mono ?_; rintro e w' ⟨rfl, hb⟩) | (go_at_call 117; refine (H2 _).mono ?_; rintro e w' ⟨rfl, rfl⟩))
  go_ret2
  exact ⟨rfl, hb⟩
end Go.Proofs.YtdknneofiefieaaGreatDoor

namespace Go.Proofs.YtdknneofiefieaaGreatDoor
open Go.RowKit Go.Lib Dec

set_option maxHeartbeats 400000 in
theorem all_c (b c : Nat) (l : List Int) (hl : ∀ n ∈ l, Sz n) (hn : l.length ≤ 100) (w : World)
    (hc : ∀ j x, l[j]? = some x → w.cell? ⟨b, j, none⟩ = some (.string (tx x))) (hbw : b < w.heap.size) :
    Calls Tryz.prog 116 #[.slice (some ⟨b, 0, none⟩) l.length c] w fun e w' => e = .returned (.int .i64 0) ∧ Below w.heap.size w w' := by
  go_enter Tryz.func116, Tryz.ntmps116
  go_wp2
  go_loopw [8] (fun i wr => ∃ k : Nat, k ≤ l.length ∧ i = .int .i64 k ∧ Below w.heap.size w wr) (fun i _ => l.length - (RowKit.intOf i).toNat)
  case atStart => exact ⟨0, Nat.zero_le _, rfl, Below.refl _ _⟩
  case round =>
    obtain ⟨k, hk, rfl, hB⟩ := hrel
    by_cases hlt : k < l.length
    · obtain ⟨x, hx⟩ : ∃ x, l[k]? = some x := ⟨_, List.getElem?_eq_getElem hlt⟩
      have hcell : wr.cell? ⟨b, k, none⟩ = some (.string (tx x)) := (hB.cell (p := ⟨b, k, none⟩) hbw).trans (hc k x hx)
      have hz : Sz x := hl _ (List.mem_of_getElem? hx)
      have H := check_tx hz
      clear hx hc
      go_wp2_with (go_at_call 77; refine (H _).mono ?_; rintro e w' ⟨rfl, hb⟩)
      go_roundw
      case rel => exact ⟨k + 1, by omega, by go_num, hB.trans (hb.mono hB.size)⟩
      case measure => simp [RowKit.intOf]; omega
    · go_wp2
      go_ret
      exact ⟨rfl, hB⟩

theorem bytes_ext {a b : ByteArray} (h : a.data.toList = b.data.toList) : a = b := by
  rw [← mk_data a, ← mk_data b, h]
theorem neg_neg' {n : Int} (h : n < 0) : (tx n).extract 1 (tx n).size = tx (-n) := by
  refine bytes_ext ?_
  rw [Lib.extract_to_end, tx_data, tx_data]
  unfold itoa
  rw [if_pos h, if_neg (by omega)]
  simp only [List.drop_succ_cons, List.drop_zero]; congr 1; omega
theorem neg_pos' {n : Int} (h : 0 < n) : (⟨#[45]⟩ : ByteArray) ++ tx n = tx (-n) := by
  refine bytes_ext ?_
  rw [ByteArray.data_append, Array.toList_append]
  rw [tx_data, tx_data]
  unfold itoa
  rw [if_neg (by omega), if_pos (by omega)]
  have e : (-n).natAbs = n.toNat := by omega
  rw [e]; rfl

set_option maxHeartbeats 400000 in
theorem opposite_c {n : Int} (hz : Sz n) (w : World) : Calls Tryz.prog 244 #[.string (tx n)] w fun e w' => e = .returned (.string (tx (-n))) ∧ w = w' := by
  have H := sign_c n
  have hs := sz_len hz
  rcases Int.lt_trichotomy n 0 with h | h | h
  · rw [Int.sign_eq_neg_one_of_neg h] at H
    have h1 := tx_pos n
    have hx := neg_neg' h
    have HX := Lib.hid hx
    clear hx
    go_enter Tryz.func244, Tryz.ntmps244
    go_wp2_with (go_at_call 117; refine (H _).mono ?_; rintro e w' ⟨rfl, rfl⟩)
    go_ret
    exact ⟨by rw [HX.out]; rfl, rfl⟩
  · subst h
    go_enter Tryz.func244, Tryz.ntmps244
    go_wp2_with (go_at_call 117; refine (H _).mono ?_; rintro e w' ⟨rfl, rfl⟩)
    go_ret
    exact ⟨rfl, rfl⟩
  · rw [Int.sign_eq_one_of_pos h] at H
    have HX := Lib.hid (neg_pos' h)
    go_enter Tryz.func244, Tryz.ntmps244
    go_wp2_with (go_at_call 117; refine (H _).mono ?_; rintro e w' ⟨rfl, rfl⟩)
    go_ret
    exact ⟨by rw [HX.out]; rfl, rfl⟩

set_option maxHeartbeats 400000 in
/-- both texts are short -/
theorem small_yes {m n : Int} (hm : (tx m).size ≤ 9) (hn : (tx n).size ≤ 9) (w : World) :
    Calls Tryz.prog 245 #[.string (tx m), .string (tx n)] w fun e w' => e = .returned (.tuple #[.int .i64 m, .int .i64 n, .bool true]) ∧ Below w.heap.size w w' := by
  have H1 := atoi_c (tx m) m (by omega) (by rw [tx_data, atoi_itoa])
  have H2 := atoi_c (tx n) n (by omega) (by rw [tx_data, atoi_itoa])
  go_enter Tryz.func245, Tryz.ntmps245
  go_wp2_with fail
  refine (H1 _).mono ?_
  rintro e w' ⟨rfl, hb⟩
  go_wp2_with fail
  refine (H2 _).mono ?_
  rintro e w2 ⟨rfl, hb2⟩
  go_wp2_with fail
  go_ret3
  exact ⟨rfl, Bl.trans hb hb2⟩
set_option maxHeartbeats 400000 in
theorem small_no {m n : Int} (h : ¬ ((tx m).size ≤ 9 ∧ (tx n).size ≤ 9)) (w : World) :
    Calls Tryz.prog 245 #[.string (tx m), .string (tx n)] w fun e w' => e = .returned (.tuple #[.int .i64 0, .int .i64 0, .bool false]) ∧ w = w' := by
  by_cases hm : (tx m).size ≤ 9
  · have hn : 9 < (tx n).size := by omega
    clear h
    go_enter Tryz.func245, Tryz.ntmps245
    go_wp2
    go_ret3
    exact ⟨rfl, rfl⟩
  · have hn : 9 < (tx m).size := by omega
    clear h hm
    go_enter Tryz.func245, Tryz.ntmps245
    go_wp2
    go_ret3
    exact ⟨rfl, rfl⟩
end Go.Proofs.YtdknneofiefieaaGreatDoor
