import Derived.Test.YtdknneofiefieaaGreatDoorGj

namespace Go.Proofs.YtdknneofiefieaaGreatDoor
open Go.RowKit Go.Lib Dec Wd

set_option maxRecDepth 100000 in
set_option maxHeartbeats 2000000 in
theorem parted_small {m n c : Int} (hm : (tx m).size ≤ 9) (hn : (tx n).size ≤ 9) (hzm : Sz m) (hzn : Sz n) (h0 : n ≠ 0) (hc : m = n * c) (w : World) (g : Gd w) :
    Calls Tryz.prog 230 #[.string (tx m), .string (tx n)] w fun e w' => e = .returned (.tuple #[.string (tx c), .string (tx 0), .int .i64 0]) ∧ Below w.heap.size w w' := by
  have HA := all_pair hzm hzn w 96
  have H2 := small_yes hm hn
  have b1 := small_bd hm
  have b2 := small_bd hn
  have hq : m.tdiv n = c := by rw [hc]; exact Int.mul_tdiv_cancel_left _ h0
  have hr : m.tmod n = 0 := by rw [hc]; exact Int.mul_tmod_right _ _
  have hcb : c.natAbs ≤ m.natAbs := by
    rw [hc, Int.natAbs_mul]; exact Nat.le_mul_of_pos_left _ (Int.natAbs_pos.2 h0)
  have hz : ((tx n).toList == [48]) = false := by rw [tx_zero]; simpa using h0
  have O1 := fun w g => Of_c c (by omega) (by omega) w g
  have O2 := fun w g => Of_c 0 (by omega) (by omega) w g
  clear hc hm hn hzm hzn
  go_enter Tryz.func230, Tryz.ntmps230
  go_wp2_with (first
    | (go_at_call 116; refine HA.mono ?_; rintro e w1 ⟨rfl, hb1⟩)
    | (go_at_call 245; refine (H2 _).mono ?_; rintro e w2 ⟨rfl, hb2⟩))
  go_quiet (fail)
  go_wp2_with fail
  refine (O1 _ ((g.below hb1).below (below_drewN hb2 _))).mono ?_
  rintro e w3 ⟨rfl, hb3⟩
  go_wp2_with fail
  refine (O2 _ (((g.below hb1).below (below_drewN hb2 _)).below hb3)).mono ?_
  rintro e w4 ⟨rfl, hb4⟩
  go_wp2_with fail
  go_ret3
  exact ⟨rfl, Bl.trans (Bl.trans (Bl.trans hb1 (below_drewN hb2 _)) hb3) hb4⟩
theorem WB.setSign {w : World} {b : Nat} {s : Bool} {n : Nat} {f : Nat → Nat} (h : WB w b s n f) (s' : Bool) : WB (w.setCell ⟨b, 0, none⟩ (.bool s')) b s' n f := by
  refine ⟨?_⟩
  simp only [World.setCell, Array.getElem?_modify, h.out]
  simp [wcells]
theorem sv_div {n c : Int} (h0 : n ≠ 0) : sv (decide (n * c < 0) != decide (n < 0)) ((n * c).natAbs / n.natAbs) = c := by
  rw [Int.natAbs_mul, Nat.mul_div_cancel_left _ (Int.natAbs_pos.2 h0)]
  unfold sv
  by_cases hn : n < 0
  · by_cases hc : c < 0
    · have : 0 < n * c := Int.mul_pos_of_neg_of_neg hn hc
      simp [hn, Int.not_lt.2 (Int.le_of_lt this)]; omega
    · have : n * c ≤ 0 := Int.mul_nonpos_of_nonpos_of_nonneg (Int.le_of_lt hn) (Int.not_lt.1 hc)
      by_cases h : n * c < 0
      · simp [hn, h]; omega
      · have h2 : n * c = 0 := by omega
        have : c = 0 := (Int.mul_eq_zero.1 h2).resolve_left h0
        subst this; simp [hn]
  · have hp : 0 < n := by omega
    by_cases hc : c < 0
    · have : n * c < 0 := Int.mul_neg_of_pos_of_neg hp hc
      simp [hn, this]; omega
    · have : 0 ≤ n * c := Int.mul_nonneg (Int.le_of_lt hp) (Int.not_lt.1 hc)
      simp [hn, Int.not_lt.2 this]; omega

set_option maxRecDepth 100000 in
set_option maxHeartbeats 2000000 in
theorem parted_big {m n c : Int} (hb : ¬ ((tx m).size ≤ 9 ∧ (tx n).size ≤ 9)) (hzm : Sz m) (hzn : Sz n) (h0 : n ≠ 0) (hc : m = n * c) (w : World) (g : Gd w) :
    Calls Tryz.prog 230 #[.string (tx m), .string (tx n)] w fun e w' => e = .returned (.tuple #[.string (tx c), .string (tx 0), .int .i64 0]) ∧ Below w.heap.size w w' := by
  have HA := all_pair hzm hzn w 96
  have H2 := small_no hb
  have R1 := read_c hzm
  have R2 := read_c hzn
  have hz : ((tx n).toList == [48]) = false := by rw [tx_zero]; simpa using h0
  have hsv : sv (decide (m < 0) != decide (n < 0)) (m.natAbs / n.natAbs) = c := by rw [hc]; exact sv_div h0
  have hmod : m.natAbs % n.natAbs = 0 := by rw [hc, Int.natAbs_mul]; exact Nat.mul_mod_right _ _
  have n1 := hzm.nw
  have n2 := hzn.nw
  have hp := Int.natAbs_pos.2 h0
  have hqn : nw (m.natAbs / n.natAbs) ≤ 232 := Nat.le_trans (nw_le.2 (Nat.lt_of_le_of_lt (Nat.div_le_self _ _) (lt_nw _))) (by omega)
  have HD := fun b c w h k => divided_c b c (decide (m < 0)) (decide (n < 0)) m.natAbs n.natAbs (by omega) (by omega) hp w h k
  rw [hmod, nw_zero] at HD
  clear hb hc hzm hzn hmod hp h0
  generalize decide (m < 0) = sx at *
  generalize decide (n < 0) = sy at *
  go_enter Tryz.func230, Tryz.ntmps230
  go_wp2_with (first
    | (go_at_call 116; refine HA.mono ?_; rintro e w1 ⟨rfl, hb1⟩)
    | (go_at_call 245; refine (H2 _).mono ?_; rintro e w2 ⟨rfl, rfl⟩))
  refine (R1 _).mono ?_
  rintro e w2 ⟨d, rfl, hd1, hd2, hb2⟩
  go_wp2_with fail
  refine (R2 _).mono ?_
  rintro e w3 ⟨d', rfl, hd3, hd4, hb3⟩
  go_wp2_with fail
  have hd5 := hd1.below hb3 hd1.lt
  refine (HD _ _ _ hd5 hd3).mono ?_
  rintro e w4 ⟨rfl, hq, hr, hb4⟩
  have hd6 := hd5.below hb4 hd5.lt
  have hd7 := hd3.below hb4 hd3.lt
  have e1 := hd6.drew.cell0
  have e2 := hd7.drew.cell0
  have e3 := hq.drew.cell0
  have e4 := hr.drew.cell0
  have e5 := hq.drew.frozen 0
  have e6 := hr.drew.frozen 0
  have e7 := hr.cell0
  have e8 := hr.frozen 0
  have e9 := hr.cell1
  go_wp2_with fail
  go_region
  have B3 := Bl.trans (Bl.trans hb1 hb2) hb3
  have B5 : Below w.heap.size w ((w4.setCell ⟨w3.heap.size, 0, none⟩ (.bool (!sx == sy))).setCell ⟨w3.heap.size + 1, 0, none⟩ (.bool sx)).drew :=
    (((B3.trans (hb4.mono B3.size)).setCell (p := ⟨w3.heap.size, 0, none⟩) B3.size _).setCell (p := ⟨w3.heap.size + 1, 0, none⟩) (Nat.le_trans B3.size (Nat.le_succ _)) _).drew
  have hQ5 : WB ((w4.setCell ⟨w3.heap.size, 0, none⟩ (.bool (!sx == sy))).setCell ⟨w3.heap.size + 1, 0, none⟩ (.bool sx)).drew w3.heap.size (sx != sy) (nw (m.natAbs / n.natAbs)) (wd (m.natAbs / n.natAbs)) := by
    have : (sx != sy) = (!sx == sy) := by cases sx <;> cases sy <;> rfl
    rw [this]
    exact ((hq.setSign _).other (p := ⟨w3.heap.size + 1, 0, none⟩) (by simp) _).drew
  have hR5 : WB ((w4.setCell ⟨w3.heap.size, 0, none⟩ (.bool (!sx == sy))).setCell ⟨w3.heap.size + 1, 0, none⟩ (.bool sx)).drew (w3.heap.size + 1) sx 0 (wd 0) :=
    ((hr.other (p := ⟨w3.heap.size, 0, none⟩) (by simp) _).setSign _).drew
  generalize ((w4.setCell ⟨w3.heap.size, 0, none⟩ (.bool (!sx == sy))).setCell ⟨w3.heap.size + 1, 0, none⟩ (.bool sx)).drew = W5 at *
  have c1 := hR5.cell1
  clear e1 e2 e3 e4 e5 e6 e7 e8 e9 hq hr hd1 hd3 hd5 hd6 hd7 HD R1 R2 HA H2
  go_wp2_with fail
  go_quiet (fail)
  have T1 := text_any w3.heap.size (sx != sy) (m.natAbs / n.natAbs) hqn
  rw [hsv] at T1
  go_wp2_with fail
  refine (T1 _ (g.below (below_drewN B5 _)) (hQ5.drewN _)).mono ?_
  rintro e w6 ⟨rfl, hb6⟩
  go_wp2_with fail
  refine (text_zero (w3.heap.size + 1) sx w6 ((hR5.drewN _).below hb6 (hR5.drewN _).lt)).mono ?_
  rintro e w7 ⟨rfl, rfl⟩
  go_wp2_with fail
  go_ret3
  exact ⟨rfl, Bl.trans (below_drewN B5 _) hb6⟩

set_option maxRecDepth 100000 in
set_option maxHeartbeats 1000000 in
/-- Quo, where the quotient is exact -/
theorem Quo_c {m n c : Int} (hzm : Sz m) (hzn : Sz n) (hzc : Sz c) (h0 : n ≠ 0) (hc : m = n * c) (w : World) (g : Gd w) :
    Calls Tryz.prog 207 #[.string (tx m), .string (tx n)] w fun e w' => e = .returned (.tuple #[.string (tx c), .int .i64 0]) ∧ Below w.heap.size w w' := by
  have HP : Calls Tryz.prog 230 #[.string (tx m), .string (tx n)] w fun e w' => e = .returned (.tuple #[.string (tx c), .string (tx 0), .int .i64 0]) ∧ Below w.heap.size w w' := by
    by_cases h : (tx m).size ≤ 9 ∧ (tx n).size ≤ 9
    · exact parted_small h.1 h.2 hzm hzn h0 hc w g
    · exact parted_big h hzm hzn h0 hc w g
  have HC := check_tx hzc
  clear hzm hzn hzc h0 hc
  go_enter Tryz.func207, Tryz.ntmps207
  go_wp2_with (first
    | (go_at_call 230; refine HP.mono ?_; rintro e w1 ⟨rfl, hb1⟩)
    | (go_at_call 77; refine (HC _).mono ?_; rintro e w2 ⟨rfl, hb2⟩))
  go_ret2
  exact ⟨rfl, Bl.trans hb1 hb2⟩
end Go.Proofs.YtdknneofiefieaaGreatDoor

namespace Go.Proofs.YtdknneofiefieaaGreatDoor
open Go.RowKit Go.Lib Dec Wd

theorem one_word {v : Nat} (h : nw v ≤ 1) : wd v 0 = v ∧ v ≤ 999999999 := by
  have h1 := nw_le.1 h
  rw [Nat.pow_one] at h1
  unfold wd
  rw [Nat.pow_zero, Nat.div_one, Nat.mod_eq_of_lt h1]
  exact ⟨rfl, by unfold B at h1; omega⟩

set_option maxRecDepth 100000 in
set_option maxHeartbeats 2000000 in
theorem Gcd_c {m n : Int} (hzm : Sz m) (hzn : Sz n) (w : World) (g : Gd w) :
    Calls Tryz.prog 79 #[.string (tx m), .string (tx n)] w fun e w' => e = .returned (.tuple #[.string (tx (Nat.gcd m.natAbs n.natAbs : Nat)), .int .i64 0]) ∧ Below w.heap.size w w' := by
  have HA := all_pair hzm hzn w 96
  have R1 := read_c hzm
  have R2 := read_c hzn
  have n1 := hzm.nw
  have n2 := hzn.nw
  clear hzm hzn
  generalize decide (m < 0) = sx at *
  generalize decide (n < 0) = sy at *
  generalize hG : Nat.gcd m.natAbs n.natAbs = G
  have HG := Lib.hid hG
  go_enter Tryz.func79, Tryz.ntmps79
  go_wp2_with (first
    | (go_at_call 116; refine HA.mono ?_; rintro e w1 ⟨rfl, hb1⟩))
  refine (R1 _).mono ?_
  rintro e w2 ⟨d, rfl, hd1, hd2, hb2⟩
  go_wp2_with fail
  refine (R2 _).mono ?_
  rintro e w3 ⟨d', rfl, hd3, hd4, hb3⟩
  have hd5 := hd1.below hb3 hd1.lt
  have B3 := Bl.trans (Bl.trans hb1 hb2) hb3
  have p1 : w.heap.size ≤ d := Nat.le_trans hb1.size hd2
  have p2 : w.heap.size ≤ d' := Nat.le_trans (Bl.trans hb1 hb2).size hd4
  clear R1 R2 HA hd1
  go_wp2_with fail
  go_loopg [7, 8] n.natAbs (fun Y px py wr => ∃ (p q : Nat) (s t : Bool) (X : Nat), px = .pointer (some ⟨p, 0, none⟩) ∧ py = .pointer (some ⟨q, 0, none⟩) ∧
    WB wr p s (nw X) (wd X) ∧ WB wr q t (nw Y) (wd Y) ∧ Nat.gcd X Y = G ∧ nw X ≤ 114 ∧ nw Y ≤ 114 ∧ w.heap.size ≤ p ∧ w.heap.size ≤ q ∧ Below w.heap.size w wr)
  case atStart => exact ⟨d, d', sx, sy, m.natAbs, rfl, rfl, hd5, hd3, hG, n1, n2, p1, p2, B3⟩
  case round =>
    obtain ⟨p, q, s, t, X, rfl, rfl, hX, hY, hg, b1, b2, q1, q2, hB⟩ := hrel
    clear hd5 hd3 n1 n2 p1 p2 B3 hd2 hd4 hb1 hb2 hb3
    have cx := hX.cell1
    have cy := hY.cell1
    by_cases h0 : gk = 0
    · subst h0
      rw [Nat.gcd_zero_right] at hg
      subst hg
      have f0 := hX.cell0
      have f1 := hX.frozen 0
      rw [nw_zero] at cy
      have HT := text_any p false X (by omega) _ (g.below (hB.setCell (p := ⟨p, 0, none⟩) q1 (.bool false))) (hX.setSign false)
      have e0 : sv false X = (X : Int) := rfl
      rw [e0] at HT
      go_wp2_with (go_at_call 122; refine HT.mono ?_; rintro e w5 ⟨rfl, hb5⟩)
      go_ret2
      exact ⟨rfl, (hB.setCell (p := ⟨p, 0, none⟩) q1 _).trans (hb5.mono (hB.setCell (p := ⟨p, 0, none⟩) q1 _).size)⟩
    · have hn0 : nw gk ≠ 0 := fun e => h0 (nw_eq_zero.1 e)
      by_cases hs : nw X ≤ 1 ∧ nw gk ≤ 1
      · obtain ⟨hs1, hs2⟩ := hs
        obtain ⟨x1, x2⟩ := one_word hs1
        obtain ⟨y1, y2⟩ := one_word hs2
        have wx := hX.word (i := 0) (by omega)
        have wy := hY.word (i := 0) (by omega)
        rw [x1] at wx
        rw [y1] at wy
        generalize nw X = a1 at *
        generalize nw gk = a2 at *
        have wx' := fun q => (show (wr.drewN q).cell? _ = _ from wx)
        go_wp2_with fail
        go_quiet (fail)
        go_wp2_with fail
        clear wx wy cx cy wx'
        have hOf := fun u (hu : u ≤ 999999999) w g => Of_c (u : Nat) (by omega) (by omega) w g
        have HB := Lib.hid hB
        clear hB hX hY b1 b2
        go_loopg [9, 10] gk (fun v c1 c2 wr2 => ∃ (u k : Nat), c1 = .int .i64 u ∧ c2 = .int .i64 v ∧ Nat.gcd u v = G ∧ u ≤ 999999999 ∧ v ≤ 999999999 ∧ wr2 = wr.drewN k)
        case atStart => exact ⟨X, _, rfl, rfl, hg, x2, y2, rfl⟩
        case round =>
          obtain ⟨u, k, rfl, rfl, hg2, hu, hv, rfl⟩ := hrel
          clear hg x1 x2 y1 y2 h0 hs1 hs2 hn0
          by_cases hv0 : gk = 0
          · subst hv0
            rw [Nat.gcd_zero_right] at hg2
            subst hg2
            have gO := g.below (below_drewN HB.out k)
            go_wp2_with (go_at_call 120; refine (hOf _ hu _ gO).mono ?_; rintro e w5 ⟨rfl, hb5⟩)
            go_ret2
            exact ⟨rfl, (below_drewN HB.out k).trans (hb5.mono (below_drewN HB.out k).size)⟩
          · have ht : (u : Int).tmod (gk : Int) = ((u % gk : Nat) : Int) := rfl
            have hg3 := Lib.hid hg2
            clear hg2
            go_wp2_with fail
            go_quiet (fail)
            go_wp2_with fail
            go_roundg (u % gk)
            case measure => exact Nat.mod_lt _ (Nat.pos_of_ne_zero hv0)
            case rel =>
              refine ⟨gk, _, rfl, rfl, ?_, hv, Nat.le_trans (Nat.mod_le _ _) hu, World.drewN_drewN ..⟩
              rw [← hg3.out, Nat.gcd_comm u gk, Nat.gcd_rec gk u, Nat.gcd_comm]
      · have HD := divided_c p q s t X gk (by omega) (by omega) (Nat.pos_of_ne_zero h0) wr hX hY
        have hg3 := Lib.hid hg
        have hbb := Lib.hid (And.intro b1 b2)
        have hnot := Lib.hid hs
        have hlt := Lib.hid (Nat.mod_lt X (Nat.pos_of_ne_zero h0))
        have hB2 := Lib.hid hB
        clear hg b1 b2 hs hB h0
        by_cases h1 : nw X ≤ 1
        · have h2 : ¬ nw gk ≤ 1 := fun h => hnot.out ⟨h1, h⟩
          go_wp2_with (go_at_call 121; refine HD.mono ?_; rintro e w5 ⟨rfl, hq5, hr5, hb5⟩)
          go_roundg (X % gk)
          case measure => exact hlt.out
          case rel =>
            refine ⟨q, wr.heap.size + 1, t, false, gk, rfl, rfl, hY.below hb5 hY.lt, hr5, ?_, hbb.out.2, ?_, q2, Nat.le_trans hB2.out.size (Nat.le_succ _), hB2.out.trans (hb5.mono hB2.out.size)⟩
            · rw [← hg3.out, Nat.gcd_comm X gk, Nat.gcd_rec gk X, Nat.gcd_comm]
            · exact Nat.le_trans (nw_le.2 (Nat.lt_trans hlt.out (lt_nw gk))) hbb.out.2
        · go_wp2_with (go_at_call 121; refine HD.mono ?_; rintro e w5 ⟨rfl, hq5, hr5, hb5⟩)
          go_roundg (X % gk)
          case measure => exact hlt.out
          case rel =>
            refine ⟨q, wr.heap.size + 1, t, false, gk, rfl, rfl, hY.below hb5 hY.lt, hr5, ?_, hbb.out.2, ?_, q2, Nat.le_trans hB2.out.size (Nat.le_succ _), hB2.out.trans (hb5.mono hB2.out.size)⟩
            · rw [← hg3.out, Nat.gcd_comm X gk, Nat.gcd_rec gk X, Nat.gcd_comm]
            · exact Nat.le_trans (nw_le.2 (Nat.lt_trans hlt.out (lt_nw gk))) hbb.out.2
end Go.Proofs.YtdknneofiefieaaGreatDoor

namespace Go.Proofs.YtdknneofiefieaaGreatDoor
open Go.RowKit Go.Lib Dec Wd

/-- the order of two naturals -/
def cmpN (a b : Nat) : Int := if a < b then -1 else if b < a then 1 else 0
def cmpZ (a b : Int) : Int := if a < b then -1 else if b < a then 1 else 0

theorem cmp_digs : ∀ {l k : List UInt8}, digs l → digs k → l.length = k.length → Lib.compareBytes l k = cmpN (vd l) (vd k)
  | [], [], _, _, _ => rfl
  | [], _ :: _, _, _, h => by simp at h
  | _ :: _, [], _, _, h => by simp at h
  | a :: l, b :: k, hl, hk, h => by
    obtain ⟨ha, hl⟩ := digs_cons.1 hl
    obtain ⟨hb, hk⟩ := digs_cons.1 hk
    have h2 : l.length = k.length := by simpa using h
    have ih := cmp_digs hl hk h2
    have p1 := vd_lt l hl
    have p2 := vd_lt k hk
    rw [vd_cons, vd_cons, ← h2]
    rw [← h2] at p2
    unfold Lib.compareBytes
    rw [ih]
    generalize 10 ^ l.length = T at *
    unfold dig at ha hb
    have la : a < b ↔ a.toNat < b.toNat := UInt8.lt_iff_toNat_lt
    have lb : b < a ↔ b.toNat < a.toNat := UInt8.lt_iff_toNat_lt
    by_cases h1 : a.toNat < b.toNat
    · rw [if_pos (la.2 h1)]
      have : ((a.toNat - 48) + 1) * T ≤ (b.toNat - 48) * T := Nat.mul_le_mul_right _ (by omega)
      rw [Nat.add_mul] at this
      unfold cmpN; rw [if_pos (by omega)]
    · rw [if_neg (fun h => h1 (la.1 h))]
      by_cases h3 : b.toNat < a.toNat
      · rw [if_pos (lb.2 h3)]
        have : ((b.toNat - 48) + 1) * T ≤ (a.toNat - 48) * T := Nat.mul_le_mul_right _ (by omega)
        rw [Nat.add_mul] at this
        unfold cmpN; rw [if_neg (by omega), if_pos (by omega)]
      · rw [if_neg (fun h => h3 (lb.1 h))]
        have e : a.toNat = b.toNat := by omega
        rw [e]
        unfold cmpN
        generalize (b.toNat - 48) * T = Z
        split <;> split <;> (try split) <;> omega

theorem cmp_len {a b : Nat} (h : (decDigits a).length < (decDigits b).length) : a < b := by
  refine Nat.lt_of_lt_of_le ((dec_len a (decDigits a).length (by have := dec_len_pos a; omega)).1 (Nat.le_refl _)) ?_
  refine Nat.not_lt.1 fun hlt => ?_
  have := (dec_len b (decDigits a).length (by have := dec_len_pos a; omega)).2 hlt
  omega

set_option maxRecDepth 100000 in
set_option maxHeartbeats 1000000 in
theorem order_c (a b : Int) (w : World) :
    Calls Tryz.prog 118 #[.string (mg a), .string (mg b)] w fun e w' => e = .returned (.int .i64 (cmpN a.natAbs b.natAbs)) ∧ w = w' := by
  have s1 : (mg a).size = (decDigits a.natAbs).length := by unfold mg; simp [ByteArray.size]
  have s2 : (mg b).size = (decDigits b.natAbs).length := by unfold mg; simp [ByteArray.size]
  have H := Tryz.strings_Compare (mg a) (mg b)
  have d1 : (mg a).data.toList = decDigits a.natAbs := by unfold mg; simp
  have d2 : (mg b).data.toList = decDigits b.natAbs := by unfold mg; simp
  rw [d1, d2] at H
  by_cases h : (decDigits a.natAbs).length = (decDigits b.natAbs).length
  · rw [cmp_digs (dec_digs _) (dec_digs _) h, vd_dec, vd_dec] at H
    have hs : (mg a).size = (mg b).size := by omega
    clear s1 s2 h d1 d2
    generalize cmpN a.natAbs b.natAbs = r at *
    go_enter Tryz.func118, Tryz.ntmps118
    go_wp2_with (go_at_call 155; refine (H _).mono ?_; rintro e w' ⟨rfl, rfl⟩)
    go_ret
    exact ⟨rfl, rfl⟩
  · clear H d1 d2
    by_cases h2 : (decDigits a.natAbs).length < (decDigits b.natAbs).length
    · have hc : cmpN a.natAbs b.natAbs = -1 := by unfold cmpN; rw [if_pos (cmp_len h2)]
      rw [hc]
      have q1 : ((mg a).size : Int) < (mg b).size := by omega
      clear s1 s2 h h2 hc
      go_enter Tryz.func118, Tryz.ntmps118
      go_wp2_with fail
      go_ret
      exact ⟨rfl, rfl⟩
    · have h3 := cmp_len (Nat.lt_of_le_of_ne (Nat.not_lt.1 h2) (Ne.symm h))
      have hc : cmpN a.natAbs b.natAbs = 1 := by unfold cmpN; rw [if_neg (by omega), if_pos h3]
      rw [hc]
      have q1 : ((mg b).size : Int) < (mg a).size := by omega
      clear s1 s2 h h2 hc h3
      go_enter Tryz.func118, Tryz.ntmps118
      go_wp2_with fail
      go_ret
      exact ⟨rfl, rfl⟩

theorem cmp_sign {a b : Int} : cmpZ a b = if a.sign < b.sign then -1 else if b.sign < a.sign then 1 else a.sign * cmpN a.natAbs b.natAbs := by
  unfold cmpZ cmpN
  have key : ∀ n : Int, (n < 0 ∧ n.sign = -1) ∨ (n = 0 ∧ n.sign = 0) ∨ (0 < n ∧ n.sign = 1) := by
    intro n
    rcases Int.lt_trichotomy n 0 with h | h | h
    · exact .inl ⟨h, Int.sign_eq_neg_one_of_neg h⟩
    · exact .inr (.inl ⟨h, by rw [h]; rfl⟩)
    · exact .inr (.inr ⟨h, Int.sign_eq_one_of_pos h⟩)
  rcases key a with ⟨h1, e1⟩ | ⟨h1, e1⟩ | ⟨h1, e1⟩ <;> rcases key b with ⟨h2, e2⟩ | ⟨h2, e2⟩ | ⟨h2, e2⟩ <;> rw [e1, e2] <;> repeat (split <;> try omega)

set_option maxRecDepth 100000 in
set_option maxHeartbeats 1000000 in
theorem Compare_c {a b : Int} (ha : Sz a) (hb : Sz b) (w : World) :
    Calls Tryz.prog 78 #[.string (tx a), .string (tx b)] w fun e w' => e = .returned (.tuple #[.int .i64 (cmpZ a b), .int .i64 0]) ∧ Below w.heap.size w w' := by
  have HA := all_pair ha hb w 96
  have S1 := sign_c a
  have S2 := sign_c b
  have T1 := trim_tx a
  have T2 := trim_tx b
  have HO := order_c a b
  have hc := @cmp_sign a b
  clear ha hb
  have hs : ∀ n : Int, n.sign = -1 ∨ n.sign = 0 ∨ n.sign = 1 := by
    intro n
    rcases Int.lt_trichotomy n 0 with h | h | h
    · exact .inl (Int.sign_eq_neg_one_of_neg h)
    · exact .inr (.inl (by rw [h]; rfl))
    · exact .inr (.inr (Int.sign_eq_one_of_pos h))
  have hsa := hs a
  have hsb := hs b
  have hcn : cmpN a.natAbs b.natAbs = -1 ∨ cmpN a.natAbs b.natAbs = 0 ∨ cmpN a.natAbs b.natAbs = 1 := by unfold cmpN; split; simp; split <;> simp
  clear hs
  generalize a.sign = x at *
  generalize b.sign = y at *
  generalize cmpN a.natAbs b.natAbs = z at *
  generalize cmpZ a b = r at *
  subst hc
  by_cases h1 : x < y
  · rw [if_pos h1]
    go_enter Tryz.func78, Tryz.ntmps78
    go_wp2_with (first
      | (go_at_call 116; refine HA.mono ?_; rintro e w1 ⟨rfl, hb1⟩))
    refine (S1 _).mono ?_
    rintro e w2 ⟨rfl, rfl⟩
    go_wp2_with fail
    refine (S2 _).mono ?_
    rintro e w2 ⟨rfl, rfl⟩
    go_wp2_with fail
    go_ret2
    exact ⟨rfl, hb1⟩
  · rw [if_neg h1]
    by_cases h2 : y < x
    · rw [if_pos h2]
      go_enter Tryz.func78, Tryz.ntmps78
      go_wp2_with (first
        | (go_at_call 116; refine HA.mono ?_; rintro e w1 ⟨rfl, hb1⟩))
      refine (S1 _).mono ?_
      rintro e w2 ⟨rfl, rfl⟩
      go_wp2_with fail
      refine (S2 _).mono ?_
      rintro e w2 ⟨rfl, rfl⟩
      go_wp2_with fail
      refine (S2 _).mono ?_
      rintro e w2 ⟨rfl, rfl⟩
      go_wp2_with fail
      go_ret2
      exact ⟨rfl, hb1⟩
    · rw [if_neg h2]
      have hxz : IntKind.i64.wrap (x * z) = x * z := IntWalk.i64_in _ (by rcases hsa with h | h | h <;> rcases hcn with k | k | k <;> subst h <;> subst k <;> decide)
      go_enter Tryz.func78, Tryz.ntmps78
      go_wp2_with (first
        | (go_at_call 116; refine HA.mono ?_; rintro e w1 ⟨rfl, hb1⟩))
      refine (S1 _).mono ?_
      rintro e w2 ⟨rfl, rfl⟩
      go_wp2_with fail
      refine (S2 _).mono ?_
      rintro e w2 ⟨rfl, rfl⟩
      go_wp2_with fail
      refine (S2 _).mono ?_
      rintro e w2 ⟨rfl, rfl⟩
      go_wp2_with fail
      refine (T1 _).mono ?_
      rintro e w2 ⟨rfl, rfl⟩
      go_wp2_with fail
      refine (T2 _).mono ?_
      rintro e w2 ⟨rfl, rfl⟩
      go_wp2_with fail
      refine (HO _).mono ?_
      rintro e w2 ⟨rfl, rfl⟩
      go_wp2_with fail
      go_ret2
      exact ⟨rfl, hb1⟩
end Go.Proofs.YtdknneofiefieaaGreatDoor
