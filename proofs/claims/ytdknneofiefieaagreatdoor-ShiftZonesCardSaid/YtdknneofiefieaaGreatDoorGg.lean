import Derived.Deep.RegionWith
import Derived.Deep.RegionHeld3
import Derived.Lib.Builder
import Derived.Lib.AppendStr
import Derived.Lib.Walk
import Derived.Lib.Slices
import Derived.Laws.Externs
import Derived.Laws.IdiomCopy
import Derived.Test.YtdknneofiefieaaGreatDoorGf

namespace Go.Proofs.YtdknneofiefieaaGreatDoor
open Go.RowKit Go.Lib Dec Wd

theorem zero_wide (s : Bool) : Tryz.zeroCells180.setIfInBounds 0 (.bool s) = wcells s 0 (fun _ => 0) := by
  cases s <;> kernel_rfl
theorem WB.fresh (w : World) (s : Bool) : WB (w.alloc (.cells (Tryz.zeroCells180.setIfInBounds 0 (.bool s)) 180)) w.heap.size s 0 (fun _ => 0) := by
  rw [zero_wide]
  exact ⟨by show (w.heap.push _)[w.heap.size]? = _; simp⟩

theorem chunk {l : List UInt8} (hd : digs l) : vd (l.drop (l.length - 9)) = vd l % B ∧ vd (l.take (l.length - 9)) = vd l / B := by
  by_cases h : 9 ≤ l.length
  · exact read_word hd _ (by omega)
  · have e : l.length - 9 = 0 := by omega
    have h1 := vd_lt l hd
    have h2 : 10 ^ l.length ≤ 10 ^ 9 := Nat.pow_le_pow_right (by omega) (by omega)
    have h3 : vd l < B := by unfold B; omega
    rw [e, List.drop_zero, List.take_zero, Nat.mod_eq_of_lt h3, Nat.div_eq_of_lt h3]
    exact ⟨rfl, rfl⟩
theorem fromF (S : ByteArray) : (max 0 ((S.size : Int) - 9)).toNat = S.size - 9 := by omega

/-- what read has read: k words are read, r digits are left -/
def ReadR (N b : Nat) (s : Bool) (w : World) (r : Nat) (sv : Value) (wr : World) : Prop :=
  ∃ k S, sv = .string S ∧ S.data.toList = (decDigits N).take r ∧ S.size = r ∧ vd ((decDigits N).take r) = N / B ^ k ∧
    WB wr b s k (fun j => if j < k then wd N j else 0) ∧ Below w.heap.size w wr ∧ k ≤ 114 ∧ (r ≠ 0 → 9 * k + r = (decDigits N).length)

theorem ReadR.step {N b k : Nat} {s : Bool} {w wr w1 : World} {S : ByteArray} (hS : S.data.toList = (decDigits N).take S.size) (hv : vd ((decDigits N).take S.size) = N / B ^ k)
    (hq : vd (S.data.toList.take (S.data.toList.length - 9)) = vd S.data.toList / B) (hW : WB w1 b s k (fun j => if j < k then wd N j else 0))
    (hB : Below w.heap.size w wr) (hb : Below wr.drew.heap.size wr.drew w1) (hle : w.heap.size ≤ b) (hk : k ≤ 113) (_h0 : S.size ≠ 0) (hkr : 9 * k + S.size = (decDigits N).length) :
    ReadR N b s w (S.size - 9) (.string (S.extract 0 (max 0 ((S.size : Int) - 9)).toNat))
      ((w1.setCell ⟨b, 2 + k, none⟩ (.int .i64 (wd N k))).setCell ⟨b, 1, none⟩ (.int .i64 (k + 1))) := by
  have hl : S.data.toList.length = S.size := (Lib.size_eq S).symm
  refine ⟨k + 1, _, rfl, ?_, ?_, ?_, ?_, ?_, by omega, fun h => by omega⟩
  · rw [fromF, Lib.extract_data, hS]; simp [List.take_take]
  · rw [fromF]; simp
  · have e : (decDigits N).take (S.size - 9) = S.data.toList.take (S.data.toList.length - 9) := by
      rw [hl, hS, List.take_take]; congr 1; omega
    rw [e, hq, hS, hv, Nat.pow_succ, Nat.div_div_eq_div_mul]
  · refine (hW.step (i := k) (by omega) (x := wd N k) rfl (M := k + 1) (by omega)).congr fun j _ => ?_
    by_cases e : j = k
    · subst e; rw [if_pos rfl, if_pos (by omega)]
    · rw [if_neg e]
      by_cases h : j < k
      · rw [if_pos h, if_pos (by omega)]
      · rw [if_neg h, if_neg (by omega)]
  · refine Below.setCell (Below.setCell ?_ (p := ⟨b, 2 + k, none⟩) hle _) (p := ⟨b, 1, none⟩) hle _
    exact hB.drew.trans (hb.mono (hB.drew.size))

set_option maxRecDepth 100000 in
set_option maxHeartbeats 2000000 in
theorem read_c {n : Int} (hz : Sz n) (w : World) :
    Calls Tryz.prog 119 #[.string (tx n)] w fun e w' => ∃ b, e = .returned (.pointer (some ⟨b, 0, none⟩)) ∧ WB w' b (decide (n < 0)) (nw n.natAbs) (wd n.natAbs) ∧ w.heap.size ≤ b ∧ Below w.heap.size w w' := by
  have h1 := tx_pos n
  have h2 := tx_get0 n h1
  have H := trim_tx n
  have hL : (decDigits n.natAbs).length ≤ 1024 := (dec_len n.natAbs 1024 (by omega)).2 hz.out
  go_enter Tryz.func119, Tryz.ntmps119
  go_wp2_with (go_at_call 114; refine (H _).mono ?_; rintro e w' ⟨rfl, rfl⟩)
  go_loopg [3] (decDigits n.natAbs).length (fun r sv wr => ReadR n.natAbs w.heap.size (decide (n < 0)) w r sv wr)
  case atStart =>
    refine ⟨0, mg n, rfl, by unfold mg; simp, by unfold mg; simp [ByteArray.size], by rw [List.take_length, vd_dec]; simp, ?_, (Below.refl _ _).alloc (Nat.le_refl _) _, by omega, fun _ => by omega⟩
    refine (WB.fresh w _).congr fun j _ => ?_
    simp
  case round =>
    obtain ⟨k, S, rfl, hS, hSr, hv, hW, hB, hk, hkr⟩ := hrel
    by_cases h0 : gk = 0
    · subst h0
      have hN : n.natAbs < B ^ k := by
        have h := hv
        rw [List.take_zero] at h
        have h2 : n.natAbs / B ^ k = 0 := h.symm
        rcases Nat.div_eq_zero_iff.1 h2 with h3 | h3
        · have := Wd.pow_pos k; omega
        · exact h3
      have hT := trimmed_c w.heap.size (decide (n < 0)) n.natAbs k (nw_le.2 hN) (by omega) wr (hW.congr fun j _ => by
        by_cases h : j < k
        · rw [if_pos h]
        · rw [if_neg h, wd_above (Nat.le_trans (nw_le.2 hN) (by omega))])
      clear hS hv hkr hN
      go_wp2_with (go_at_call 157; refine hT.mono ?_; rintro e w2 ⟨rfl, hW2, hC2⟩)
      go_ret
      exact ⟨_, rfl, hW2, Nat.le_refl _, hB.trans (hC2.below (Nat.le_refl _) hB.size)⟩
    · have hkL := hkr h0
      have c1 := hW.cell1
      have f1 := hW.frozen 1
      have f2 := hW.frozen (2 + k)
      have hdS : digs S.data.toList := by rw [hS]; exact fun c hc => dec_digs _ c (List.mem_of_mem_take hc)
      have hlS : S.data.toList.length = S.size := (Lib.size_eq S).symm
      obtain ⟨q1, q2⟩ := chunk hdS
      have hne : S.data.toList.drop (S.data.toList.length - 9) ≠ [] := by
        intro e
        have := congrArg List.length e
        simp at this; omega
      have HA := fun w => atoi_c (S.extract (max 0 ((S.size : Int) - 9)).toNat S.size) (wd n.natAbs k) (by rw [fromF]; simp; omega)
        (by
          rw [fromF, Lib.extract_to_end, ← hlS, atoi_digs hne (fun c hc => hdS c (List.mem_of_mem_drop hc)), q1, hS, hv]; rfl) w
      have HP := Lib.hid (And.intro hS (And.intro hv q2))
      clear hS hv q1 q2 hne hlS hkr hdS
      subst hSr
      have k1 : k < 232 := by omega
      go_wp2
      go_region_with (go_at_call 156; refine (HA _).mono ?_; rintro e w1 ⟨rfl, hb1⟩; have W1 := hW.drew.below hb1 hW.lt; have d1 := W1.cell1; have d2 := W1.frozen 1; have d3 := W1.frozen (2 + k); have d4 := W1.word (i := k) k1)
      all_goals
        go_wp2
        go_roundg (S.size - 9)
        case measure => omega
        case rel =>
          exact ReadR.step HP.out.1 HP.out.2.1 HP.out.2.2 W1 hB hb1 (Nat.le_refl _) (by omega) h0 hkL
end Go.Proofs.YtdknneofiefieaaGreatDoor

namespace Go.Proofs.YtdknneofiefieaaGreatDoor
open Go.RowKit Go.Lib Dec Wd

theorem bInfo : (Tryz.prog.info? 227).map (·.size) = some 2 := by kernel_rfl
theorem bLies : liesAt Tryz.prog Tryz.prog.depth 227 (2 / Tryz.prog.cellsOf 227) 0 227 1 = true := by kernel_rfl
theorem byteInfo : (Tryz.prog.info? 5).map (fun i => (i.zero, i.size, i.bytes)) = some (some (.int .u8 0), 1, 1) := by kernel_rfl

set_option maxRecDepth 100000 in
set_option maxHeartbeats 1000000 in
theorem copyCheck_used (b : Nat) (w : World) (h0 : w.cell? ⟨b, 0, none⟩ = some (.pointer (some ⟨b, 0, none⟩))) :
    Calls Tryz.prog 193 #[.pointer (some ⟨b, 0, none⟩)] w fun e w' => e = .returned (.tuple #[]) ∧ w' = w := by
  obtain ⟨j, hj, _⟩ := Option.map_eq_some_iff.1 bInfo
  go_enter Tryz.func193, Tryz.ntmps193
  go_wp2
  rw [Lib.run_neq_ptr_same w _ Tryz.underlying225 hj]
  go_wp2
  go_end0
  exact ⟨rfl, rfl⟩

set_option maxRecDepth 100000 in
set_option maxHeartbeats 1000000 in
theorem copyCheck_fresh (b : Nat) (w : World) (h0 : w.cell? ⟨b, 0, none⟩ = some (.pointer none)) (hsh : w.shape? b = some (227, 2)) (hfz : w.frozen? ⟨b, 0, none⟩ = false) :
    Calls Tryz.prog 193 #[.pointer (some ⟨b, 0, none⟩)] w fun e w' => e = .returned (.tuple #[]) ∧ w' = w.setCell ⟨b, 0, none⟩ (.pointer (some ⟨b, 0, none⟩)) := by
  obtain ⟨j, hj, hjs⟩ := Option.map_eq_some_iff.1 bInfo
  go_enter Tryz.func193, Tryz.ntmps193
  go_wp2
  rw [Lib.run_to_unsafe w ⟨b, 0, none⟩ Tryz.underlying225 Tryz.underlying266 hj (by rw [hjs]; decide) hsh (Nat.zero_lt_succ 1)]
  simp only [Result.andThen]
  rw [Oper.upon_value]
  go_wp2
  rw [run_callFunc_extern Tryz.func222 (by kernel_rfl) (by kernel_rfl) (by kernel_rfl) (e := Extern.AbiNoEscape.same) (by kernel_rfl)]
  rw [Lib.run_noEscape]
  simp only [Result.andThen]
  rw [Oper.upon_value]
  go_wp2
  rw [Lib.run_from_unsafe w ⟨b, 0, none⟩ Tryz.underlying266 Tryz.underlying225 hj hsh bLies]
  simp only [Result.andThen]
  rw [Oper.upon_value]
  go_wp2
  go_end0
  exact ⟨rfl, rfl⟩

theorem copyCheck_c (B b : Nat) (bs : List Value) (w : World) (h : Lib.IsBuilder 227 5 B b bs w) :
    Calls Tryz.prog 193 #[.pointer (some ⟨b, 0, none⟩)] w fun e w' => e = .returned (.tuple #[]) ∧ (Lib.BuilderAt 227 5 B b (.pointer (some ⟨b, 0, none⟩)) bs w' ∧ Below B w w') := by
  rcases h with h | h
  · refine (copyCheck_fresh b w h.cell0 h.shape h.frozen0).mono ?_
    rintro e w' ⟨rfl, rfl⟩
    exact ⟨rfl, h.used _, (Below.refl B w).setCell (p := ⟨b, 0, none⟩) h.1 _⟩
  · refine (copyCheck_used b w h.cell0).mono ?_
    rintro e w' ⟨rfl, rfl⟩
    exact ⟨rfl, h, Below.refl B _⟩

set_option maxRecDepth 100000 in
set_option maxHeartbeats 2000000 in
theorem writeByte_c (B b : Nat) (bs : List Value) (c : Int) (w : World) (h : Lib.IsBuilder 227 5 B b bs w) (hlen : bs.length + 1 ≤ 140737488355328) (hBw : B ≤ w.heap.size) :
    Calls Tryz.prog 162 #[.pointer (some ⟨b, 0, none⟩), .int .u8 c] w fun e w' => e = .returned .nilIface ∧ (Lib.BuilderAt 227 5 B b (.pointer (some ⟨b, 0, none⟩)) (bs ++ [.int .u8 c]) w' ∧ Below B w w') := by
  obtain ⟨i0, hi, hz0, hz1, hz2⟩ := info_parts byteInfo
  go_enter Tryz.func162, Tryz.ntmps162
  go_wp2_with (go_at_call 193; refine (copyCheck_c B b bs _ h).mono ?_)
  rintro e w1 ⟨rfl, h1, hb1⟩
  obtain ⟨hB, v, hbk, hown, hne⟩ := h1
  have c0 : w1.cell? ⟨b, 0, none⟩ = some (.pointer (some ⟨b, 0, none⟩)) := by rw [Lib.cell_of_heap hbk]; rfl
  have c1 : w1.cell? ⟨b, 1, none⟩ = some v := by rw [Lib.cell_of_heap hbk]; rfl
  go_wp2_with (at_builtin; refine wpList_append_own _ rfl _ _ 158 rfl B 5 i0 (.int .u8 0) 1 1 Tryz.underlying158 hi hz0 hz1 hz2 rfl (by decide) _ _ _ rfl (hown.alloc _) ⟨w1.heap.size, 0, none⟩ 1 1 [.int .u8 c] rfl rfl ?c1 ?c2 ?c3 ?c4 ?c5 ?_)
  case c1 =>
    intro j u hj
    match j, hj with
    | 0, hj => simp at hj; subst hj; simp [Addr.add]
  case c2 => intro u hu; simp at hu; subst hu; rfl
  case c3 => unfold maxLen; omega
  case c4 => omega
  case c5 => have := hb1.size; simp; omega
  intro v' w2 hown' hgrow _
  have hlt : b < w1.heap.size := by
    rcases Nat.lt_or_ge b w1.heap.size with h' | h'
    · exact h'
    · simp [Array.getElem?_eq_none h'] at hbk
  have hb2 : w2.heap[b]? = some (.cells #[.pointer (some ⟨b, 0, none⟩), v] 227 (0, 0)) := by
    rw [hgrow.block b (by simp; omega) (fun e => hne e.symm), Lib.alloc_old w1 _ b hlt]
    exact hbk
  have d0 : w2.cell? ⟨b, 0, none⟩ = some (.pointer (some ⟨b, 0, none⟩)) := by rw [Lib.cell_of_heap hb2]; rfl
  have d1 : w2.cell? ⟨b, 1, none⟩ = some v := by rw [Lib.cell_of_heap hb2]; rfl
  have f1 : w2.frozen? ⟨b, 1, none⟩ = false := Lib.frozen_of_heap hb2 1
  obtain ⟨g, cap, rfl⟩ : ∃ g cap, v' = .slice (some ⟨g, 0, none⟩) (bs.length + 1) cap := by
    rcases hown'.2 with ⟨_, h0⟩ | ⟨g, cap, cur, hv, _⟩
    · omega
    · exact ⟨g, cap, hv⟩
  go_wp2
  go_ret
  refine ⟨rfl, ?_, ?_⟩
  · exact Lib.BuilderAt.put (T := 227) (e := 5) hB hb2 (bs' := bs ++ [.int .u8 c]) (by simpa using hown') (by decide)
  · exact ((hb1.alloc (by have := hb1.size; omega) _).grown hgrow (by have := hb1.size; simp; omega) (fun k hk => (hown.lt k hk).1)).setCell (p := ⟨b, 1, none⟩) hB _

set_option maxRecDepth 100000 in
set_option maxHeartbeats 2000000 in
theorem writeString_c (B b : Nat) (bs : List Value) (s : ByteArray) (w : World) (h : Lib.IsBuilder 227 5 B b bs w) (hlen : bs.length + s.size ≤ 140737488355328) (hBw : B ≤ w.heap.size) :
    Calls Tryz.prog 163 #[.pointer (some ⟨b, 0, none⟩), .string s] w fun e w' => e = .returned (.tuple #[.int .i64 s.size, .nilIface]) ∧ (Lib.BuilderAt 227 5 B b (.pointer (some ⟨b, 0, none⟩)) (bs ++ Lib.strCells s) w' ∧ Below B w w') := by
  obtain ⟨i0, hi, hz0, hz1, hz2⟩ := info_parts byteInfo
  go_enter Tryz.func163, Tryz.ntmps163
  go_wp2_with (go_at_call 193; refine (copyCheck_c B b bs _ h).mono ?_)
  rintro e w1 ⟨rfl, h1, hb1⟩
  obtain ⟨hB, v, hbk, hown, hne⟩ := h1
  have c0 : w1.cell? ⟨b, 0, none⟩ = some (.pointer (some ⟨b, 0, none⟩)) := by rw [Lib.cell_of_heap hbk]; rfl
  have c1 : w1.cell? ⟨b, 1, none⟩ = some v := by rw [Lib.cell_of_heap hbk]; rfl
  go_wp2_with (at_builtin; refine Lib.wpList_append_own_string _ rfl _ _ 158 9 rfl B 5 i0 Tryz.underlying158 Tryz.underlying9 hi hz0 hz1 hz2 _ _ _ rfl hown s rfl ?c3 ?c4 ?c5 ?_)
  case c3 => unfold maxLen; omega
  case c4 => omega
  case c5 => have := hb1.size; omega
  intro v' w2 hown' hgrow _
  have hlt : b < w1.heap.size := by
    rcases Nat.lt_or_ge b w1.heap.size with h' | h'
    · exact h'
    · simp [Array.getElem?_eq_none h'] at hbk
  have hb2 : w2.heap[b]? = some (.cells #[.pointer (some ⟨b, 0, none⟩), v] 227 (0, 0)) := by
    rw [hgrow.block b hlt (fun e => hne e.symm)]
    exact hbk
  have d0 : w2.cell? ⟨b, 0, none⟩ = some (.pointer (some ⟨b, 0, none⟩)) := by rw [Lib.cell_of_heap hb2]; rfl
  have d1 : w2.cell? ⟨b, 1, none⟩ = some v := by rw [Lib.cell_of_heap hb2]; rfl
  have f1 : w2.frozen? ⟨b, 1, none⟩ = false := Lib.frozen_of_heap hb2 1
  obtain ⟨ao, n', cap, rfl⟩ : ∃ ao n' cap, v' = .slice ao n' cap := by
    rcases hown'.2 with ⟨hv, _⟩ | ⟨g, cap, cur, hv, _⟩
    · exact ⟨_, _, _, hv⟩
    · exact ⟨_, _, _, hv⟩
  go_wp2
  go_ret2
  refine ⟨rfl, ?_, ?_⟩
  · exact Lib.BuilderAt.put (T := 227) (e := 5) hB hb2 (bs' := bs ++ Lib.strCells s) (by simpa [Lib.strCells_length] using hown') (by decide)
  · exact (hb1.grown hgrow (by have := hb1.size; omega) (fun k hk => (hown.lt k hk).1)).setCell (p := ⟨b, 1, none⟩) hB _
end Go.Proofs.YtdknneofiefieaaGreatDoor

namespace Go.Proofs.YtdknneofiefieaaGreatDoor
open Go.RowKit Go.Lib Dec Wd

/-- a builder at block b that holds the bytes l -/
structure Bld (B b : Nat) (l : List UInt8) (w : World) : Prop where
  out : Lib.IsBuilder 227 5 B b (Lib.byteCells l) w

theorem bat_below {T e : TypeId} {B b : Nat} {p : Value} {bs : List Value} {w w' : World} (h : Lib.BuilderAt T e B b p bs w) (hb : Below w.heap.size w w') : Lib.BuilderAt T e B b p bs w' := by
  obtain ⟨hB, v, hc, hown, hne⟩ := h
  have hlt : b < w.heap.size := (Array.getElem?_eq_some_iff.1 hc).1
  refine ⟨hB, v, (hb.block b hlt).trans hc, ?_, hne⟩
  refine hown.kept (row := none) ⟨hb.os, hb.tape, hb.output, hb.size, fun k hk _ => hb.block k hk⟩ ?_
  cases v.ownBlock <;> simp
theorem Bld.below {B b : Nat} {l : List UInt8} {w w' : World} (h : Bld B b l w) (hb : Below w.heap.size w w') : Bld B b l w' := by
  refine ⟨?_⟩
  rcases h.out with h | h
  · exact .inl (bat_below h hb)
  · exact .inr (bat_below h hb)
theorem Bld.fresh (w : World) : Bld w.heap.size w.heap.size [] (w.alloc (.cells #[.pointer none, .slice none 0 0] 227)) := ⟨Lib.fresh_isBuilder _ _ w⟩
theorem Bld.at {B b : Nat} {l : List UInt8} {w : World} (h : Lib.BuilderAt 227 5 B b (.pointer (some ⟨b, 0, none⟩)) (Lib.byteCells l) w) : Bld B b l w := ⟨.inr h⟩

theorem wbyte_c {B b : Nat} {l : List UInt8} {w : World} (h : Bld B b l w) (hl : l.length ≤ 100000) (hB : B ≤ w.heap.size) (c : UInt8) :
    Calls Tryz.prog 162 #[.pointer (some ⟨b, 0, none⟩), .int .u8 (c.toNat : Int)] w fun e w' => e = .returned .nilIface ∧ Bld B b (l ++ [c]) w' ∧ Below B w w' := by
  refine (writeByte_c B b (Lib.byteCells l) (c.toNat : Int) w h.out (by unfold Lib.byteCells; simp; omega) hB).mono fun e w' => ?_
  rintro ⟨rfl, h1, h2⟩
  refine ⟨rfl, ⟨.inr ?_⟩, h2⟩
  have e : Lib.byteCells (l ++ [c]) = Lib.byteCells l ++ [.int .u8 (c.toNat : Int)] := by unfold Lib.byteCells; simp
  rw [e]; exact h1
theorem wstr_c {B b : Nat} {l : List UInt8} {w : World} (h : Bld B b l w) (hl : l.length ≤ 100000) (hB : B ≤ w.heap.size) (s : ByteArray) (hs : s.size ≤ 100000) :
    Calls Tryz.prog 163 #[.pointer (some ⟨b, 0, none⟩), .string s] w fun e w' => e = .returned (.tuple #[.int .i64 s.size, .nilIface]) ∧ Bld B b (l ++ s.data.toList) w' ∧ Below B w w' := by
  refine (writeString_c B b (Lib.byteCells l) s w h.out (by unfold Lib.byteCells; simp; omega) hB).mono fun e w' => ?_
  rintro ⟨rfl, h1, h2⟩
  refine ⟨rfl, ⟨.inr ?_⟩, h2⟩
  have e : Lib.byteCells (l ++ s.data.toList) = Lib.byteCells l ++ Lib.strCells s := by unfold Lib.byteCells Lib.strCells; simp
  rw [e]; exact h1
theorem bstr_c {B b : Nat} {l : List UInt8} {w : World} (h : Bld B b l w) (hB : B ≤ w.heap.size) :
    Calls Tryz.prog 164 #[.pointer (some ⟨b, 0, none⟩)] w fun e w' => e = .returned (.string ⟨l.toArray⟩) ∧ Below B w w' :=
  Tryz.Builder_String_any B b l w h.out hB

theorem itoa_nat {d : Nat} : itoa (d : Int) = decDigits d := by
  unfold itoa; rw [if_neg (by omega)]; simp
theorem itoa_word (v i : Nat) (w : World) (g : Gd w) :
    Calls Tryz.prog 158 #[.int .i64 (wd v i : Nat)] w fun e w' => e = .returned (.string ⟨(decDigits (wd v i)).toArray⟩) ∧ Below w.heap.size w w' := by
  have h := wd_le v i
  refine (itoa_c (wd v i : Int) (by omega) (by omega) w g).mono fun e w' => ?_
  rintro ⟨rfl, hb⟩
  refine ⟨?_, hb⟩
  unfold tx; rw [itoa_nat]

/-- the sign of a wide, as bytes -/
def sgn (s : Bool) : List UInt8 := if s then [45] else []

theorem top_word {v n : Nat} (hn : nw v = n + 1) : v / B ^ n = wd v n := by
  have h := nw_le.1 (show nw v ≤ n + 1 by omega)
  unfold wd
  rw [Nat.pow_succ, Nat.mul_comm] at h
  rw [Nat.mod_eq_of_lt (Nat.div_lt_of_lt_mul (by rw [Nat.mul_comm]; exact h))]
theorem len_words {v k : Nat} (h : nw v ≤ k) : (decDigits v).length ≤ 9 * k + 1 := by
  have h1 := nw_le.1 h
  have e : B ^ k = 10 ^ (9 * k) := by unfold B; rw [Nat.pow_mul]
  have h2 : v < 10 ^ (9 * k + 1) := Nat.lt_of_lt_of_le (by omega) (Nat.pow_le_pow_right (by omega) (show 9 * k ≤ 9 * k + 1 by omega))
  exact (dec_len v (9 * k + 1) (by omega)).2 h2
theorem nw_div (v k : Nat) : nw (v / B ^ k) ≤ nw v := nw_le.2 (Nat.lt_of_le_of_lt (Nat.div_le_self _ _) (lt_nw v))
theorem pad_size (d : Nat) : (⟨(decDigits d).toArray⟩ : ByteArray).size = (decDigits d).length := by simp [ByteArray.size]
theorem pad_str {d : Nat} (h : d < B) : ((⟨#[48, 48, 48, 48, 48, 48, 48, 48, 48]⟩ : ByteArray).extract (decDigits d).length 9 ++ (⟨(decDigits d).toArray⟩ : ByteArray)) = ⟨(pad d).toArray⟩ := by
  refine bytes_ext ?_
  rw [ByteArray.data_append, Array.toList_append]
  have h9 := dec9 h
  unfold pad
  have e : ((⟨#[48, 48, 48, 48, 48, 48, 48, 48, 48]⟩ : ByteArray).extract (decDigits d).length 9).data.toList = List.replicate (9 - (decDigits d).length) 48 := by
    have e2 : (⟨#[48, 48, 48, 48, 48, 48, 48, 48, 48]⟩ : ByteArray) = ⟨(List.replicate 9 (48 : UInt8)).toArray⟩ := rfl
    rw [e2]
    rw [Lib.extract_data]
    have : ∀ m : Fin 10, List.take (9 - m.val) (List.drop m.val [48, 48, 48, 48, 48, 48, 48, 48, 48]) = List.replicate (9 - m.val) (48 : UInt8) := by decide
    simpa using this ⟨(decDigits d).length, by omega⟩
  rw [e]

set_option maxRecDepth 100000 in
set_option maxHeartbeats 4000000 in
theorem text_c (b : Nat) (s : Bool) (v : Nat) (hv : nw v ≤ 232) (hv0 : v ≠ 0) (w : World) (g : Gd w) (h : WB w b s (nw v) (wd v)) :
    Calls Tryz.prog 122 #[.pointer (some ⟨b, 0, none⟩)] w fun e w' => e = .returned (.string ⟨(sgn s ++ decDigits v).toArray⟩) ∧ Below w.heap.size w w' := by
  have hn0 : nw v ≠ 0 := fun e => hv0 (nw_eq_zero.1 e)
  have c0 := h.cell0
  have c1 := h.cell1
  obtain ⟨n, hn⟩ : ∃ n, nw v = n + 1 := ⟨nw v - 1, by omega⟩
  rw [hn] at c1 h
  have hlt := h.lt
  have hn231 : n < 232 := by omega
  have htop := top_word hn
  have HT := Lib.hid htop
  have HF := Bld.fresh w
  have hbe : Below w.heap.size w (w.alloc (.cells #[.pointer none, .slice none 0 0] 227)) := (Below.refl _ w).alloc (Nat.le_refl _) _
  have HV := Lib.hid hv0
  have HN := Lib.hid hn
  clear hn hn0 hv0 htop hv
  have tail : ∀ (l0 : List UInt8), l0.length ≤ 1 → ∀ (K : World → Prop), True := fun _ _ _ => trivial
  clear tail
  cases s with
  | false =>
    go_enter Tryz.func122, Tryz.ntmps122
    go_wp2_with fail
    obtain ⟨l0, hl0, hl1⟩ : ∃ l0, sgn false = l0 ∧ l0.length ≤ 1 := ⟨_, rfl, by decide⟩
    generalize w.alloc (.cells #[.pointer none, .slice none 0 0] 227) = W at HF hbe ⊢
    have HB : Bld w.heap.size w.heap.size l0 W := by rw [← hl0]; exact HF
    have gW : Gd W := g.below hbe
    have hW : WB W b false (n + 1) (wd v) := h.below hbe hlt
    have HH := Lib.hid h
    clear h
    have d1 := hW.cell1
    have d2 := hW.word (i := n) hn231
    have hsz := hbe.size
    have HBd : Bld w.heap.size w.heap.size l0 W.drew := HB.below (Below.refl _ W).drew
    have gWd : Gd W.drew := gW.drew
    have h232 : (n : Int) < 232 := by omega
    have hwr : IntKind.i64.wrap (n : Int) = n := IntWalk.i64_in _ (by omega)
    go_region_with (first
      | (go_at_call 158; refine (itoa_word v n _ gWd).mono ?_; rintro e w2 ⟨rfl, hb2⟩)
      | (go_at_call 163; refine (wstr_c (HBd.below hb2) (by omega) (by have : W.heap.size ≤ _ := hb2.size; omega) _ (by rw [pad_size]; have := dec9 (wd_lt v n); omega)).mono ?_; rintro e w3 ⟨rfl, hB3, hb3⟩))
    have hbe3 : Below w.heap.size w w3 := (hbe.drew.trans (hb2.mono (hbe.drew.size))).trans hb3
    have hW3 : WB w3 b false (n + 1) (wd v) := HH.out.below hbe3 hlt
    have d3 := hW3.cell1
    have hsz3 := hbe3.size
    have HB3' : Bld w.heap.size w.heap.size (l0 ++ decDigits (v / B ^ n)) w3 := by rw [HT.out]; simpa using hB3
    clear hB3 d1 d2 hwr
    go_wp2
    go_loopg [4] n (fun m i wr => m ≤ n ∧ i = .int .i64 ((m : Int) - 1) ∧ Bld w.heap.size w.heap.size (l0 ++ decDigits (v / B ^ m)) wr ∧ Below w.heap.size w wr)
    case atStart => exact ⟨Nat.le_refl _, congrArg (Value.int IntKind.i64) (by omega), HB3', hbe3⟩
    case round =>
      obtain ⟨hm, rfl, hBr, hbr⟩ := hrel
      have gr := g.below hbr
      have hszr := hbr.size
      have hll : (l0 ++ decDigits (v / B ^ gk)).length ≤ 5000 := by
        have h1 := len_words (Nat.le_trans (nw_div v gk) (Nat.le_of_eq HN.out))
        simp; omega
      by_cases h0 : gk = 0
      · subst h0
        have H := bstr_c hBr hszr
        rw [Nat.pow_zero, Nat.div_one] at H
        go_wp2_with (go_at_call 164; refine H.mono ?_; rintro e w4 ⟨rfl, hb4⟩)
        go_ret
        exact ⟨by rw [hl0]; rfl, hbr.trans hb4⟩
      · obtain ⟨k, rfl⟩ : ∃ k, gk = k + 1 := ⟨gk - 1, by omega⟩
        have ej : (((k + 1 : Nat) : Int) - 1) = (k : Int) := by omega
        rw [ej]
        clear ej h0
        have hWr : WB wr b false (n + 1) (wd v) := HH.out.below hbr hlt
        have k232 : k < 232 := by omega
        have c3 := hWr.word (i := k) k232
        have H1 := itoa_word v k wr gr
        have h9 := dec9 (wd_lt v k)
        have hps := pad_str (wd_lt v k)
        have HP := Lib.hid hps
        have hlen := pad_size (wd v k)
        have hne : v / B ^ (k + 1) ≠ 0 := by
          have h1 := le_nw HV.out
          rw [HN.out] at h1
          have h2 : B ^ (k + 1) ≤ B ^ (n + 1 - 1) := Nat.pow_le_pow_right (by decide) (by omega)
          have := (Nat.le_div_iff_mul_le (Wd.pow_pos (k + 1)) (x := 1) (y := v)).2 (by omega)
          omega
        have HX := Lib.hid (text_step hne)
        clear hne hps
        go_wp2_with (go_at_call 158; refine H1.mono ?_; rintro e w4 ⟨rfl, hb4⟩)
        rw [HP.out]
        have hszw : w.heap.size ≤ w4.heap.size := by have := hb4.size; omega
        refine (wstr_c (hBr.below hb4) (by omega) hszw _ (by have := pad_length (wd_lt v k); simp [ByteArray.size]; omega)).mono ?_
        rintro e w5 ⟨rfl, hB5, hb5⟩
        go_wp2_with fail
        go_roundg k
        case measure => omega
        case rel =>
          refine ⟨by omega, rfl, ?_, (hbr.trans (hb4.mono hszr)).trans hb5⟩
          rw [HX.out]
          simpa using hB5
  | true =>
    go_enter Tryz.func122, Tryz.ntmps122
    go_wp2_with fail
    obtain ⟨l0, hl0, hl1⟩ : ∃ l0, sgn true = l0 ∧ l0.length ≤ 1 := ⟨_, rfl, by decide⟩
    refine (wbyte_c HF (by decide) (by simp) 45).mono ?_
    rintro e W ⟨rfl, HB, hbW⟩
    rw [List.nil_append] at HB
    have hbe' : Below w.heap.size w W := hbe.trans hbW
    clear hbe
    have hbe := hbe'
    clear hbe' hbW HF
    have hl45 : [45] = l0 := hl0
    rw [hl45] at HB
    clear hl45
    go_wp2_with fail
    have gW : Gd W := g.below hbe
    have hW : WB W b true (n + 1) (wd v) := h.below hbe hlt
    have HH := Lib.hid h
    clear h
    have d1 := hW.cell1
    have d2 := hW.word (i := n) hn231
    have hsz := hbe.size
    have HBd : Bld w.heap.size w.heap.size l0 W.drew := HB.below (Below.refl _ W).drew
    have gWd : Gd W.drew := gW.drew
    have h232 : (n : Int) < 232 := by omega
    have hwr : IntKind.i64.wrap (n : Int) = n := IntWalk.i64_in _ (by omega)
    go_region_with (first
      | (go_at_call 158; refine (itoa_word v n _ gWd).mono ?_; rintro e w2 ⟨rfl, hb2⟩)
      | (go_at_call 163; refine (wstr_c (HBd.below hb2) (by omega) (by have : W.heap.size ≤ _ := hb2.size; omega) _ (by rw [pad_size]; have := dec9 (wd_lt v n); omega)).mono ?_; rintro e w3 ⟨rfl, hB3, hb3⟩))
    have hbe3 : Below w.heap.size w w3 := (hbe.drew.trans (hb2.mono (hbe.drew.size))).trans hb3
    have hW3 : WB w3 b true (n + 1) (wd v) := HH.out.below hbe3 hlt
    have d3 := hW3.cell1
    have hsz3 := hbe3.size
    have HB3' : Bld w.heap.size w.heap.size (l0 ++ decDigits (v / B ^ n)) w3 := by rw [HT.out]; simpa using hB3
    clear hB3 d1 d2 hwr
    go_wp2
    go_loopg [4] n (fun m i wr => m ≤ n ∧ i = .int .i64 ((m : Int) - 1) ∧ Bld w.heap.size w.heap.size (l0 ++ decDigits (v / B ^ m)) wr ∧ Below w.heap.size w wr)
    case atStart => exact ⟨Nat.le_refl _, congrArg (Value.int IntKind.i64) (by omega), HB3', hbe3⟩
    case round =>
      obtain ⟨hm, rfl, hBr, hbr⟩ := hrel
      have gr := g.below hbr
      have hszr := hbr.size
      have hll : (l0 ++ decDigits (v / B ^ gk)).length ≤ 5000 := by
        have h1 := len_words (Nat.le_trans (nw_div v gk) (Nat.le_of_eq HN.out))
        simp; omega
      by_cases h0 : gk = 0
      · subst h0
        have H := bstr_c hBr hszr
        rw [Nat.pow_zero, Nat.div_one] at H
        go_wp2_with (go_at_call 164; refine H.mono ?_; rintro e w4 ⟨rfl, hb4⟩)
        go_ret
        exact ⟨by rw [hl0]; rfl, hbr.trans hb4⟩
      · obtain ⟨k, rfl⟩ : ∃ k, gk = k + 1 := ⟨gk - 1, by omega⟩
        have ej : (((k + 1 : Nat) : Int) - 1) = (k : Int) := by omega
        rw [ej]
        clear ej h0
        have hWr : WB wr b true (n + 1) (wd v) := HH.out.below hbr hlt
        have k232 : k < 232 := by omega
        have c3 := hWr.word (i := k) k232
        have H1 := itoa_word v k wr gr
        have h9 := dec9 (wd_lt v k)
        have hps := pad_str (wd_lt v k)
        have HP := Lib.hid hps
        have hlen := pad_size (wd v k)
        have hne : v / B ^ (k + 1) ≠ 0 := by
          have h1 := le_nw HV.out
          rw [HN.out] at h1
          have h2 : B ^ (k + 1) ≤ B ^ (n + 1 - 1) := Nat.pow_le_pow_right (by decide) (by omega)
          have := (Nat.le_div_iff_mul_le (Wd.pow_pos (k + 1)) (x := 1) (y := v)).2 (by omega)
          omega
        have HX := Lib.hid (text_step hne)
        clear hne hps
        go_wp2_with (go_at_call 158; refine H1.mono ?_; rintro e w4 ⟨rfl, hb4⟩)
        rw [HP.out]
        have hszw : w.heap.size ≤ w4.heap.size := by have := hb4.size; omega
        refine (wstr_c (hBr.below hb4) (by omega) hszw _ (by have := pad_length (wd_lt v k); simp [ByteArray.size]; omega)).mono ?_
        rintro e w5 ⟨rfl, hB5, hb5⟩
        go_wp2_with fail
        go_roundg k
        case measure => omega
        case rel =>
          refine ⟨by omega, rfl, ?_, (hbr.trans (hb4.mono hszr)).trans hb5⟩
          rw [HX.out]
          simpa using hB5
end Go.Proofs.YtdknneofiefieaaGreatDoor
