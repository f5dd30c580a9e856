import Derived.RangeFuncFrom
import Derived.RangeFuncCalls
import Derived.RangeFuncLeaves
import Derived.OwnWalkIn
import Derived.TacticsInMore
import Derived.RegionIn
import Derived.LoopNIn
import Derived.LoopIn
import Derived.Test.YtdknneofiefieaaGreatDoorGt
import Derived.Test.YtdknneofiefieaaGreatDoorGb

namespace Go.Proofs.YtdknneofiefieaaGreatDoor
open Go.RowKit Go.Lib Geo

def wv (x : W3) : Value := .agg #[.int .i64 x.1, .int .i64 x.2.1, .int .i64 x.2.2]

set_option maxRecDepth 100000 in
set_option maxHeartbeats 1000000 in
/-- witnesses: the number goes into a box that the function value holds -/
theorem witnesses_c (len : Nat) (w : World) :
    Calls Tryz.prog 129 #[.int .i64 len] w fun e w' => e = .returned (.func (.func 171) #[] #[.pointer (some ⟨w.heap.size, 0, none⟩)]) ∧ w' = w.alloc (.cells #[.int .i64 len] 3) := by
  go_enter Tryz.func129, Tryz.ntmps129
  go_wp2
  go_ret
  exact ⟨rfl, rfl⟩

/-- all cells that are there stay as they are -/
structure KC (A B : World) : Prop where
  size : A.heap.size ≤ B.heap.size
  same : ∀ (k : Nat) (o : Obj), A.heap[k]? = some o → o.isCells = true → B.heap[k]? = some o
theorem KC.trans {A B C : World} (h : KC A B) (k : KC B C) : KC A C := ⟨Nat.le_trans h.size k.size, fun i o hi ho => k.same i o (h.same i o hi ho) ho⟩
theorem KC.below {A B : World} (h : Below A.heap.size A B) : KC A B := ⟨h.size, fun k _ hk _ => (h.block k (Array.getElem?_eq_some_iff.1 hk).1).trans hk⟩
theorem KC.putObj (W : World) (l : Nat) (o o' : Obj) (h : W.heap[l]? = some o) (ho : o.isCells = false) : KC W (W.putObj l o') :=
  ⟨by simp, fun k u hk hu => (World.putObj_heap_other (by rintro rfl; rw [h] at hk; cases hk; rw [ho] at hu; cases hu)).trans hk⟩

attribute [local go_sem] Oper.semAt_some

set_option maxRecDepth 100000 in
set_option maxHeartbeats 2000000 in
theorem wit_stops (n : Nat) (hn : 1 ≤ n) (bx len : Nat) (hlen : len ≤ 1000) (w : World) (hb : w.heap[bx]? = some (.cells #[.int .i64 len] 3 (0, 0))) :
    SeqStopsK Fence.wide n Tryz.prog 171 #[.pointer (some ⟨bx, 0, none⟩)] (fun x : {x : W3 // x ∈ wl len} => #[wv x.1]) KC (fun xs => xs.map (·.1) = wl len) (fun pre => pre.map (·.1) <+: wl len) (wl len).length w := fun l J0 Jx0 W hW hJ0 _ hY0 h00 => by
  obtain ⟨J, hJd⟩ : ∃ J : List W3 → World → Prop, J = fun l W => ∃ l' : List {x : W3 // x ∈ wl len}, l'.map (·.1) = l ∧ J0 l' W := ⟨_, rfl⟩
  obtain ⟨Jx, hJxd⟩ : ∃ J : List W3 → World → Prop, J = fun l W => ∃ l' : List {x : W3 // x ∈ wl len}, l'.map (·.1) = l ∧ Jx0 l' W := ⟨_, rfl⟩
  have h0 : J [] W := by rw [hJd]; exact ⟨[], rfl, h00⟩
  have hJa : ∀ s (o : Obj) A, J s A → J s (A.alloc o) → J s (A.alloc o) := fun _ _ _ _ h => h
  have hJal : ∀ s (o : Obj) A, J s A → J s (A.alloc o) := by
    intro s o A h
    rw [hJd] at h ⊢
    obtain ⟨l', e, h⟩ := h
    exact ⟨l', e, hJ0 _ _ _ none h (World.grownBy_alloc _ _ none) (fun r e => by cases e)⟩
  have hY : ∀ (pre : List W3) (x : W3) (W1 : World), J pre W1 → pre ++ [x] <+: wl len → YieldAt Fence.wide (n - 1) Tryz.prog l #[wv x] W1 fun e W' =>
      (e = .returned (.bool true) ∧ J (pre ++ [x]) W' ∧ KC W1 W') ∨ (e = .returned (.bool false) ∧ Jx (pre ++ [x]) W') := by
    intro pre x W1 hJ hp
    rw [hJd] at hJ
    obtain ⟨l', rfl, hJ⟩ := hJ
    have hmem : x ∈ wl len := hp.subset (by simp)
    obtain ⟨fn, tmps, assign, body, hy, hR⟩ := hY0 l' ⟨x, hmem⟩ W1 hJ (by have := hp.length_le; simp at this; omega)
    refine ⟨fn, tmps, assign, body, hy, hR.mono ?_⟩
    rintro e W' (⟨h1, h2, h3⟩ | ⟨h1, h2⟩)
    · exact .inl ⟨h1, by rw [hJd]; exact ⟨l' ++ [⟨x, hmem⟩], by simp, h2⟩, h3⟩
    · exact .inr ⟨h1, by rw [hJxd]; exact ⟨l' ++ [⟨x, hmem⟩], by simp, h2⟩⟩
  clear hY0 hJ0 hJa h00
  have HD := Lib.hid hJd
  have HX := Lib.hid hJxd
  clear hJd hJxd
  refine callsIn_of_wp Tryz.func171 rfl trivial ?_ rfl
  simp only [Tryz.ntmps171, List.size_toArray, List.length_cons, List.length_nil, Nat.reduceAdd, Nat.reduceSub, Array.replicate_succ, Array.replicate_zero, List.push_toArray, List.append_toArray, List.nil_append, List.cons_append]
  have hbW : ∀ W' : World, W'.heap[bx]? = some (.cells #[.int .i64 len] 3 (0, 0)) → W'.cell? ⟨bx, 0, none⟩ = some (.int .i64 len) := fun W' h => by
    rw [cell_of_row W' bx 0 _ _ _ h]; rfl
  have hW := (hW.block bx (Array.getElem?_eq_some_iff.1 hb).1).trans hb
  have c0 := hbW W hW
  have HB := Lib.hid hbW
  clear hbW hb
  gi_wp2
  gi_loopw [3, 9] (fun _ i wr => ∃ k : Nat, k ≤ len ∧ i = .int .i64 k ∧ J (dk k) wr ∧ wr.heap[bx]? = some (.cells #[.int .i64 len] 3 (0, 0))) (fun _ i _ => len - (RowKit.intOf i).toNat)
  case atStart => exact ⟨0, Nat.zero_le _, rfl, h0, hW⟩
  case round =>
    obtain ⟨k, hk, rfl, hJ, hB⟩ := hrel
    by_cases hlt : k < len
    · have hp : dk k ++ [(k, k, 0)] <+: wl len := by rw [← dk_succ]; exact pre1 hlt
      obtain ⟨fn, tmps, assign, body, hy, hR⟩ := hY (dk k) (k, k, 0) wr hJ hp
      dsimp only [wv] at hy
      clear hY
      gi_wp2
      refine hR.mono ?_
      rintro e W3 (⟨rfl, hJ3, hk3⟩ | ⟨rfl, hx3⟩)
      · gi_wp2
        go_roundw
        case rel => exact ⟨k + 1, by omega, by go_num, by rw [dk_succ]; exact hJ3, hk3.same _ _ hB rfl⟩
        case measure => simp [RowKit.intOf]; omega
      · gi_wp2
        refine bodyPost_ret (results_none rfl _ _ _) rfl ?_
        rw [HX.out] at hx3
        obtain ⟨l', e', hx3⟩ := hx3
        exact ⟨⟨_, rfl⟩, .inr ⟨l', by rw [e']; exact hp, hx3⟩⟩
    · have hk : k = len := by omega
      subst hk
      have c1 := HB.out wr hB
      gi_wp2
      gi_loopw [4, 20] (fun _ i wr => ∃ a : Nat, a ≤ k ∧ i = .int .i64 a ∧ J (dk k ++ ei k a) wr ∧ wr.heap[bx]? = some (.cells #[.int .i64 k] 3 (0, 0))) (fun _ i _ => k - (RowKit.intOf i).toNat)
      case atStart => exact ⟨0, Nat.zero_le _, rfl, by show J (dk k ++ []) wr; rw [List.append_nil]; exact hJ, hB⟩
      case round =>
        obtain ⟨a, ha, rfl, hJ, hB⟩ := hrel
        by_cases hlt : a < k
        · gi_wp2
          have hai : (a : Int) < (k : Int) := by omega
          have hw1 : IntKind.i64.wrap ((a : Int) + 1) = ((a + 1 : Nat) : Int) := by rw [IntWalk.i64_in _ (by omega)]; omega
          gi_loopw [5] (fun jv wr => ∃ b : Nat, a < b ∧ b ≤ k ∧ jv = .int .i64 b ∧ J (dk k ++ (ei k a ++ fj a b)) wr ∧ wr.heap[bx]? = some (.cells #[.int .i64 k] 3 (0, 0))) (fun jv _ => k - (RowKit.intOf jv).toNat)
          case atStart => exact ⟨a + 1, by omega, by omega, by go_num, by rw [fj_start, List.append_nil]; exact hJ, hB⟩
          case round =>
            obtain ⟨b, hab, hbk, rfl, hJ, hB⟩ := hrel
            have c1 := HB.out wr hB
            by_cases hltb : b < k
            · gi_wp2
              gi_loopw [7, 32] (fun _ i wx => ∃ q : Nat, q ≤ 3 ∧ i = .int .i64 q ∧ J (dk k ++ (ei k a ++ (fj a b ++ (sd a b).take q))) wx ∧ wx.heap[bx]? = some (.cells #[.int .i64 k] 3 (0, 0)) ∧ wx.heap[wr.heap.size]? = some (.cells #[.int .i64 0, .int .i64 1, .int .i64 (-1)] 3 (0, 0))) (fun _ i _ => 3 - (RowKit.intOf i).toNat)
              case atStart =>
                refine ⟨0, by omega, rfl, ?_, (Below.heap_alloc _ _ _ (Array.getElem?_eq_some_iff.1 hB).1).trans hB, heap_alloc_new _ _⟩
                show J (dk k ++ (ei k a ++ (fj a b ++ []))) _
                rw [List.append_nil]
                exact hJal _ _ _ hJ
              case round =>
                obtain ⟨q, hq3, rfl, hJq, hBq, hAq⟩ := hrel
                by_cases hq : q < 3
                · have hcell := cell_of_row wr _ q _ _ _ hAq
                  obtain ⟨z, hz1, hz2⟩ : ∃ z : Int, (sd a b)[q]? = some (a, b, z) ∧ (#[Value.int .i64 0, .int .i64 1, .int .i64 (-1)])[q]? = some (Value.int .i64 z) := by
                    match q, hq with
                    | 0, _ => exact ⟨0, rfl, rfl⟩
                    | 1, _ => exact ⟨1, rfl, rfl⟩
                    | 2, _ => exact ⟨-1, rfl, rfl⟩
                  rw [hz2] at hcell
                  have et : (sd a b).take (q + 1) = (sd a b).take q ++ [(a, b, z)] := by rw [List.take_add_one, hz1]; rfl
                  have ep : (dk k ++ (ei k a ++ (fj a b ++ (sd a b).take q))) ++ [(a, b, z)] = dk k ++ (ei k a ++ (fj a b ++ (sd a b).take (q + 1))) := by
                    rw [et]; simp only [List.append_assoc]
                  have hp : (dk k ++ (ei k a ++ (fj a b ++ (sd a b).take q))) ++ [(a, b, z)] <+: wl k := by rw [ep]; exact pre2 (by omega) hab hltb
                  obtain ⟨fn, tmps, assign, body, hy, hR⟩ := hY _ (a, b, z) wr hJq hp
                  dsimp only [wv] at hy
                  have hqi : (q : Int) < 3 := by omega
                  clear hY et hz1 hz2
                  gi_wp2
                  refine hR.mono ?_
                  rintro e W3 (⟨rfl, hJ3, hk3⟩ | ⟨rfl, hx3⟩)
                  · gi_wp2
                    go_roundw
                    case rel => exact ⟨q + 1, by omega, by go_num, by rw [← ep]; exact hJ3, hk3.same _ _ hBq rfl, hk3.same _ _ hAq rfl⟩
                    case measure => simp [RowKit.intOf]; omega
                  · gi_wp2
                    refine bodyPost_ret (results_none rfl _ _ _) rfl ?_
                    rw [HX.out] at hx3
                    obtain ⟨l', e', hx3⟩ := hx3
                    exact ⟨⟨_, rfl⟩, .inr ⟨l', by rw [e']; exact hp, hx3⟩⟩
                · have hq3 : q = 3 := by omega
                  subst hq3
                  have hwb : IntKind.i64.wrap ((b : Int) + 1) = ((b + 1 : Nat) : Int) := by rw [IntWalk.i64_in _ (by omega)]; omega
                  gi_wp2
                  go_roundw
                  case rel => exact ⟨b + 1, by omega, by omega, by go_num, by rw [fj_succ hab]; exact hJq, hBq⟩
                  case measure => simp [RowKit.intOf]; omega
            · have hk2 : b = k := by omega
              subst hk2
              gi_wp2
              go_roundw
              case rel => exact ⟨a + 1, by omega, by go_num, by rw [ei_succ]; exact hJ, hB⟩
              case measure => simp [RowKit.intOf]; omega
        · have hk : a = k := by omega
          subst hk
          gi_wp2
          go_end0
          rw [HD.out] at hJ
          obtain ⟨l', e', hJ⟩ := hJ
          exact ⟨⟨_, rfl⟩, .inl ⟨l', e'.trans (wl_eq _).symm, hJ⟩⟩
end Go.Proofs.YtdknneofiefieaaGreatDoor
