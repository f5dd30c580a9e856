import Derived.Test.YtdknneofiefieaaGreatDoorCnt
import Derived.Test.YtdknneofiefieaaGreatDoorGz
import Derived.Test.YtdknneofiefieaaGreatDoorAwP

namespace Go.Proofs.YtdknneofiefieaaGreatDoor
open Go.RowKit Go.Lib Rt Geo Sh

set_option maxRecDepth 100000 in
set_option maxHeartbeats 2000000 in
theorem sdoes_w {b o b' o' n cp cp' len : Nat} {play : Int} {tx ty : ByteArray} {c : Nat → Dc} {F : Nat → Bool} (w : World) (g : Gd w) (hlen : len ≤ 64)
    (Z : ∀ w', Below w.heap.size w w' → Gd w' → Calls Tryz.prog 14 #[.agg (tkv b o n cp b' o' cp' play)] w' fun e w'' => (∃ gg cap, e = .returned (.tuple #[.slice (some ⟨gg, 0, none⟩) len cap, .int .i64 0]) ∧ DL w'' gg len c) ∧ Below w'.heap.size w' w'')
    (H : ∀ t ∈ [tx, ty], ∀ w, Gd w → Calls Tryz.prog 47 #[.string t] w fun e w' => e = .returned (.int .i64 0) ∧ Below w.heap.size w w')
    (C : ∀ k, k < len → ∀ w, Gd w → Calls Tryz.prog 48 #[.agg #[.string (rt (c k).x), .string (rt (c k).y), .string (rt (c k).s)], .agg #[.string tx, .string ty]] w (RB (.tuple #[.bool (F k), .int .i64 0]) w)) :
    Calls Tryz.prog 21 #[.agg (tkv b o n cp b' o' cp' play), .agg #[.string tx, .string ty]] w (RB (.tuple #[.bool ((List.range len).all F), .int .i64 0]) w) := by
  have h64 : (len : Int) ≤ 64 := by omega
  have all1 : (∀ k, k < len → F k = true) → (List.range len).all F = true := fun h => by rw [List.all_eq_true]; intro k hk; exact h k (List.mem_range.1 hk)
  have all0 : ∀ k, k < len → F k = false → (List.range len).all F = false := fun k hk h => by
    rw [List.all_eq_false]; exact ⟨k, List.mem_range.2 hk, by rw [h]; decide⟩
  generalize (List.range len).all F = rs at *
  have all1 := Lib.hid all1
  have all0 := Lib.hid all0
  unfold tkv at *
  obtain ⟨W, hW⟩ : ∃ W, (w.alloc (.cells #[.slice (some ⟨b, o, none⟩) n cp, .slice (some ⟨b', o', none⟩) n cp', .int .i64 play] 25)).alloc (.cells #[.string tx, .string ty] 41) = W := ⟨_, rfl⟩
  have q1 : W.heap[w.heap.size]? = some (.cells #[.slice (some ⟨b, o, none⟩) n cp, .slice (some ⟨b', o', none⟩) n cp', .int .i64 play] 25 (0, 0)) := hW ▸ (Below.heap_alloc _ _ _ (by simp)).trans (heap_alloc_new w _)
  have q2 : W.heap[w.heap.size + 1]? = some (.cells #[.string tx, .string ty] 41 (0, 0)) := by
    have := heap_alloc_new (w.alloc (.cells #[.slice (some ⟨b, o, none⟩) n cp, .slice (some ⟨b', o', none⟩) n cp', .int .i64 play] 25 (0, 0))) (.cells #[.string tx, .string ty] 41 (0, 0))
    rw [World.size_alloc] at this
    rw [← hW]; exact this
  have bW : Below w.heap.size w W := hW ▸ ((Below.refl _ w).alloc (Nat.le_refl _) _).alloc (by simp) _
  have ZZ := Z W bW (g.below bW)
  have e0 : W.cell? ⟨w.heap.size, 0, none⟩ = some (.slice (some ⟨b, o, none⟩) n cp) := cell_of_row W _ 0 _ _ _ q1
  have e1 : W.cell? ⟨w.heap.size, 1, none⟩ = some (.slice (some ⟨b', o', none⟩) n cp') := cell_of_row W _ 1 _ _ _ q1
  have e2 : W.cell? ⟨w.heap.size, 2, none⟩ = some (.int .i64 play) := cell_of_row W _ 2 _ _ _ q1
  have C := Lib.hid C
  have H := Lib.hid H
  clear Z q1
  go_enter Tryz.func21, Tryz.ntmps21
  go_wp2_with fail
  clear hW
  refine ZZ.mono ?_
  rintro e w1 ⟨⟨gg, cap, rfl, hD⟩, b1⟩
  have B1 := Bl.trans bW b1
  have q4 := blk_below q2 b1
  clear e0 e1 e2
  have a0 : w1.cell? ⟨w.heap.size + 1, 0, none⟩ = some (.string tx) := cell_of_row w1 _ 0 _ _ _ q4
  have a1 : w1.cell? ⟨w.heap.size + 1, 1, none⟩ = some (.string ty) := cell_of_row w1 _ 1 _ _ _ q4
  have qn := heap_alloc_new w1 (.cells #[.string tx, .string ty] 39)
  have bn : Below w1.heap.size w1 (w1.alloc (.cells #[.string tx, .string ty] 39)) := (Below.refl _ w1).alloc (Nat.le_refl _) _
  go_wp2_with fail
  go_loopg [9, 10, 29] 2 (fun m _ _ i wr => ∃ k : Nat, k + m = 2 ∧ i = .int .i64 k ∧ Below w1.heap.size w1 wr ∧ wr.heap[w1.heap.size]? = some (.cells #[.string tx, .string ty] 39 (0, 0)))
  case atStart => exact ⟨0, by omega, rfl, bn, qn⟩
  case round =>
    obtain ⟨k, hm, rfl, hB, h0⟩ := hrel
    by_cases hlt : k < 2
    · obtain ⟨x, hx, hxc⟩ : ∃ x : ByteArray, x ∈ [tx, ty] ∧ (#[Value.string tx, .string ty])[k]? = some (.string x) := by
        match k, hlt with
        | 0, _ => exact ⟨tx, by simp, rfl⟩
        | 1, _ => exact ⟨ty, by simp, rfl⟩
      have hcell := (cell_of_row wr _ k _ _ _ h0).trans hxc
      have KK := H.out x hx wr (g.below (Bl.trans B1 hB))
      have HM := Lib.hid hm
      have H0 := Lib.hid h0
      clear H hm h0 hx hxc a0 a1
      go_wp2_with (go_at_call 47; refine KK.mono ?_; rintro e w2 ⟨rfl, b2⟩)
      go_roundg (gk - 1)
      case measure => have := HM.out; omega
      case rel => exact ⟨k + 1, by have := HM.out; omega, by go_num, Bl.trans hB b2, blk_below H0.out b2⟩
    · have hk : k = 2 := by omega
      subst hk
      clear h0 q2 qn a0 a1 H hm hlt bn
      go_wp2_with fail
      go_loopg [12, 13, 14, 41] len (fun m _ _ _ i wr => ∃ k : Nat, k + m = len ∧ i = .int .i64 k ∧ Below w1.heap.size w1 wr ∧ ∀ j, j < k → F j = true)
      case atStart => exact ⟨0, by omega, rfl, hB, fun j h => by omega⟩
      case round =>
        obtain ⟨k, hm, rfl, hB, hF⟩ := hrel
        by_cases hlt : k < len
        · have hlti : (k : Int) < (len : Int) := by omega
          obtain ⟨d0, d1, d2⟩ := (hD.a k hlt).step hB
          have bb : Below wr.heap.size wr (wr.alloc (.cells #[.string (rt (c k).x), .string (rt (c k).y), .string (rt (c k).s)] 43)) := (Below.refl _ wr).alloc (Nat.le_refl _) _
          have qx := blk_below (blk_below q4 hB) bb
          have a0 : (wr.alloc (.cells #[.string (rt (c k).x), .string (rt (c k).y), .string (rt (c k).s)] 43)).cell? ⟨w.heap.size + 1, 0, none⟩ = some (.string tx) := cell_of_row _ _ 0 _ _ _ qx
          have a1 : (wr.alloc (.cells #[.string (rt (c k).x), .string (rt (c k).y), .string (rt (c k).s)] 43)).cell? ⟨w.heap.size + 1, 1, none⟩ = some (.string ty) := cell_of_row _ _ 1 _ _ _ qx
          have CC := C.out k hlt _ (g.below (Bl.trans B1 (Bl.trans hB bb)))
          have HM := Lib.hid hm
          have HF := Lib.hid hF
          clear hm hF hD qx
          generalize rt (c k).x = t1 at *
          generalize rt (c k).y = t2 at *
          generalize rt (c k).s = t3 at *
          cases hf : F k with
          | true =>
            rw [hf] at CC
            go_wp2_with fail
            refine CC.mono ?_
            rintro e w2 ⟨rfl, b2⟩
            go_wp2_with fail
            go_roundg (gk - 1)
            case measure => have := HM.out; omega
            case rel =>
              refine ⟨k + 1, by have := HM.out; omega, by go_num, Bl.trans hB (Bl.trans bb b2), fun j hj => ?_⟩
              by_cases h : j = k
              · rw [h]; exact hf
              · exact HF.out j (by omega)
          | false =>
            rw [hf] at CC
            have hr := all0.out k hlt hf
            subst hr
            go_wp2_with fail
            refine CC.mono ?_
            rintro e w2 ⟨rfl, b2⟩
            go_wp2_with fail
            go_ret2
            exact ⟨rfl, Bl.trans B1 (Bl.trans hB (Bl.trans bb b2))⟩
        · have hk : k = len := by omega
          subst hk
          have hr := all1.out hF
          subst hr
          clear hD hF hm
          go_wp2_with fail
          go_ret2
          exact ⟨rfl, Bl.trans B1 hB⟩

theorem all_zs (l : List Dc) (x y : Rat) : ((List.range l.length).all fun k => decide (f (zc l k) x y ≤ 0)) = allf l x y := by
  rw [Bool.eq_iff_iff, allf_iff, List.all_eq_true]
  constructor
  · intro h d hd
    obtain ⟨k, hk, rfl⟩ := List.mem_iff_getElem.1 hd
    have := h k (List.mem_range.2 hk)
    rw [zc_get hk] at this
    simpa using this
  · intro h k hk
    have hk := List.mem_range.1 hk
    rw [zc_get hk]
    simpa using h _ (List.getElem_mem hk)

theorem sdoes_c {N : Nat} {ts : List (Tg × Ci)} {b o b' o' cp cp' : Nat} {play : Int} {px py : Rat} (h : Pok ts) (hn : ts.length ≤ 16) (p1 : -1 ≤ play) (p2 : play ≤ 100000) (hk : ∀ d ∈ zs ts play, CtS N d px py) (w : World) (g : Gd w) (hm : PM w b o b' o' ts) :
    Calls Tryz.prog 21 #[.agg (tkv b o ts.length cp b' o' cp' play), .agg #[.string (rt px), .string (rt py)]] w (RB (.tuple #[.bool (allf (zs ts play) px py), .int .i64 0]) w) := by
  have hds := h.ds p2
  have hlen : 1 ≤ (zs ts play).length := List.length_pos_iff.2 (zs_ne h.n play)
  have h64 : (zs ts play).length ≤ 64 := by
    unfold zs; rw [List.length_append, List.length_map]; split <;> simp <;> omega
  have hk0 := hk _ (zc_mem hlen)
  have hN := hk0.n
  rw [← all_zs]
  refine sdoes_w (c := zc (zs ts play)) (F := fun k => decide (f (zc (zs ts play) k) px py ≤ 0)) w g h64 (fun w' hB g' => ?_) (fun t ht w g => ?_) (fun k hk' w g => ?_)
  · refine (zones_c (cp := cp) (cp' := cp') h hn p1 p2 w' g' (hm.step hB)).mono fun e w'' => ?_
    rintro ⟨⟨v, n, rfl, rfl, ho⟩, hb⟩
    obtain ⟨gg, cap, rfl, _, _⟩ := ho.form hlen
    exact ⟨⟨gg, cap, rfl, owns_dl ho rfl⟩, hb⟩
  · simp only [List.mem_cons, List.not_mem_nil, or_false] at ht
    rcases ht with rfl | rfl
    · exact rCheck_c (Sm.sq (N := N) hk0.qx (by omega)) w g
    · exact rCheck_c (Sm.sq (N := N) hk0.qy (by omega)) w g
  · exact dcontains_c (hds _ (zc_mem hk')) (hk _ (zc_mem hk')) w g
end Go.Proofs.YtdknneofiefieaaGreatDoor
