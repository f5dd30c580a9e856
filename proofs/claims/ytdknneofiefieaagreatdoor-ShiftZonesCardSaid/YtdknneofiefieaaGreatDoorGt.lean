import Derived.Laws.EntriesVeiled
import Derived.Test.YtdknneofiefieaaGreatDoorGq

namespace Go.Proofs.YtdknneofiefieaaGreatDoor
open Go.RowKit Go.Lib Dec Rt Geo

set_option maxRecDepth 100000 in
set_option maxHeartbeats 2000000 in
theorem named_same {len cp b i : Nat} {side : Int} {qq : Bool} {x1 y1 s1 : ByteArray} (hi : i < len) (hq : (side == 0) = qq) (p : Nat) (w : World) (hS : Sd p w) (hA : At3 w b i x1 y1 s1) :
    Calls Tryz.prog 137 #[.pointer (some ⟨p, 0, none⟩), .slice (some ⟨b, 0, none⟩) len cp, .agg #[.int .i64 i, .int .i64 i, .int .i64 side]] w
      (RB (.tuple #[.agg #[.string x1, .string y1, .string ⟨#[48]⟩, .string ⟨#[48]⟩, .string ⟨#[48]⟩], .bool qq]) w) := by
  obtain ⟨W, hW⟩ : ∃ W, (w.alloc (.cells #[.int .i64 i, .int .i64 i, .int .i64 side] 53)).alloc (.cells #[.string ⟨#[]⟩, .string ⟨#[]⟩, .string ⟨#[]⟩, .string ⟨#[]⟩, .string ⟨#[]⟩] 199) = W := ⟨_, rfl⟩
  have x0 : Bw p w _ W := hW ▸ Bw.box2 hS _ _
  have hA := hA.step x0.b
  have hib : (i : Int) < (len : Int) := by omega
  have c0 := x0.cell 1 rfl 0 rfl
  have c1 := x0.cell 1 rfl 1 rfl
  have a1 := hA.x
  have a2 := hA.y
  have a3 := hA.s
  go_enter Tryz.func137, Tryz.ntmps137
  go_wp2_with fail
  clear hW
  rename_i KK hKK
  have HK := Lib.hid hKK
  clear hKK
  have n0 := World.new_ne W _ c0
  have n1 := World.new_ne W _ a1
  have hlt := x0.lt (w.heap.size + 1, _) (by exact List.mem_cons_self)
  simp only at n0 n1 hlt
  go_region_held3 (fun m => m.cell? ⟨w.heap.size, 0, none⟩ = some (.int .i64 i) ∧ m.cell? ⟨w.heap.size, 1, none⟩ = some (.int .i64 i) ∧ m.cell? ⟨b, i * 3, none⟩ = some (.string x1) ∧ m.cell? ⟨b, i * 3 + 1, none⟩ = some (.string y1) ∧ m.cell? ⟨b, i * 3 + 2, none⟩ = some (.string s1)) (go_keep) (fail)
  all_goals
    show KK _ _
    have z1 := (x0.new (.cells #[.string x1, .string y1, .string s1] 43)).new (.cells #[.string x1, .string y1, .string s1] 43)
    rw [World.size_alloc] at z1
    have z2 := z1.drew
    clear z1 c0 c1 a1 a2 a3 n0 n1 hA
    revert z2
    generalize (((W.alloc (.cells #[.string x1, .string y1, .string s1] 43)).alloc (.cells #[.string x1, .string y1, .string s1] 43)).drew) = Y
    intro z2
    have c0 := z2.cell 3 rfl 0 rfl
    have c1 := z2.cell 3 rfl 1 rfl
    have c2 := z2.cell 3 rfl 2 rfl
    have a1 := z2.cell 1 rfl 0 rfl
    have a2 := z2.cell 1 rfl 1 rfl
    have a3 := z2.cell 0 rfl 0 rfl
    have a4 := z2.cell 0 rfl 1 rfl
    have r0 := z2.cell 2 rfl 0 rfl
    have r1 := z2.cell 2 rfl 1 rfl
    have r2 := z2.cell 2 rfl 2 rfl
    have r3 := z2.cell 2 rfl 3 rfl
    have r4 := z2.cell 2 rfl 4 rfl
    have q0 := z2.frozen 2 rfl 0
    have q1 := z2.frozen 2 rfl 1
    have q2 := z2.frozen 2 rfl 2
    have q3 := z2.frozen 2 rfl 3
    have q4 := z2.frozen 2 rfl 4
    have m1 : w.heap.size + 1 ≠ W.heap.size := by omega
    have m2 : ¬ w.heap.size = W.heap.size := by omega
    refine HK.out _ _ ?_
    go_wp2_with fail
    go_region_held3 (fun m => m.cell? ⟨w.heap.size, 2, none⟩ = some (.int .i64 side) ∧ m.cell? ⟨W.heap.size, 0, none⟩ = some (.string x1) ∧ m.cell? ⟨W.heap.size, 1, none⟩ = some (.string y1) ∧ m.cell? ⟨W.heap.size + 1, 0, none⟩ = some (.string x1) ∧ m.cell? ⟨W.heap.size + 1, 1, none⟩ = some (.string y1)) (go_keep) (fail)
    go_wp2_with fail
    try simp only [Exit.then]
    refine bodyPost_ret (v := .tuple #[.agg #[.string x1, .string y1, .string ⟨#[48]⟩, .string ⟨#[48]⟩, .string ⟨#[48]⟩], .bool qq]) ?_ rfl ⟨rfl, Below.drew (((((z2.b.setCell (p := ⟨w.heap.size + 1, 0, none⟩) (by simp) _).setCell (p := ⟨w.heap.size + 1, 1, none⟩) (by simp) _).setCell (p := ⟨w.heap.size + 1, 2, none⟩) (by simp) _).setCell (p := ⟨w.heap.size + 1, 3, none⟩) (by simp) _).setCell (p := ⟨w.heap.size + 1, 4, none⟩) (by simp) _)⟩
    simp [results, Tryz.f137, go_sem, r0, r1, r2, r3, r4]
end Go.Proofs.YtdknneofiefieaaGreatDoor

namespace Go.Proofs.YtdknneofiefieaaGreatDoor
open Go.RowKit Go.Lib Dec Rt Geo

/-- the discs of a slice -/
structure DL (w : World) (b n : Nat) (c : Nat → Dc) : Prop where
  a : ∀ k, k < n → At3 w b k (rt (c k).x) (rt (c k).y) (rt (c k).s)
theorem DL.step {w w' : World} {b n : Nat} {c : Nat → Dc} (h : DL w b n c) (hB : Below w.heap.size w w') : DL w' b n c := ⟨fun k hk => (h.a k hk).step hB⟩

/-- the boxes of the closures of proves -/
structure Bx (w : World) (p bs bp bi : Nat) (pl : Array Value) : Prop where
  S : w.heap[bs]? = some (.cells #[.pointer (some ⟨p, 0, none⟩)] 140 (0, 0))
  P : w.heap[bp]? = some (.cells pl 199 (0, 0))
  I : w.heap[bi]? = some (.cells #[.func (.func 138) #[] #[.pointer (some ⟨bs, 0, none⟩), .pointer (some ⟨bp, 0, none⟩)]] 203 (0, 0))
theorem Bx.below {w w' : World} {p bs bp bi : Nat} {pl : Array Value} (x : Bx w p bs bp bi pl) (hB : Below w.heap.size w w') : Bx w' p bs bp bi pl :=
  ⟨blk_below x.S hB, blk_below x.P hB, blk_below x.I hB⟩

set_option maxRecDepth 100000 in
set_option maxHeartbeats 1000000 in
theorem prv1_c {t1 t2 t3 u1 u2 u3 u4 u5 : ByteArray} {r : Bool} (p bs bp bi : Nat) (w : World) (hS : Sd p w) (x : Bx w p bs bp bi #[.string u1, .string u2, .string u3, .string u4, .string u5])
    (K : ∀ w, Sd p w → Calls Tryz.prog 139 #[.pointer (some ⟨p, 0, none⟩), .agg #[.string t1, .string t2, .string t3], .agg #[.string u1, .string u2, .string u3, .string u4, .string u5]] w (RB (.bool r) w)) :
    Calls Tryz.prog 138 #[.agg #[.string t1, .string t2, .string t3], .pointer (some ⟨bs, 0, none⟩), .pointer (some ⟨bp, 0, none⟩)] w (RB (.bool r) w) := by
  obtain ⟨W, hW⟩ : ∃ W, w.alloc (.cells #[.string t1, .string t2, .string t3] 43) = W := ⟨_, rfl⟩
  have x0 : Bw p w _ W := hW ▸ Bw.box1 hS _
  have x := x.below x0.b
  have d0 := x0.cell 0 rfl 0 rfl
  have d1 := x0.cell 0 rfl 1 rfl
  have d2 := x0.cell 0 rfl 2 rfl
  have c1 := cell_of_row W bs 0 _ _ _ x.S
  have q0 := cell_of_row W bp 0 _ _ _ x.P
  have q1 := cell_of_row W bp 1 _ _ _ x.P
  have q2 := cell_of_row W bp 2 _ _ _ x.P
  have q3 := cell_of_row W bp 3 _ _ _ x.P
  have q4 := cell_of_row W bp 4 _ _ _ x.P
  simp at c1 q0 q1 q2 q3 q4
  go_enter Tryz.func138, Tryz.ntmps138
  go_wp2_with fail
  refine (K _ x0.s).mono ?_
  rintro e w1 ⟨rfl, b1⟩
  go_wp2_with fail
  go_ret
  exact ⟨rfl, (x0.step b1).b⟩

set_option maxRecDepth 100000 in
set_option maxHeartbeats 1000000 in
theorem prv2_c {t1 t2 t3 u1 u2 u3 u4 u5 : ByteArray} {r : Bool} (p bs bp bi : Nat) (w : World) (hS : Sd p w) (x : Bx w p bs bp bi #[.string u1, .string u2, .string u3, .string u4, .string u5])
    (K : ∀ w, Sd p w → Calls Tryz.prog 139 #[.pointer (some ⟨p, 0, none⟩), .agg #[.string t1, .string t2, .string t3], .agg #[.string u1, .string u2, .string u3, .string u4, .string u5]] w (RB (.bool r) w)) :
    Calls Tryz.prog 141 #[.agg #[.string t1, .string t2, .string t3], .pointer (some ⟨bi, 0, none⟩)] w (RB (.bool (!r)) w) := by
  obtain ⟨W, hW⟩ : ∃ W, w.alloc (.cells #[.string t1, .string t2, .string t3] 43) = W := ⟨_, rfl⟩
  have x0 : Bw p w _ W := hW ▸ Bw.box1 hS _
  have x := x.below x0.b
  have K1 := prv1_c p bs bp bi W x0.s x K
  clear K
  have d0 := x0.cell 0 rfl 0 rfl
  have d1 := x0.cell 0 rfl 1 rfl
  have d2 := x0.cell 0 rfl 2 rfl
  have c1 := cell_of_row W bi 0 _ _ _ x.I
  simp at c1
  go_enter Tryz.func141, Tryz.ntmps141
  go_wp2_with fail
  refine K1.mono ?_
  rintro e w1 ⟨rfl, b1⟩
  go_wp2_with fail
  go_ret
  exact ⟨rfl, (x0.step b1).b⟩

set_option maxRecDepth 100000 in
set_option maxHeartbeats 1000000 in
theorem indexF_c {len cp b : Nat} {c : Nat → Dc} {u1 u2 u3 u4 u5 : ByteArray} {R : Nat → Bool} (hn : len ≤ 1000) (p bs bp bi : Nat) (w : World) (hS : Sd p w) (x : Bx w p bs bp bi #[.string u1, .string u2, .string u3, .string u4, .string u5]) (hD : DL w b len c)
    (K : ∀ k, k < len → ∀ w, Sd p w → Calls Tryz.prog 139 #[.pointer (some ⟨p, 0, none⟩), .agg #[.string (rt (c k).x), .string (rt (c k).y), .string (rt (c k).s)], .agg #[.string u1, .string u2, .string u3, .string u4, .string u5]] w (RB (.bool (R k)) w)) :
    Calls Tryz.prog 179 #[.slice (some ⟨b, 0, none⟩) len cp, .func (.func 141) #[] #[.pointer (some ⟨bi, 0, none⟩)]] w fun e w' =>
      (∃ r : Int, e = .returned (.int .i64 r) ∧ ((r = -1 ∧ ∀ k, k < len → R k = true) ∨ (0 ≤ r ∧ ∃ k, k < len ∧ R k = false))) ∧ Below w.heap.size w w' := by
  go_enter Tryz.func179, Tryz.ntmps179
  go_wp2
  go_loopg [5, 8] len (fun m _ i wr => ∃ k : Nat, k + m = len ∧ i = .int .i64 k ∧ Below w.heap.size w wr ∧ ∀ j, j < k → R j = true)
  case atStart => exact ⟨0, by omega, rfl, Below.refl _ _, fun j hj => absurd hj (by omega)⟩
  case round =>
    obtain ⟨k, hm, rfl, hB, hall⟩ := hrel
    by_cases hlt : k < len
    · have hA := (hD.a k hlt).step hB
      have P := prv2_c p bs bp bi wr (hS.below hB) (x.below hB) (K k hlt)
      have a1 := hA.x
      have a2 := hA.y
      have a3 := hA.s
      have hL := Lib.hid hall
      have hM := Lib.hid hm
      have hlti : (k : Int) < (len : Int) := by omega
      clear K hD hall hm x hS hA
      generalize rt (c k).x = t1 at *
      generalize rt (c k).y = t2 at *
      generalize rt (c k).s = t3 at *
      cases hr : R k with
      | true =>
        rw [hr] at P
        go_wp2_with fail
        refine P.mono ?_
        rintro e w1 ⟨rfl, b1⟩
        go_wp2_with fail
        go_roundg (gk - 1)
        case measure => have := hM.out; omega
        case rel => exact ⟨k + 1, by have := hM.out; omega, by go_num, Bl.trans hB b1, fun j hj => by
          by_cases e : j = k
          · rw [e]; exact hr
          · exact hL.out j (by omega)⟩
      | false =>
        rw [hr] at P
        go_wp2_with fail
        refine P.mono ?_
        rintro e w1 ⟨rfl, b1⟩
        go_wp2_with fail
        go_ret
        exact ⟨⟨k, rfl, .inr ⟨by omega, k, hlt, hr⟩⟩, Bl.trans hB b1⟩
    · have hk : k = len := by omega
      subst hk
      clear K hD
      go_wp2_with fail
      go_ret
      exact ⟨⟨-1, rfl, .inl ⟨rfl, hall⟩⟩, hB⟩

set_option maxRecDepth 100000 in
set_option maxHeartbeats 1000000 in
theorem containsF_c {len cp b : Nat} {c : Nat → Dc} {u1 u2 u3 u4 u5 : ByteArray} {R : Nat → Bool} {ok : Bool} (hn : len ≤ 1000) (p bs bp bi : Nat) (w : World) (hS : Sd p w) (x : Bx w p bs bp bi #[.string u1, .string u2, .string u3, .string u4, .string u5]) (hD : DL w b len c)
    (K : ∀ k, k < len → ∀ w, Sd p w → Calls Tryz.prog 139 #[.pointer (some ⟨p, 0, none⟩), .agg #[.string (rt (c k).x), .string (rt (c k).y), .string (rt (c k).s)], .agg #[.string u1, .string u2, .string u3, .string u4, .string u5]] w (RB (.bool (R k)) w))
    (hok : ok = true ↔ ∀ k, k < len → R k = true) :
    Calls Tryz.prog 140 #[.slice (some ⟨b, 0, none⟩) len cp, .func (.func 141) #[] #[.pointer (some ⟨bi, 0, none⟩)]] w (RB (.bool (!ok)) w) := by
  have H := indexF_c (cp := cp) hn p bs bp bi w hS x hD K
  clear K hD x
  go_enter Tryz.func140, Tryz.ntmps140
  go_wp2_with fail
  refine H.mono ?_
  rintro e w1 ⟨⟨r, rfl, hr⟩, b1⟩
  have hx : decide (0 ≤ r) = !ok := by
    rcases hr with ⟨rfl, h⟩ | ⟨h, k, hk, hf⟩
    · rw [hok.2 h]; rfl
    · have : ok = false := by
        cases ok with
        | false => rfl
        | true => have := hok.1 rfl k hk; rw [hf] at this; cases this
      rw [this, decide_eq_true h]; rfl
  clear hr hok
  go_wp2_with fail
  go_ret
  exact ⟨by rw [← hx]; rfl, b1⟩
end Go.Proofs.YtdknneofiefieaaGreatDoor

namespace Go.Proofs.YtdknneofiefieaaGreatDoor
open Go.RowKit Go.Lib Dec Rt Geo

set_option maxRecDepth 100000 in
set_option maxHeartbeats 1000000 in
theorem proves_yes {len cp b : Nat} {c : Nat → Dc} {i j side : Int} {u1 u2 u3 u4 u5 : ByteArray} {R : Nat → Bool} {ok nm : Bool} (hn : len ≤ 1000) (p : Nat) (w : World) (hS : Sd p w) (hD : DL w b len c)
    (N : ∀ w, Sd p w → DL w b len c → Calls Tryz.prog 137 #[.pointer (some ⟨p, 0, none⟩), .slice (some ⟨b, 0, none⟩) len cp, .agg #[.int .i64 i, .int .i64 j, .int .i64 side]] w (RB (.tuple #[.agg #[.string u1, .string u2, .string u3, .string u4, .string u5], .bool nm]) w))
    (K : nm = true → ∀ k, k < len → ∀ w, Sd p w → Calls Tryz.prog 139 #[.pointer (some ⟨p, 0, none⟩), .agg #[.string (rt (c k).x), .string (rt (c k).y), .string (rt (c k).s)], .agg #[.string u1, .string u2, .string u3, .string u4, .string u5]] w (RB (.bool (R k)) w))
    (hok : nm = true → (ok = true ↔ ∀ k, k < len → R k = true)) :
    Calls Tryz.prog 98 #[.pointer (some ⟨p, 0, none⟩), .slice (some ⟨b, 0, none⟩) len cp, .agg #[.int .i64 i, .int .i64 j, .int .i64 side]] w (RB (.bool (nm && ok)) w) := by
  obtain ⟨W, hW⟩ : ∃ W, (w.alloc (.cells #[.pointer (some ⟨p, 0, none⟩)] 140)).alloc (.cells #[.int .i64 i, .int .i64 j, .int .i64 side] 53) = W := ⟨_, rfl⟩
  have x0 : Bw p w _ W := hW ▸ Bw.box2 hS _ _
  have hD := hD.step x0.b
  have d0 := x0.cell 1 rfl 0 rfl
  have d1 := x0.cell 0 rfl 0 rfl
  have d2 := x0.cell 0 rfl 1 rfl
  have d3 := x0.cell 0 rfl 2 rfl
  have N1 := N W x0.s hD
  clear N
  go_enter Tryz.func98, Tryz.ntmps98
  go_wp2_with fail
  clear hW
  refine N1.mono ?_
  rintro e w1 ⟨rfl, b1⟩
  have x1 := x0.step b1
  have hD := hD.step b1
  have x2 := x1.new (.cells #[.string u1, .string u2, .string u3, .string u4, .string u5] 199)
  have x3 := x2.new (.cells #[.func (.func 138) #[] #[.pointer (some ⟨w.heap.size, 0, none⟩), .pointer (some ⟨w1.heap.size, 0, none⟩)]] 203)
  rw [World.size_alloc] at x3
  clear d0 d1 d2 d3
  cases nm with
  | false =>
    go_wp2_with fail
    go_ret
    exact ⟨rfl, x3.b⟩
  | true =>
    have hD3 : DL ((w1.alloc (.cells #[.string u1, .string u2, .string u3, .string u4, .string u5] 199)).alloc (.cells #[.func (.func 138) #[] #[.pointer (some ⟨w.heap.size, 0, none⟩), .pointer (some ⟨w1.heap.size, 0, none⟩)]] 203)) b len c :=
      (hD.step ((Below.refl _ w1).alloc (Nat.le_refl _) _)).step ((Below.refl _ _).alloc (Nat.le_refl _) _)
    have hx : Bx ((w1.alloc (.cells #[.string u1, .string u2, .string u3, .string u4, .string u5] 199)).alloc (.cells #[.func (.func 138) #[] #[.pointer (some ⟨w.heap.size, 0, none⟩), .pointer (some ⟨w1.heap.size, 0, none⟩)]] 203)) p w.heap.size w1.heap.size (w1.heap.size + 1) #[.string u1, .string u2, .string u3, .string u4, .string u5] :=
      ⟨x3.k (w.heap.size, _) (by exact List.Mem.tail _ (List.Mem.tail _ (List.Mem.tail _ (List.Mem.head _)))), x3.k (w1.heap.size, _) (by exact List.Mem.tail _ (List.Mem.head _)), x3.k (w1.heap.size + 1, _) (by exact List.Mem.head _)⟩
    have C := containsF_c (cp := cp) (ok := ok) hn p w.heap.size w1.heap.size (w1.heap.size + 1) _ x3.s hx hD3 (K rfl) (hok rfl)
    have d0 := x3.cell 3 rfl 0 rfl
    clear K hok hD hD3 hx
    go_wp2_with fail
    refine C.mono ?_
    rintro e w4 ⟨rfl, b4⟩
    have x4 := x3.step b4
    have d0 := x4.cell 3 rfl 0 rfl
    have d1 := x4.s.cell
    cases ok
    all_goals
      go_wp2_with fail
      go_ret
      exact ⟨rfl, x4.b⟩
end Go.Proofs.YtdknneofiefieaaGreatDoor
