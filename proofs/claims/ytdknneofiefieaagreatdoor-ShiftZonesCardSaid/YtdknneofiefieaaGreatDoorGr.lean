import Derived.Deep.RegionHeld3
import Derived.Test.YtdknneofiefieaaGreatDoorGq

namespace Go.Proofs.YtdknneofiefieaaGreatDoor
open Go.RowKit Go.Lib Dec Rt Geo

set_option maxRecDepth 100000 in
set_option maxHeartbeats 4000000 in
theorem named_neg {len cp b i j : Nat} {side : Int} {x1 y1 s1 x2 y2 s2 dx dy fr fs fb f2 tt ux fx uy fy ny sf tq hh nx : ByteArray} (hi : i < len) (hj : j < len) (_hlen : len ≤ 1000) (hij : i ≠ j) (p : Nat) (w : World) (hS : Sd p w) (hA : At3 w b i x1 y1 s1) (hB : At3 w b j x2 y2 s2)
    (Hless : ∀ w, Sd p w → Calls Tryz.prog 125 #[.pointer (some ⟨p, 0, none⟩), .agg #[.string x2, .string y2], .agg #[.string x1, .string y1]] w (RB (.agg #[.string dx, .string dy]) w))
    (Hdot : ∀ w, Sd p w → Calls Tryz.prog 126 #[.pointer (some ⟨p, 0, none⟩), .agg #[.string dx, .string dy], .agg #[.string dx, .string dy]] w (RB (.string fr) w))
    (H1 : ∀ w, Sd p w → Calls Tryz.prog 168 #[.pointer (some ⟨p, 0, none⟩), .string fr, .string s1] w (RB (.string fs) w))
    (H2 : ∀ w, Sd p w → Calls Tryz.prog 124 #[.pointer (some ⟨p, 0, none⟩), .string fs, .string s2] w (RB (.string fb) w))
    (H3 : ∀ w, Sd p w → Calls Tryz.prog 169 #[.pointer (some ⟨p, 0, none⟩), .string ⟨#[50]⟩, .string fr] w (RB (.string f2) w))
    (H4 : ∀ w, Sd p w → Calls Tryz.prog 166 #[.pointer (some ⟨p, 0, none⟩), .func (.func 178) #[] #[], .string fb, .string f2] w (RB (.string tt) w))
    (H5 : ∀ w, Sd p w → Calls Tryz.prog 169 #[.pointer (some ⟨p, 0, none⟩), .string tt, .string dx] w (RB (.string ux) w))
    (H6 : ∀ w, Sd p w → Calls Tryz.prog 168 #[.pointer (some ⟨p, 0, none⟩), .string x1, .string ux] w (RB (.string fx) w))
    (H7 : ∀ w, Sd p w → Calls Tryz.prog 169 #[.pointer (some ⟨p, 0, none⟩), .string tt, .string dy] w (RB (.string uy) w))
    (H8 : ∀ w, Sd p w → Calls Tryz.prog 168 #[.pointer (some ⟨p, 0, none⟩), .string y1, .string uy] w (RB (.string fy) w))
    (H9 : ∀ w, Sd p w → Calls Tryz.prog 124 #[.pointer (some ⟨p, 0, none⟩), .string ⟨#[48]⟩, .string dy] w (RB (.string ny) w))
    (H10 : ∀ w, Sd p w → Calls Tryz.prog 166 #[.pointer (some ⟨p, 0, none⟩), .func (.func 178) #[] #[], .string s1, .string fr] w (RB (.string sf) w))
    (H11 : ∀ w, Sd p w → Calls Tryz.prog 169 #[.pointer (some ⟨p, 0, none⟩), .string tt, .string tt] w (RB (.string tq) w))
    (H12 : ∀ w, Sd p w → Calls Tryz.prog 124 #[.pointer (some ⟨p, 0, none⟩), .string sf, .string tq] w (RB (.string hh) w))
    (H13 : ∀ w, Sd p w → Calls Tryz.prog 124 #[.pointer (some ⟨p, 0, none⟩), .string ⟨#[48]⟩, .string dx] w (RB (.string nx) w))
    {bb zz qq : Bool} (hfr : (fr.toList == [48]) = false) (hpos : 0 < hh.size) (hb1 : ((hh[0].toNat : Int) == 45) = !bb) (hz : (hh.toList == [48]) = zz) (hq : (side == 0) = qq) (hneg : side < 0) :
    Calls Tryz.prog 137 #[.pointer (some ⟨p, 0, none⟩), .slice (some ⟨b, 0, none⟩) len cp, .agg #[.int .i64 i, .int .i64 j, .int .i64 side]] w
      (RB (.tuple #[.agg #[.string fx, .string fy, .string dy, .string nx, .string hh], .bool (bb && (zz == qq))]) w) := by
  obtain ⟨W, hW⟩ : ∃ W, (w.alloc (.cells #[.int .i64 i, .int .i64 j, .int .i64 side] 53)).alloc (.cells #[.string ⟨#[]⟩, .string ⟨#[]⟩, .string ⟨#[]⟩, .string ⟨#[]⟩, .string ⟨#[]⟩] 199) = W := ⟨_, rfl⟩
  have x0 : Bw p w _ W := hW ▸ Bw.box2 hS _ _
  have hA := hA.step x0.b
  have hB := hB.step x0.b
  have hib : (i : Int) < (len : Int) := by omega
  have hjb : (j : Int) < (len : Int) := by omega
  have hijz : ((i : Int) == (j : Int)) = false := by rw [beq_eq_false_iff_ne]; omega
  have c0 := x0.cell 1 rfl 0 rfl
  have c1 := x0.cell 1 rfl 1 rfl
  have a1 := hA.x
  have a2 := hA.y
  have a3 := hA.s
  have b1 := hB.x
  have b2 := hB.y
  have b3 := hB.s
  go_enter Tryz.func137, Tryz.ntmps137
  go_wp2_with fail
  clear hW
  rename_i KK hKK
  have HK := Lib.hid hKK
  clear hKK
  have hcont : ∀ (gA gB : Nat) (Y : World), w.heap.size + 1 < gA → w.heap.size + 1 < gB → Bw p w [(gA, .cells #[.string x1, .string y1, .string s1] 43), (gB, .cells #[.string x2, .string y2, .string s2] 43), (w.heap.size + 1, .cells #[.string ⟨#[]⟩, .string ⟨#[]⟩, .string ⟨#[]⟩, .string ⟨#[]⟩, .string ⟨#[]⟩] 199), (w.heap.size, .cells #[.int .i64 i, .int .i64 j, .int .i64 side] 53)] Y → KK { tmps := #[.pointer (some ⟨p, 0, none⟩), .slice (some ⟨b, 0, none⟩) len cp, .agg #[.int .i64 i, .int .i64 j, .int .i64 side], undef, undef, .pointer (some ⟨w.heap.size, 0, none⟩), .pointer (some ⟨w.heap.size + 1, 0, none⟩), .bool false, .pointer (some ⟨gA, 0, none⟩), .pointer (some ⟨gB, 0, none⟩), undef, undef, undef, undef, .slice (some ⟨b, 0, none⟩) len cp, .pointer (some ⟨w.heap.size, 0, none⟩), .int .i64 i, .pointer (some ⟨b, i * 3, none⟩), .agg #[.string x1, .string y1, .string s1], .slice (some ⟨b, 0, none⟩) len cp, .pointer (some ⟨w.heap.size, 1, none⟩), .int .i64 j, .pointer (some ⟨b, j * 3, none⟩), .agg #[.string x2, .string y2, .string s2], undef, undef, undef, undef, undef, undef, undef, undef, undef, undef, undef, undef, undef, undef, undef, undef, undef, undef, undef, undef, undef, undef, undef, undef, undef, undef, undef, undef, undef, undef, undef, undef, undef, undef, undef, undef, undef, undef, undef, undef, undef, undef, undef, undef, undef, undef, undef, undef, undef, undef, undef, undef, undef, undef, undef, undef, undef, undef, undef, undef, undef, undef, undef, undef, undef, undef, undef, undef, undef, undef, undef, undef, undef, undef, undef, undef, undef, undef, undef, undef, undef, undef, undef, undef, undef, undef, undef, undef, undef, undef, undef, undef, undef, undef, undef, undef, undef, undef, undef, undef, undef, undef, undef, undef, undef, undef, undef, undef, undef, undef, undef], defers := [] } Y := by
    intro gA gB Y hgA hgB hY
    clear c0 c1 a1 a2 a3 b1 b2 b3 x0 hA hB
    have c0 := hY.cell 0 rfl 0 rfl
    have c1 := hY.cell 0 rfl 1 rfl
    have c2 := hY.cell 1 rfl 0 rfl
    have c3 := hY.cell 1 rfl 1 rfl
    have c4 := hY.cell 3 rfl 0 rfl
    have c5 := hY.cell 3 rfl 1 rfl
    refine HK.out _ _ ?_
    go_wp2_with fail
    refine (Hless _ hY.s).mono ?_
    rintro e w1 ⟨rfl, b1⟩
    have y1 := hY.step b1
    have y2 := y1.new (.cells #[.string dx, .string dy] 41)
    clear c0 c1 c2 c3 c4 c5
    go_wp2_with fail
    refine (Hdot _ y2.s).mono ?_
    rintro e w2 ⟨rfl, b2⟩
    have y3 := y2.step b2
    clear y1 y2
    go_wp2_with fail
    refine Reg.walk (by kernel_rfl) 14 (by kernel_rfl) (by decide) (by kernel_rfl) (fun _ => false) (fun _ => [(some 49, .pointer (some ⟨p, 0, none⟩)), (some 50, .pointer (some ⟨p, 0, none⟩)), (some 51, .pointer (some ⟨p, 0, none⟩)), (some 52, .string fr), (some 53, .pointer (some ⟨gA, 2, none⟩)), (some 54, .string s1), (some 55, .string fs), (some 56, .pointer (some ⟨gB, 2, none⟩)), (some 57, .string s2), (some 58, .string fb), (some 59, .pointer (some ⟨p, 0, none⟩)), (some 60, .string fr), (some 61, .string f2), (some 62, .string tt)])
      (fun _ => rfl) (fun _ _ _ => rfl) (fun _ _ _ h => by cases h) (fun _ _ _ => True) (fun _ _ _ _ _ _ => trivial)
      (fun W' => Bw p w [(w1.heap.size, .cells #[.string dx, .string dy] 41), (gA, .cells #[.string x1, .string y1, .string s1] 43), (gB, .cells #[.string x2, .string y2, .string s2] 43), (w.heap.size + 1, .cells #[.string ⟨#[]⟩, .string ⟨#[]⟩, .string ⟨#[]⟩, .string ⟨#[]⟩, .string ⟨#[]⟩] 199), (w.heap.size, .cells #[.int .i64 i, .int .i64 j, .int .i64 side] 53)] W')
      (y3.drew) ?_ ?_
    · intro i o hi ho Q' a w' hw hon hoff K hK
      match i, hi with
      | 0, _ =>
        obtain rfl := Option.some.inj ho
        clear ho
        have o0 : a.tmps[0]?.getD undef = .pointer (some ⟨p, 0, none⟩) := hoff 0 (by kernel_rfl)
        clear hon hoff
        rw [if_pos (by rfl)]
        go_simp
        exact hK _ _ rfl hw (Below.refl _ _)
      | 1, _ =>
        obtain rfl := Option.some.inj ho
        clear ho
        have o0 : a.tmps[0]?.getD undef = .pointer (some ⟨p, 0, none⟩) := hoff 0 (by kernel_rfl)
        clear hon hoff
        rw [if_pos (by rfl)]
        go_simp
        exact hK _ _ rfl hw (Below.refl _ _)
      | 2, _ =>
        obtain rfl := Option.some.inj ho
        clear ho
        have o0 : a.tmps[0]?.getD undef = .pointer (some ⟨p, 0, none⟩) := hoff 0 (by kernel_rfl)
        clear hon hoff
        rw [if_pos (by rfl)]
        go_simp
        exact hK _ _ rfl hw (Below.refl _ _)
      | 3, _ =>
        obtain rfl := Option.some.inj ho
        clear ho
        have o11 : a.tmps[11]?.getD undef = .string fr := hoff 11 (by kernel_rfl)
        clear hon hoff
        rw [if_pos (by rfl)]
        go_simp
        exact hK _ _ rfl hw (Below.refl _ _)
      | 4, _ =>
        obtain rfl := Option.some.inj ho
        clear ho
        have o8 : a.tmps[8]?.getD undef = .pointer (some ⟨gA, 0, none⟩) := hoff 8 (by kernel_rfl)
        clear hon hoff
        rw [if_pos (by rfl)]
        go_simp
        exact hK _ _ rfl hw (Below.refl _ _)
      | 5, _ =>
        obtain rfl := Option.some.inj ho
        clear ho
        have o53 : a.tmps[53]?.getD undef = .pointer (some ⟨gA, 2, none⟩) := (Option.some.inj (hon 4 _ _ (by kernel_rfl) (by decide) rfl rfl rfl)).symm
        clear hon hoff
        rw [if_pos (by rfl)]
        have d1 := hw.cell 1 rfl 2 rfl
        have d2 := hw.cell 2 rfl 2 rfl
        go_simp
        exact hK _ _ rfl hw (Below.refl _ _)
      | 6, _ =>
        obtain rfl := Option.some.inj ho
        clear ho
        have o51 : a.tmps[51]?.getD undef = .pointer (some ⟨p, 0, none⟩) := (Option.some.inj (hon 2 _ _ (by kernel_rfl) (by decide) rfl rfl rfl)).symm
        have o52 : a.tmps[52]?.getD undef = .string fr := (Option.some.inj (hon 3 _ _ (by kernel_rfl) (by decide) rfl rfl rfl)).symm
        have o54 : a.tmps[54]?.getD undef = .string s1 := (Option.some.inj (hon 5 _ _ (by kernel_rfl) (by decide) rfl rfl rfl)).symm
        clear hon hoff
        rw [if_pos (by rfl)]
        go_simp
        refine (H1 _ hw.s).mono ?_
        rintro e v1 ⟨rfl, b1⟩
        exact hK _ _ rfl (hw.step b1) b1
      | 7, _ =>
        obtain rfl := Option.some.inj ho
        clear ho
        have o9 : a.tmps[9]?.getD undef = .pointer (some ⟨gB, 0, none⟩) := hoff 9 (by kernel_rfl)
        clear hon hoff
        rw [if_pos (by rfl)]
        go_simp
        exact hK _ _ rfl hw (Below.refl _ _)
      | 8, _ =>
        obtain rfl := Option.some.inj ho
        clear ho
        have o56 : a.tmps[56]?.getD undef = .pointer (some ⟨gB, 2, none⟩) := (Option.some.inj (hon 7 _ _ (by kernel_rfl) (by decide) rfl rfl rfl)).symm
        clear hon hoff
        rw [if_pos (by rfl)]
        have d1 := hw.cell 1 rfl 2 rfl
        have d2 := hw.cell 2 rfl 2 rfl
        go_simp
        exact hK _ _ rfl hw (Below.refl _ _)
      | 9, _ =>
        obtain rfl := Option.some.inj ho
        clear ho
        have o50 : a.tmps[50]?.getD undef = .pointer (some ⟨p, 0, none⟩) := (Option.some.inj (hon 1 _ _ (by kernel_rfl) (by decide) rfl rfl rfl)).symm
        have o55 : a.tmps[55]?.getD undef = .string fs := (Option.some.inj (hon 6 _ _ (by kernel_rfl) (by decide) rfl rfl rfl)).symm
        have o57 : a.tmps[57]?.getD undef = .string s2 := (Option.some.inj (hon 8 _ _ (by kernel_rfl) (by decide) rfl rfl rfl)).symm
        clear hon hoff
        rw [if_pos (by rfl)]
        go_simp
        refine (H2 _ hw.s).mono ?_
        rintro e v1 ⟨rfl, b1⟩
        exact hK _ _ rfl (hw.step b1) b1
      | 10, _ =>
        obtain rfl := Option.some.inj ho
        clear ho
        have o0 : a.tmps[0]?.getD undef = .pointer (some ⟨p, 0, none⟩) := hoff 0 (by kernel_rfl)
        clear hon hoff
        rw [if_pos (by rfl)]
        go_simp
        exact hK _ _ rfl hw (Below.refl _ _)
      | 11, _ =>
        obtain rfl := Option.some.inj ho
        clear ho
        have o11 : a.tmps[11]?.getD undef = .string fr := hoff 11 (by kernel_rfl)
        clear hon hoff
        rw [if_pos (by rfl)]
        go_simp
        exact hK _ _ rfl hw (Below.refl _ _)
      | 12, _ =>
        obtain rfl := Option.some.inj ho
        clear ho
        have o59 : a.tmps[59]?.getD undef = .pointer (some ⟨p, 0, none⟩) := (Option.some.inj (hon 10 _ _ (by kernel_rfl) (by decide) rfl rfl rfl)).symm
        have o60 : a.tmps[60]?.getD undef = .string fr := (Option.some.inj (hon 11 _ _ (by kernel_rfl) (by decide) rfl rfl rfl)).symm
        clear hon hoff
        rw [if_pos (by rfl)]
        go_simp
        refine (H3 _ hw.s).mono ?_
        rintro e v1 ⟨rfl, b1⟩
        exact hK _ _ rfl (hw.step b1) b1
      | 13, _ =>
        obtain rfl := Option.some.inj ho
        clear ho
        have o49 : a.tmps[49]?.getD undef = .pointer (some ⟨p, 0, none⟩) := (Option.some.inj (hon 0 _ _ (by kernel_rfl) (by decide) rfl rfl rfl)).symm
        have o58 : a.tmps[58]?.getD undef = .string fb := (Option.some.inj (hon 9 _ _ (by kernel_rfl) (by decide) rfl rfl rfl)).symm
        have o61 : a.tmps[61]?.getD undef = .string f2 := (Option.some.inj (hon 12 _ _ (by kernel_rfl) (by decide) rfl rfl rfl)).symm
        clear hon hoff
        rw [if_pos (by rfl)]
        go_simp
        refine (H4 _ hw.s).mono ?_
        rintro e v1 ⟨rfl, b1⟩
        exact hK _ _ rfl (hw.step b1) b1
      | i + 14, h => exact absurd h (by omega)
    · intro g w3 hw _ _
      simp only [List.drop_succ_cons, List.drop_zero, Reg.puts, Act.put, List.setIfInBounds_toArray, List.set_cons_succ, List.set_cons_zero]
      clear Hless Hdot H1 H2 H3 H4 HK
      go_wp2_with fail
      have hlow : w.heap.size ≤ w3.heap.size := hw.b.size
      have hlts := hw.lt
      refine Reg.walk (by kernel_rfl) 41 (by kernel_rfl) (by decide) (by kernel_rfl) (fun i => i == 40) (fun g => [(some 63, .pointer (some ⟨p, 0, none⟩)), (some 64, .pointer (some ⟨gA, 0, none⟩)), (some 65, .pointer (some ⟨gA, 0, none⟩)), (some 66, .string x1), (some 67, .pointer (some ⟨p, 0, none⟩)), (some 68, .string tt), (some 69, .pointer (some ⟨w1.heap.size, 0, none⟩)), (some 70, .string dx), (some 71, .string ux), (some 72, .string fx), (some 73, .pointer (some ⟨p, 0, none⟩)), (some 74, .pointer (some ⟨gA, 0, none⟩)), (some 75, .pointer (some ⟨gA, 1, none⟩)), (some 76, .string y1), (some 77, .pointer (some ⟨p, 0, none⟩)), (some 78, .string tt), (some 79, .pointer (some ⟨w1.heap.size, 1, none⟩)), (some 80, .string dy), (some 81, .string uy), (some 82, .string fy), (some 83, .agg #[.string fx, .string fy]), (some 84, .pointer (some ⟨p, 0, none⟩)), (some 85, .pointer (some ⟨w1.heap.size, 1, none⟩)), (some 86, .string dy), (some 87, .string ny), (some 88, .pointer (some ⟨w1.heap.size, 0, none⟩)), (some 89, .string dx), (some 90, .agg #[.string ny, .string dx]), (some 91, .pointer (some ⟨p, 0, none⟩)), (some 92, .pointer (some ⟨p, 0, none⟩)), (some 93, .pointer (some ⟨gA, 2, none⟩)), (some 94, .string s1), (some 95, .string fr), (some 96, .string sf), (some 97, .pointer (some ⟨p, 0, none⟩)), (some 98, .string tt), (some 99, .string tt), (some 100, .string tq), (some 101, .string hh), (some 102, .agg #[.string fx, .string fy, .string ny, .string dx, .string hh]), (some 13, .pointer (some ⟨g 40, 0, none⟩))])
        (fun _ => rfl) (fun g i hi => by
          match i, hi with
          | 0, hi => rfl
          | 1, hi => rfl
          | 2, hi => rfl
          | 3, hi => rfl
          | 4, hi => rfl
          | 5, hi => rfl
          | 6, hi => rfl
          | 7, hi => rfl
          | 8, hi => rfl
          | 9, hi => rfl
          | 10, hi => rfl
          | 11, hi => rfl
          | 12, hi => rfl
          | 13, hi => rfl
          | 14, hi => rfl
          | 15, hi => rfl
          | 16, hi => rfl
          | 17, hi => rfl
          | 18, hi => rfl
          | 19, hi => rfl
          | 20, hi => rfl
          | 21, hi => rfl
          | 22, hi => rfl
          | 23, hi => rfl
          | 24, hi => rfl
          | 25, hi => rfl
          | 26, hi => rfl
          | 27, hi => rfl
          | 28, hi => rfl
          | 29, hi => rfl
          | 30, hi => rfl
          | 31, hi => rfl
          | 32, hi => rfl
          | 33, hi => rfl
          | 34, hi => rfl
          | 35, hi => rfl
          | 36, hi => rfl
          | 37, hi => rfl
          | 38, hi => rfl
          | 39, hi => rfl
          | 40, hi => exact absurd hi (by decide)
          | i + 41, _ => rfl)
        (fun g i hT hi => by
          match i, hT, hi with
          | 0, _, hi => exact absurd hi (by decide)
          | 1, _, hi => exact absurd hi (by decide)
          | 2, _, hi => exact absurd hi (by decide)
          | 3, _, hi => exact absurd hi (by decide)
          | 4, _, hi => exact absurd hi (by decide)
          | 5, _, hi => exact absurd hi (by decide)
          | 6, _, hi => exact absurd hi (by decide)
          | 7, _, hi => exact absurd hi (by decide)
          | 8, _, hi => exact absurd hi (by decide)
          | 9, _, hi => exact absurd hi (by decide)
          | 10, _, hi => exact absurd hi (by decide)
          | 11, _, hi => exact absurd hi (by decide)
          | 12, _, hi => exact absurd hi (by decide)
          | 13, _, hi => exact absurd hi (by decide)
          | 14, _, hi => exact absurd hi (by decide)
          | 15, _, hi => exact absurd hi (by decide)
          | 16, _, hi => exact absurd hi (by decide)
          | 17, _, hi => exact absurd hi (by decide)
          | 18, _, hi => exact absurd hi (by decide)
          | 19, _, hi => exact absurd hi (by decide)
          | 20, _, hi => exact absurd hi (by decide)
          | 21, _, hi => exact absurd hi (by decide)
          | 22, _, hi => exact absurd hi (by decide)
          | 23, _, hi => exact absurd hi (by decide)
          | 24, _, hi => exact absurd hi (by decide)
          | 25, _, hi => exact absurd hi (by decide)
          | 26, _, hi => exact absurd hi (by decide)
          | 27, _, hi => exact absurd hi (by decide)
          | 28, _, hi => exact absurd hi (by decide)
          | 29, _, hi => exact absurd hi (by decide)
          | 30, _, hi => exact absurd hi (by decide)
          | 31, _, hi => exact absurd hi (by decide)
          | 32, _, hi => exact absurd hi (by decide)
          | 33, _, hi => exact absurd hi (by decide)
          | 34, _, hi => exact absurd hi (by decide)
          | 35, _, hi => exact absurd hi (by decide)
          | 36, _, hi => exact absurd hi (by decide)
          | 37, _, hi => exact absurd hi (by decide)
          | 38, _, hi => exact absurd hi (by decide)
          | 39, _, hi => exact absurd hi (by decide)
          | 40, _, hi => rfl
          | i + 41, h, _ => exact absurd h (by omega))
        (fun _ g x => w3.heap.size ≤ g ∧ x.heap[g]? = some (.cells #[.string ⟨#[]⟩, .string ⟨#[]⟩, .string ⟨#[]⟩, .string ⟨#[]⟩, .string ⟨#[]⟩] 199)) (fun _ _ _ _ h hB => ⟨h.1, blk_below h.2 hB⟩)
        (fun W' => Bw p w [(w1.heap.size, .cells #[.string dx, .string dy] 41), (gA, .cells #[.string x1, .string y1, .string s1] 43), (gB, .cells #[.string x2, .string y2, .string s2] 43), (w.heap.size + 1, .cells #[.string ⟨#[]⟩, .string ⟨#[]⟩, .string ⟨#[]⟩, .string ⟨#[]⟩, .string ⟨#[]⟩] 199), (w.heap.size, .cells #[.int .i64 i, .int .i64 j, .int .i64 side] 53)] W' ∧ w3.heap.size ≤ W'.heap.size)
        (⟨hw.drew, Nat.le_refl _⟩) ?_ ?_
      · intro i o hi ho Q' a w' hw hon hoff K hK
        match i, hi with
        | 0, _ =>
          obtain rfl := Option.some.inj ho
          clear ho
          have o0 : a.tmps[0]?.getD undef = .pointer (some ⟨p, 0, none⟩) := hoff 0 (by kernel_rfl)
          clear hon hoff
          rw [if_pos (by rfl)]
          go_simp
          exact hK _ _ rfl hw (Below.refl _ _)
        | 1, _ =>
          obtain rfl := Option.some.inj ho
          clear ho
          have o8 : a.tmps[8]?.getD undef = .pointer (some ⟨gA, 0, none⟩) := hoff 8 (by kernel_rfl)
          clear hon hoff
          rw [if_pos (by rfl)]
          go_simp
          exact hK _ _ rfl hw (Below.refl _ _)
        | 2, _ =>
          obtain rfl := Option.some.inj ho
          clear ho
          have o64 : a.tmps[64]?.getD undef = .pointer (some ⟨gA, 0, none⟩) := (Option.some.inj (hon 1 _ _ (by kernel_rfl) (by decide) rfl rfl rfl)).symm
          clear hon hoff
          rw [if_pos (by rfl)]
          go_simp
          exact hK _ _ rfl hw (Below.refl _ _)
        | 3, _ =>
          obtain rfl := Option.some.inj ho
          clear ho
          have o65 : a.tmps[65]?.getD undef = .pointer (some ⟨gA, 0, none⟩) := (Option.some.inj (hon 2 _ _ (by kernel_rfl) (by decide) rfl rfl rfl)).symm
          clear hon hoff
          rw [if_pos (by rfl)]
          have d1 := hw.1.cell 1 rfl 0 rfl
          have d2 := hw.1.cell 1 rfl 1 rfl
          have d3 := hw.1.cell 1 rfl 2 rfl
          have d4 := hw.1.cell 0 rfl 0 rfl
          have d5 := hw.1.cell 0 rfl 1 rfl
          go_simp
          exact hK _ _ rfl hw (Below.refl _ _)
        | 4, _ =>
          obtain rfl := Option.some.inj ho
          clear ho
          have o0 : a.tmps[0]?.getD undef = .pointer (some ⟨p, 0, none⟩) := hoff 0 (by kernel_rfl)
          clear hon hoff
          rw [if_pos (by rfl)]
          go_simp
          exact hK _ _ rfl hw (Below.refl _ _)
        | 5, _ =>
          obtain rfl := Option.some.inj ho
          clear ho
          have o12 : a.tmps[12]?.getD undef = .string tt := hoff 12 (by kernel_rfl)
          clear hon hoff
          rw [if_pos (by rfl)]
          go_simp
          exact hK _ _ rfl hw (Below.refl _ _)
        | 6, _ =>
          obtain rfl := Option.some.inj ho
          clear ho
          have o10 : a.tmps[10]?.getD undef = .pointer (some ⟨w1.heap.size, 0, none⟩) := hoff 10 (by kernel_rfl)
          clear hon hoff
          rw [if_pos (by rfl)]
          go_simp
          exact hK _ _ rfl hw (Below.refl _ _)
        | 7, _ =>
          obtain rfl := Option.some.inj ho
          clear ho
          have o69 : a.tmps[69]?.getD undef = .pointer (some ⟨w1.heap.size, 0, none⟩) := (Option.some.inj (hon 6 _ _ (by kernel_rfl) (by decide) rfl rfl rfl)).symm
          clear hon hoff
          rw [if_pos (by rfl)]
          have d1 := hw.1.cell 1 rfl 0 rfl
          have d2 := hw.1.cell 1 rfl 1 rfl
          have d3 := hw.1.cell 1 rfl 2 rfl
          have d4 := hw.1.cell 0 rfl 0 rfl
          have d5 := hw.1.cell 0 rfl 1 rfl
          go_simp
          exact hK _ _ rfl hw (Below.refl _ _)
        | 8, _ =>
          obtain rfl := Option.some.inj ho
          clear ho
          have o67 : a.tmps[67]?.getD undef = .pointer (some ⟨p, 0, none⟩) := (Option.some.inj (hon 4 _ _ (by kernel_rfl) (by decide) rfl rfl rfl)).symm
          have o68 : a.tmps[68]?.getD undef = .string tt := (Option.some.inj (hon 5 _ _ (by kernel_rfl) (by decide) rfl rfl rfl)).symm
          have o70 : a.tmps[70]?.getD undef = .string dx := (Option.some.inj (hon 7 _ _ (by kernel_rfl) (by decide) rfl rfl rfl)).symm
          clear hon hoff
          rw [if_pos (by rfl)]
          go_simp
          refine (H5 _ hw.1.s).mono ?_
          rintro e v1 ⟨rfl, b1⟩
          exact hK _ _ rfl ⟨hw.1.step b1, Nat.le_trans hw.2 b1.size⟩ b1
        | 9, _ =>
          obtain rfl := Option.some.inj ho
          clear ho
          have o63 : a.tmps[63]?.getD undef = .pointer (some ⟨p, 0, none⟩) := (Option.some.inj (hon 0 _ _ (by kernel_rfl) (by decide) rfl rfl rfl)).symm
          have o66 : a.tmps[66]?.getD undef = .string x1 := (Option.some.inj (hon 3 _ _ (by kernel_rfl) (by decide) rfl rfl rfl)).symm
          have o71 : a.tmps[71]?.getD undef = .string ux := (Option.some.inj (hon 8 _ _ (by kernel_rfl) (by decide) rfl rfl rfl)).symm
          clear hon hoff
          rw [if_pos (by rfl)]
          go_simp
          refine (H6 _ hw.1.s).mono ?_
          rintro e v1 ⟨rfl, b1⟩
          exact hK _ _ rfl ⟨hw.1.step b1, Nat.le_trans hw.2 b1.size⟩ b1
        | 10, _ =>
          obtain rfl := Option.some.inj ho
          clear ho
          have o0 : a.tmps[0]?.getD undef = .pointer (some ⟨p, 0, none⟩) := hoff 0 (by kernel_rfl)
          clear hon hoff
          rw [if_pos (by rfl)]
          go_simp
          exact hK _ _ rfl hw (Below.refl _ _)
        | 11, _ =>
          obtain rfl := Option.some.inj ho
          clear ho
          have o8 : a.tmps[8]?.getD undef = .pointer (some ⟨gA, 0, none⟩) := hoff 8 (by kernel_rfl)
          clear hon hoff
          rw [if_pos (by rfl)]
          go_simp
          exact hK _ _ rfl hw (Below.refl _ _)
        | 12, _ =>
          obtain rfl := Option.some.inj ho
          clear ho
          have o74 : a.tmps[74]?.getD undef = .pointer (some ⟨gA, 0, none⟩) := (Option.some.inj (hon 11 _ _ (by kernel_rfl) (by decide) rfl rfl rfl)).symm
          clear hon hoff
          rw [if_pos (by rfl)]
          go_simp
          exact hK _ _ rfl hw (Below.refl _ _)
        | 13, _ =>
          obtain rfl := Option.some.inj ho
          clear ho
          have o75 : a.tmps[75]?.getD undef = .pointer (some ⟨gA, 1, none⟩) := (Option.some.inj (hon 12 _ _ (by kernel_rfl) (by decide) rfl rfl rfl)).symm
          clear hon hoff
          rw [if_pos (by rfl)]
          have d1 := hw.1.cell 1 rfl 0 rfl
          have d2 := hw.1.cell 1 rfl 1 rfl
          have d3 := hw.1.cell 1 rfl 2 rfl
          have d4 := hw.1.cell 0 rfl 0 rfl
          have d5 := hw.1.cell 0 rfl 1 rfl
          go_simp
          exact hK _ _ rfl hw (Below.refl _ _)
        | 14, _ =>
          obtain rfl := Option.some.inj ho
          clear ho
          have o0 : a.tmps[0]?.getD undef = .pointer (some ⟨p, 0, none⟩) := hoff 0 (by kernel_rfl)
          clear hon hoff
          rw [if_pos (by rfl)]
          go_simp
          exact hK _ _ rfl hw (Below.refl _ _)
        | 15, _ =>
          obtain rfl := Option.some.inj ho
          clear ho
          have o12 : a.tmps[12]?.getD undef = .string tt := hoff 12 (by kernel_rfl)
          clear hon hoff
          rw [if_pos (by rfl)]
          go_simp
          exact hK _ _ rfl hw (Below.refl _ _)
        | 16, _ =>
          obtain rfl := Option.some.inj ho
          clear ho
          have o10 : a.tmps[10]?.getD undef = .pointer (some ⟨w1.heap.size, 0, none⟩) := hoff 10 (by kernel_rfl)
          clear hon hoff
          rw [if_pos (by rfl)]
          go_simp
          exact hK _ _ rfl hw (Below.refl _ _)
        | 17, _ =>
          obtain rfl := Option.some.inj ho
          clear ho
          have o79 : a.tmps[79]?.getD undef = .pointer (some ⟨w1.heap.size, 1, none⟩) := (Option.some.inj (hon 16 _ _ (by kernel_rfl) (by decide) rfl rfl rfl)).symm
          clear hon hoff
          rw [if_pos (by rfl)]
          have d1 := hw.1.cell 1 rfl 0 rfl
          have d2 := hw.1.cell 1 rfl 1 rfl
          have d3 := hw.1.cell 1 rfl 2 rfl
          have d4 := hw.1.cell 0 rfl 0 rfl
          have d5 := hw.1.cell 0 rfl 1 rfl
          go_simp
          exact hK _ _ rfl hw (Below.refl _ _)
        | 18, _ =>
          obtain rfl := Option.some.inj ho
          clear ho
          have o77 : a.tmps[77]?.getD undef = .pointer (some ⟨p, 0, none⟩) := (Option.some.inj (hon 14 _ _ (by kernel_rfl) (by decide) rfl rfl rfl)).symm
          have o78 : a.tmps[78]?.getD undef = .string tt := (Option.some.inj (hon 15 _ _ (by kernel_rfl) (by decide) rfl rfl rfl)).symm
          have o80 : a.tmps[80]?.getD undef = .string dy := (Option.some.inj (hon 17 _ _ (by kernel_rfl) (by decide) rfl rfl rfl)).symm
          clear hon hoff
          rw [if_pos (by rfl)]
          go_simp
          refine (H7 _ hw.1.s).mono ?_
          rintro e v1 ⟨rfl, b1⟩
          exact hK _ _ rfl ⟨hw.1.step b1, Nat.le_trans hw.2 b1.size⟩ b1
        | 19, _ =>
          obtain rfl := Option.some.inj ho
          clear ho
          have o73 : a.tmps[73]?.getD undef = .pointer (some ⟨p, 0, none⟩) := (Option.some.inj (hon 10 _ _ (by kernel_rfl) (by decide) rfl rfl rfl)).symm
          have o76 : a.tmps[76]?.getD undef = .string y1 := (Option.some.inj (hon 13 _ _ (by kernel_rfl) (by decide) rfl rfl rfl)).symm
          have o81 : a.tmps[81]?.getD undef = .string uy := (Option.some.inj (hon 18 _ _ (by kernel_rfl) (by decide) rfl rfl rfl)).symm
          clear hon hoff
          rw [if_pos (by rfl)]
          go_simp
          refine (H8 _ hw.1.s).mono ?_
          rintro e v1 ⟨rfl, b1⟩
          exact hK _ _ rfl ⟨hw.1.step b1, Nat.le_trans hw.2 b1.size⟩ b1
        | 20, _ =>
          obtain rfl := Option.some.inj ho
          clear ho
          have o72 : a.tmps[72]?.getD undef = .string fx := (Option.some.inj (hon 9 _ _ (by kernel_rfl) (by decide) rfl rfl rfl)).symm
          have o82 : a.tmps[82]?.getD undef = .string fy := (Option.some.inj (hon 19 _ _ (by kernel_rfl) (by decide) rfl rfl rfl)).symm
          clear hon hoff
          rw [if_pos (by rfl)]
          go_simp
          exact hK _ _ rfl hw (Below.refl _ _)
        | 21, _ =>
          obtain rfl := Option.some.inj ho
          clear ho
          have o0 : a.tmps[0]?.getD undef = .pointer (some ⟨p, 0, none⟩) := hoff 0 (by kernel_rfl)
          clear hon hoff
          rw [if_pos (by rfl)]
          go_simp
          exact hK _ _ rfl hw (Below.refl _ _)
        | 22, _ =>
          obtain rfl := Option.some.inj ho
          clear ho
          have o10 : a.tmps[10]?.getD undef = .pointer (some ⟨w1.heap.size, 0, none⟩) := hoff 10 (by kernel_rfl)
          clear hon hoff
          rw [if_pos (by rfl)]
          go_simp
          exact hK _ _ rfl hw (Below.refl _ _)
        | 23, _ =>
          obtain rfl := Option.some.inj ho
          clear ho
          have o85 : a.tmps[85]?.getD undef = .pointer (some ⟨w1.heap.size, 1, none⟩) := (Option.some.inj (hon 22 _ _ (by kernel_rfl) (by decide) rfl rfl rfl)).symm
          clear hon hoff
          rw [if_pos (by rfl)]
          have d1 := hw.1.cell 1 rfl 0 rfl
          have d2 := hw.1.cell 1 rfl 1 rfl
          have d3 := hw.1.cell 1 rfl 2 rfl
          have d4 := hw.1.cell 0 rfl 0 rfl
          have d5 := hw.1.cell 0 rfl 1 rfl
          go_simp
          exact hK _ _ rfl hw (Below.refl _ _)
        | 24, _ =>
          obtain rfl := Option.some.inj ho
          clear ho
          have o84 : a.tmps[84]?.getD undef = .pointer (some ⟨p, 0, none⟩) := (Option.some.inj (hon 21 _ _ (by kernel_rfl) (by decide) rfl rfl rfl)).symm
          have o86 : a.tmps[86]?.getD undef = .string dy := (Option.some.inj (hon 23 _ _ (by kernel_rfl) (by decide) rfl rfl rfl)).symm
          clear hon hoff
          rw [if_pos (by rfl)]
          go_simp
          refine (H9 _ hw.1.s).mono ?_
          rintro e v1 ⟨rfl, b1⟩
          exact hK _ _ rfl ⟨hw.1.step b1, Nat.le_trans hw.2 b1.size⟩ b1
        | 25, _ =>
          obtain rfl := Option.some.inj ho
          clear ho
          have o10 : a.tmps[10]?.getD undef = .pointer (some ⟨w1.heap.size, 0, none⟩) := hoff 10 (by kernel_rfl)
          clear hon hoff
          rw [if_pos (by rfl)]
          go_simp
          exact hK _ _ rfl hw (Below.refl _ _)
        | 26, _ =>
          obtain rfl := Option.some.inj ho
          clear ho
          have o88 : a.tmps[88]?.getD undef = .pointer (some ⟨w1.heap.size, 0, none⟩) := (Option.some.inj (hon 25 _ _ (by kernel_rfl) (by decide) rfl rfl rfl)).symm
          clear hon hoff
          rw [if_pos (by rfl)]
          have d1 := hw.1.cell 1 rfl 0 rfl
          have d2 := hw.1.cell 1 rfl 1 rfl
          have d3 := hw.1.cell 1 rfl 2 rfl
          have d4 := hw.1.cell 0 rfl 0 rfl
          have d5 := hw.1.cell 0 rfl 1 rfl
          go_simp
          exact hK _ _ rfl hw (Below.refl _ _)
        | 27, _ =>
          obtain rfl := Option.some.inj ho
          clear ho
          have o87 : a.tmps[87]?.getD undef = .string ny := (Option.some.inj (hon 24 _ _ (by kernel_rfl) (by decide) rfl rfl rfl)).symm
          have o89 : a.tmps[89]?.getD undef = .string dx := (Option.some.inj (hon 26 _ _ (by kernel_rfl) (by decide) rfl rfl rfl)).symm
          clear hon hoff
          rw [if_pos (by rfl)]
          go_simp
          exact hK _ _ rfl hw (Below.refl _ _)
        | 28, _ =>
          obtain rfl := Option.some.inj ho
          clear ho
          have o0 : a.tmps[0]?.getD undef = .pointer (some ⟨p, 0, none⟩) := hoff 0 (by kernel_rfl)
          clear hon hoff
          rw [if_pos (by rfl)]
          go_simp
          exact hK _ _ rfl hw (Below.refl _ _)
        | 29, _ =>
          obtain rfl := Option.some.inj ho
          clear ho
          have o0 : a.tmps[0]?.getD undef = .pointer (some ⟨p, 0, none⟩) := hoff 0 (by kernel_rfl)
          clear hon hoff
          rw [if_pos (by rfl)]
          go_simp
          exact hK _ _ rfl hw (Below.refl _ _)
        | 30, _ =>
          obtain rfl := Option.some.inj ho
          clear ho
          have o8 : a.tmps[8]?.getD undef = .pointer (some ⟨gA, 0, none⟩) := hoff 8 (by kernel_rfl)
          clear hon hoff
          rw [if_pos (by rfl)]
          go_simp
          exact hK _ _ rfl hw (Below.refl _ _)
        | 31, _ =>
          obtain rfl := Option.some.inj ho
          clear ho
          have o93 : a.tmps[93]?.getD undef = .pointer (some ⟨gA, 2, none⟩) := (Option.some.inj (hon 30 _ _ (by kernel_rfl) (by decide) rfl rfl rfl)).symm
          clear hon hoff
          rw [if_pos (by rfl)]
          have d1 := hw.1.cell 1 rfl 0 rfl
          have d2 := hw.1.cell 1 rfl 1 rfl
          have d3 := hw.1.cell 1 rfl 2 rfl
          have d4 := hw.1.cell 0 rfl 0 rfl
          have d5 := hw.1.cell 0 rfl 1 rfl
          go_simp
          exact hK _ _ rfl hw (Below.refl _ _)
        | 32, _ =>
          obtain rfl := Option.some.inj ho
          clear ho
          have o11 : a.tmps[11]?.getD undef = .string fr := hoff 11 (by kernel_rfl)
          clear hon hoff
          rw [if_pos (by rfl)]
          go_simp
          exact hK _ _ rfl hw (Below.refl _ _)
        | 33, _ =>
          obtain rfl := Option.some.inj ho
          clear ho
          have o92 : a.tmps[92]?.getD undef = .pointer (some ⟨p, 0, none⟩) := (Option.some.inj (hon 29 _ _ (by kernel_rfl) (by decide) rfl rfl rfl)).symm
          have o94 : a.tmps[94]?.getD undef = .string s1 := (Option.some.inj (hon 31 _ _ (by kernel_rfl) (by decide) rfl rfl rfl)).symm
          have o95 : a.tmps[95]?.getD undef = .string fr := (Option.some.inj (hon 32 _ _ (by kernel_rfl) (by decide) rfl rfl rfl)).symm
          clear hon hoff
          rw [if_pos (by rfl)]
          go_simp
          refine (H10 _ hw.1.s).mono ?_
          rintro e v1 ⟨rfl, b1⟩
          exact hK _ _ rfl ⟨hw.1.step b1, Nat.le_trans hw.2 b1.size⟩ b1
        | 34, _ =>
          obtain rfl := Option.some.inj ho
          clear ho
          have o0 : a.tmps[0]?.getD undef = .pointer (some ⟨p, 0, none⟩) := hoff 0 (by kernel_rfl)
          clear hon hoff
          rw [if_pos (by rfl)]
          go_simp
          exact hK _ _ rfl hw (Below.refl _ _)
        | 35, _ =>
          obtain rfl := Option.some.inj ho
          clear ho
          have o12 : a.tmps[12]?.getD undef = .string tt := hoff 12 (by kernel_rfl)
          clear hon hoff
          rw [if_pos (by rfl)]
          go_simp
          exact hK _ _ rfl hw (Below.refl _ _)
        | 36, _ =>
          obtain rfl := Option.some.inj ho
          clear ho
          have o12 : a.tmps[12]?.getD undef = .string tt := hoff 12 (by kernel_rfl)
          clear hon hoff
          rw [if_pos (by rfl)]
          go_simp
          exact hK _ _ rfl hw (Below.refl _ _)
        | 37, _ =>
          obtain rfl := Option.some.inj ho
          clear ho
          have o97 : a.tmps[97]?.getD undef = .pointer (some ⟨p, 0, none⟩) := (Option.some.inj (hon 34 _ _ (by kernel_rfl) (by decide) rfl rfl rfl)).symm
          have o98 : a.tmps[98]?.getD undef = .string tt := (Option.some.inj (hon 35 _ _ (by kernel_rfl) (by decide) rfl rfl rfl)).symm
          have o99 : a.tmps[99]?.getD undef = .string tt := (Option.some.inj (hon 36 _ _ (by kernel_rfl) (by decide) rfl rfl rfl)).symm
          clear hon hoff
          rw [if_pos (by rfl)]
          go_simp
          refine (H11 _ hw.1.s).mono ?_
          rintro e v1 ⟨rfl, b1⟩
          exact hK _ _ rfl ⟨hw.1.step b1, Nat.le_trans hw.2 b1.size⟩ b1
        | 38, _ =>
          obtain rfl := Option.some.inj ho
          clear ho
          have o91 : a.tmps[91]?.getD undef = .pointer (some ⟨p, 0, none⟩) := (Option.some.inj (hon 28 _ _ (by kernel_rfl) (by decide) rfl rfl rfl)).symm
          have o96 : a.tmps[96]?.getD undef = .string sf := (Option.some.inj (hon 33 _ _ (by kernel_rfl) (by decide) rfl rfl rfl)).symm
          have o100 : a.tmps[100]?.getD undef = .string tq := (Option.some.inj (hon 37 _ _ (by kernel_rfl) (by decide) rfl rfl rfl)).symm
          clear hon hoff
          rw [if_pos (by rfl)]
          go_simp
          refine (H12 _ hw.1.s).mono ?_
          rintro e v1 ⟨rfl, b1⟩
          exact hK _ _ rfl ⟨hw.1.step b1, Nat.le_trans hw.2 b1.size⟩ b1
        | 39, _ =>
          obtain rfl := Option.some.inj ho
          clear ho
          have o83 : a.tmps[83]?.getD undef = .agg #[.string fx, .string fy] := (Option.some.inj (hon 20 _ _ (by kernel_rfl) (by decide) rfl rfl rfl)).symm
          have o90 : a.tmps[90]?.getD undef = .agg #[.string ny, .string dx] := (Option.some.inj (hon 27 _ _ (by kernel_rfl) (by decide) rfl rfl rfl)).symm
          have o101 : a.tmps[101]?.getD undef = .string hh := (Option.some.inj (hon 38 _ _ (by kernel_rfl) (by decide) rfl rfl rfl)).symm
          clear hon hoff
          rw [if_pos (by rfl)]
          go_simp
          exact hK _ _ rfl hw (Below.refl _ _)
        | 40, _ =>
          obtain rfl := Option.some.inj ho
          clear ho
          clear hon hoff
          rw [if_pos (by rfl)]
          go_simp
          exact hK _ _ (Eq.mpr (if_pos rfl) ⟨rfl, by simp, hw.2, heap_alloc_new _ _⟩) ⟨hw.1.step ((Below.refl _ _).alloc (Nat.le_refl _) _), Nat.le_trans hw.2 (by simp)⟩ ((Below.refl _ _).alloc (Nat.le_refl _) _)
        | i + 41, h => exact absurd h (by omega)
      · intro g w4 hw hg hne9
        clear hne9
        obtain ⟨⟨hg1, hg2⟩, hg3⟩ := hg 40 (by decide) rfl (by kernel_rfl)
        simp only [List.drop_succ_cons, List.drop_zero, Reg.puts, Act.put, List.setIfInBounds_toArray, List.set_cons_succ, List.set_cons_zero]
        clear H5 H6 H7 H8 H9 H10 H11 H12
        have hltw : ∀ q ∈ [(w1.heap.size, Obj.cells #[.string dx, .string dy] 41), (gA, .cells #[.string x1, .string y1, .string s1] 43), (gB, .cells #[.string x2, .string y2, .string s2] 43), (w.heap.size + 1, .cells #[.string ⟨#[]⟩, .string ⟨#[]⟩, .string ⟨#[]⟩, .string ⟨#[]⟩, .string ⟨#[]⟩] 199), (w.heap.size, .cells #[.int .i64 i, .int .i64 j, .int .i64 side] 53)], q.1 < w3.heap.size := hlts
        have y4 := hw.1.add hg2
        have t0 := y4.cell 0 rfl 0 rfl
        have t1 := y4.cell 0 rfl 1 rfl
        have t2 := y4.cell 0 rfl 2 rfl
        have t3 := y4.cell 0 rfl 3 rfl
        have t4 := y4.cell 0 rfl 4 rfl
        have f0 := y4.frozen 0 rfl 0
        have f1 := y4.frozen 0 rfl 1
        have f2' := y4.frozen 0 rfl 2
        have f3 := y4.frozen 0 rfl 3
        have f4 := y4.frozen 0 rfl 4
        have y5 : Bw p w [(g 40, .cells #[.string fx, .string fy, .string ny, .string dx, .string hh] 199), (w1.heap.size, .cells #[.string dx, .string dy] 41), (gA, .cells #[.string x1, .string y1, .string s1] 43), (gB, .cells #[.string x2, .string y2, .string s2] 43), (w.heap.size + 1, .cells #[.string ⟨#[]⟩, .string ⟨#[]⟩, .string ⟨#[]⟩, .string ⟨#[]⟩, .string ⟨#[]⟩] 199), (w.heap.size, .cells #[.int .i64 i, .int .i64 j, .int .i64 side] 53)] (((((w4.setCell ⟨g 40, 0, none⟩ (.string fx)).setCell ⟨g 40, 1, none⟩ (.string fy)).setCell ⟨g 40, 2, none⟩ (.string ny)).setCell ⟨g 40, 3, none⟩ (.string dx)).setCell ⟨g 40, 4, none⟩ (.string hh)) :=
          ((((y4.set 0 rfl (by omega) (hne_of hltw hg1) 0 (.string fx)).set 0 rfl (by omega) (hne_of hltw hg1) 1 (.string fy)).set 0 rfl (by omega) (hne_of hltw hg1) 2 (.string ny)).set 0 rfl (by omega) (hne_of hltw hg1) 3 (.string dx)).set 0 rfl (by omega) (hne_of hltw hg1) 4 (.string hh)
        rename_i K2 hK2
        have HK2 := Lib.hid hK2
        clear hK2
        go_wp2_with fail
        clear t0 t1 t2 t3 t4 f0 f1 f2' f3 f4 y4
        revert y5
        generalize ((((w4.setCell ⟨g 40, 0, none⟩ (.string fx)).setCell ⟨g 40, 1, none⟩ (.string fy)).setCell ⟨g 40, 2, none⟩ (.string ny)).setCell ⟨g 40, 3, none⟩ (.string dx)).setCell ⟨g 40, 4, none⟩ (.string hh) = Y5
        intro y5
        refine HK2.out _ _ ?_
        have e2 := y5.cell 5 rfl 2 rfl
        go_wp2_with fail
        clear e2 hw
        refine Reg.walk (by kernel_rfl) 8 (by kernel_rfl) (by decide) (by kernel_rfl) (fun _ => false) (fun _ => [(some 106, .pointer (some ⟨w1.heap.size, 1, none⟩)), (some 107, .string dy), (some 108, .pointer (some ⟨p, 0, none⟩)), (some 109, .pointer (some ⟨w1.heap.size, 0, none⟩)), (some 110, .string dx), (some 111, .string nx), (some 112, .agg #[.string dy, .string nx]), (some 113, .pointer (some ⟨(g 40), 2, none⟩))])
          (fun _ => rfl) (fun _ _ _ => rfl) (fun _ _ _ h => by cases h) (fun _ _ _ => True) (fun _ _ _ _ _ _ => trivial)
          (fun W' => Bw p w [(g 40, .cells #[.string fx, .string fy, .string ny, .string dx, .string hh] 199), (w1.heap.size, .cells #[.string dx, .string dy] 41), (gA, .cells #[.string x1, .string y1, .string s1] 43), (gB, .cells #[.string x2, .string y2, .string s2] 43), (w.heap.size + 1, .cells #[.string ⟨#[]⟩, .string ⟨#[]⟩, .string ⟨#[]⟩, .string ⟨#[]⟩, .string ⟨#[]⟩] 199), (w.heap.size, .cells #[.int .i64 i, .int .i64 j, .int .i64 side] 53)] W')
          (y5.drew) ?_ ?_
        · intro i o hi ho Q' a w' hw hon hoff K hK
          match i, hi with
          | 0, _ =>
            obtain rfl := Option.some.inj ho
            clear ho
            have o10 : a.tmps[10]?.getD undef = .pointer (some ⟨w1.heap.size, 0, none⟩) := hoff 10 (by kernel_rfl)
            clear hon hoff
            rw [if_pos (by rfl)]
            go_simp
            exact hK _ _ rfl hw (Below.refl _ _)
          | 1, _ =>
            obtain rfl := Option.some.inj ho
            clear ho
            have o106 : a.tmps[106]?.getD undef = .pointer (some ⟨w1.heap.size, 1, none⟩) := (Option.some.inj (hon 0 _ _ (by kernel_rfl) (by decide) rfl rfl rfl)).symm
            clear hon hoff
            rw [if_pos (by rfl)]
            have d4 := hw.cell 1 rfl 0 rfl
            have d5 := hw.cell 1 rfl 1 rfl
            go_simp
            exact hK _ _ rfl hw (Below.refl _ _)
          | 2, _ =>
            obtain rfl := Option.some.inj ho
            clear ho
            have o0 : a.tmps[0]?.getD undef = .pointer (some ⟨p, 0, none⟩) := hoff 0 (by kernel_rfl)
            clear hon hoff
            rw [if_pos (by rfl)]
            go_simp
            exact hK _ _ rfl hw (Below.refl _ _)
          | 3, _ =>
            obtain rfl := Option.some.inj ho
            clear ho
            have o10 : a.tmps[10]?.getD undef = .pointer (some ⟨w1.heap.size, 0, none⟩) := hoff 10 (by kernel_rfl)
            clear hon hoff
            rw [if_pos (by rfl)]
            go_simp
            exact hK _ _ rfl hw (Below.refl _ _)
          | 4, _ =>
            obtain rfl := Option.some.inj ho
            clear ho
            have o109 : a.tmps[109]?.getD undef = .pointer (some ⟨w1.heap.size, 0, none⟩) := (Option.some.inj (hon 3 _ _ (by kernel_rfl) (by decide) rfl rfl rfl)).symm
            clear hon hoff
            rw [if_pos (by rfl)]
            have d4 := hw.cell 1 rfl 0 rfl
            have d5 := hw.cell 1 rfl 1 rfl
            go_simp
            exact hK _ _ rfl hw (Below.refl _ _)
          | 5, _ =>
            obtain rfl := Option.some.inj ho
            clear ho
            have o108 : a.tmps[108]?.getD undef = .pointer (some ⟨p, 0, none⟩) := (Option.some.inj (hon 2 _ _ (by kernel_rfl) (by decide) rfl rfl rfl)).symm
            have o110 : a.tmps[110]?.getD undef = .string dx := (Option.some.inj (hon 4 _ _ (by kernel_rfl) (by decide) rfl rfl rfl)).symm
            clear hon hoff
            rw [if_pos (by rfl)]
            go_simp
            refine (H13 _ hw.s).mono ?_
            rintro e v1 ⟨rfl, b1⟩
            exact hK _ _ rfl (hw.step b1) b1
          | 6, _ =>
            obtain rfl := Option.some.inj ho
            clear ho
            have o107 : a.tmps[107]?.getD undef = .string dy := (Option.some.inj (hon 1 _ _ (by kernel_rfl) (by decide) rfl rfl rfl)).symm
            have o111 : a.tmps[111]?.getD undef = .string nx := (Option.some.inj (hon 5 _ _ (by kernel_rfl) (by decide) rfl rfl rfl)).symm
            clear hon hoff
            rw [if_pos (by rfl)]
            go_simp
            exact hK _ _ rfl hw (Below.refl _ _)
          | 7, _ =>
            obtain rfl := Option.some.inj ho
            clear ho
            have o13 : a.tmps[13]?.getD undef = .pointer (some ⟨(g 40), 0, none⟩) := hoff 13 (by kernel_rfl)
            clear hon hoff
            rw [if_pos (by rfl)]
            go_simp
            exact hK _ _ rfl hw (Below.refl _ _)
          | i + 8, h => exact absurd h (by omega)
        · intro g2 w5 hw hx1 hx2
          clear H13 hx1 hx2
          have u2 := hw.cell 0 rfl 2 rfl
          have u3 := hw.cell 0 rfl 3 rfl
          have v2 := hw.frozen 0 rfl 2
          have v3 := hw.frozen 0 rfl 3
          have y6 : Bw p w [(g 40, .cells #[.string fx, .string fy, .string dy, .string nx, .string hh] 199), (w1.heap.size, .cells #[.string dx, .string dy] 41), (gA, .cells #[.string x1, .string y1, .string s1] 43), (gB, .cells #[.string x2, .string y2, .string s2] 43), (w.heap.size + 1, .cells #[.string ⟨#[]⟩, .string ⟨#[]⟩, .string ⟨#[]⟩, .string ⟨#[]⟩, .string ⟨#[]⟩] 199), (w.heap.size, .cells #[.int .i64 i, .int .i64 j, .int .i64 side] 53)] ((w5.setCell ⟨g 40, 2, none⟩ (.string dy)).setCell ⟨g 40, 3, none⟩ (.string nx)) :=
            (hw.set 0 rfl (by omega) (hne_of hltw hg1) 2 (.string dy)).set 0 rfl (by omega) (hne_of hltw hg1) 3 (.string nx)
          simp only [List.drop_succ_cons, List.drop_zero, Reg.puts, Act.put, List.setIfInBounds_toArray, List.set_cons_succ, List.set_cons_zero]
          rename_i K3 hK3
          have HK3 := Lib.hid hK3
          clear hK3
          go_wp2_with fail
          clear u2 u3 v2 v3
          revert y6
          generalize (w5.setCell ⟨g 40, 2, none⟩ (.string dy)).setCell ⟨g 40, 3, none⟩ (.string nx) = Y6
          intro y6
          refine HK3.out _ _ ?_
          go_wp2_with fail
          have d0 := y6.cell 0 rfl 0 rfl
          have d1 := y6.cell 0 rfl 1 rfl
          have d2 := y6.cell 0 rfl 2 rfl
          have d3 := y6.cell 0 rfl 3 rfl
          have d4 := y6.cell 0 rfl 4 rfl
          have d5 := y6.cell 5 rfl 2 rfl
          have d6 := y6.s.cell
          have r0 := y6.cell 4 rfl 0 rfl
          have q0 := y6.frozen 4 rfl 0
          have r1 := y6.cell 4 rfl 1 rfl
          have q1 := y6.frozen 4 rfl 1
          have r2 := y6.cell 4 rfl 2 rfl
          have q2 := y6.frozen 4 rfl 2
          have r3 := y6.cell 4 rfl 3 rfl
          have q3 := y6.frozen 4 rfl 3
          have r4 := y6.cell 4 rfl 4 rfl
          have q4 := y6.frozen 4 rfl 4
          have m1 : w.heap.size + 1 ≠ g 40 := by have := hltw (w.heap.size + 1, _) (by exact List.Mem.tail _ (List.Mem.tail _ (List.Mem.tail _ (List.Mem.head _)))); simp only at this; omega
          have m2 : w.heap.size + 1 ≠ p := by have := y6.l; omega
          clear hltw hlts hlow hg1 hg2 hg3 y3
          cases bb
          · simp only [Bool.not_false, Bool.false_and] at hb1 ⊢
            have hb2 : ((hh[0].toNat : Int) != 45) = false := by rw [bne, hb1]; rfl
            have hb3 : decide ((hh[0].toNat : Int) = 45) = true := by rw [← hb1]; rfl
            go_region
            go_wp2_with fail
            try simp only [Exit.then]
            refine bodyPost_ret (v := .tuple #[.agg #[.string fx, .string fy, .string dy, .string nx, .string hh], .bool false]) ?_ rfl ⟨rfl, Below.drew (((((y6.b.setCell (p := ⟨w.heap.size + 1, 0, none⟩) (by simp) _).setCell (p := ⟨w.heap.size + 1, 1, none⟩) (by simp) _).setCell (p := ⟨w.heap.size + 1, 2, none⟩) (by simp) _).setCell (p := ⟨w.heap.size + 1, 3, none⟩) (by simp) _).setCell (p := ⟨w.heap.size + 1, 4, none⟩) (by simp) _)⟩
            simp [results, Tryz.f137, go_sem, r0, r1, r2, r3, r4]
          · simp only [Bool.not_true, Bool.true_and] at hb1 ⊢
            have hb2 : ((hh[0].toNat : Int) != 45) = true := by rw [bne, hb1]; rfl
            have hb3 : decide ((hh[0].toNat : Int) = 45) = false := by rw [← hb1]; rfl
            go_region_held3 (fun m => m.cell? ⟨g 40, 0, none⟩ = some (.string fx) ∧ m.cell? ⟨g 40, 1, none⟩ = some (.string fy) ∧ m.cell? ⟨g 40, 2, none⟩ = some (.string dy) ∧ m.cell? ⟨g 40, 3, none⟩ = some (.string nx) ∧ m.cell? ⟨g 40, 4, none⟩ = some (.string hh) ∧ m.cell? ⟨w.heap.size, 2, none⟩ = some (.int .i64 side) ∧ m.cell? ⟨p, 0, none⟩ = some (.int .i64 0)) (go_keep) (fail)
            go_wp2_with fail
            try simp only [Exit.then]
            refine bodyPost_ret (v := .tuple #[.agg #[.string fx, .string fy, .string dy, .string nx, .string hh], .bool (zz == qq)]) ?_ rfl ⟨rfl, Below.drew (((((y6.b.setCell (p := ⟨w.heap.size + 1, 0, none⟩) (by simp) _).setCell (p := ⟨w.heap.size + 1, 1, none⟩) (by simp) _).setCell (p := ⟨w.heap.size + 1, 2, none⟩) (by simp) _).setCell (p := ⟨w.heap.size + 1, 3, none⟩) (by simp) _).setCell (p := ⟨w.heap.size + 1, 4, none⟩) (by simp) _)⟩
            simp [results, Tryz.f137, go_sem, r0, r1, r2, r3, r4]
  clear HK hfr Hless Hdot H1 H2 H3 H4 H5 H6 H7 H8 H9 H10 H11 H12 H13 hb1 hz hq hpos hneg
  have n0 := World.new_ne W _ c0
  have n1 := World.new_ne W _ a1
  have hlt := x0.lt (w.heap.size + 1, _) (by exact List.mem_cons_self)
  simp only at n0 n1 hlt
  go_region_held3 (fun m => m.cell? ⟨w.heap.size, 0, none⟩ = some (.int .i64 i) ∧ m.cell? ⟨w.heap.size, 1, none⟩ = some (.int .i64 j) ∧ m.cell? ⟨b, i * 3, none⟩ = some (.string x1) ∧ m.cell? ⟨b, i * 3 + 1, none⟩ = some (.string y1) ∧ m.cell? ⟨b, i * 3 + 2, none⟩ = some (.string s1) ∧ m.cell? ⟨b, j * 3, none⟩ = some (.string x2) ∧ m.cell? ⟨b, j * 3 + 1, none⟩ = some (.string y2) ∧ m.cell? ⟨b, j * 3 + 2, none⟩ = some (.string s2)) (go_keep) (fail)
  all_goals
    show KK _ _
    have z1 := x0.new (.cells #[.string x1, .string y1, .string s1] 43)
    have z2 := z1.new (.cells #[.string x2, .string y2, .string s2] 43)
    have z3 := x0.new (.cells #[.string x2, .string y2, .string s2] 43)
    have z4 := z3.new (.cells #[.string x1, .string y1, .string s1] 43)
    rw [World.size_alloc] at z2 z4
    first
      | exact hcont _ _ _ hlt (by omega) (z2.drop (by intro q hq; simp only [List.mem_cons, List.not_mem_nil, or_false] at hq ⊢; rcases hq with rfl | rfl | rfl | rfl <;> simp)).drew
      | exact hcont _ _ _ (by omega) hlt (z4.drop (by intro q hq; simp only [List.mem_cons, List.not_mem_nil, or_false] at hq ⊢; rcases hq with rfl | rfl | rfl | rfl <;> simp)).drew
end Go.Proofs.YtdknneofiefieaaGreatDoor
