/-
  InodePoints: the pointer to any block is the document's, or refused; and whether any pointer points to any block is as it says. For every input.
-/
import Derived.Test.YtmabdbleakolbaaDoorInodeL
namespace Go.Proofs.YtmabdbleakolbaaDoor
open Go.ChangeShapes Go.WideShapes Go.ChangeAt Go.RowKit

set_option maxRecDepth 100000 in
set_option maxHeartbeats 8000000 in
theorem inodePoints_walk (w : World) (z : Int) (v : Value) (l : List UInt8) (pa : Int) (s : Nat) (hH : Halves w) (h : Bs w w.heap.size v l) :
    Calls Tryd.prog 6 #[.int .i64 z, v, .agg #[.int .i64 pa, .int .u32 (s : Int)]] w fun e w' => e = .returned (.bool true) ∧ Below w.heap.size w w' := by
  go_enter Tryd.func6, Tryd.ntmps6
  go_wp2_with fail
  have k1 := Blk.new w 24 #[.int .i64 pa, .int .u32 (s : Int)]
  have c1 := (Below.refl w.heap.size w).alloc (Nat.le_refl _) (.cells #[.int .i64 pa, .int .u32 (s : Int)] 24)
  generalize hW : w.alloc (.cells #[.int .i64 pa, .int .u32 (s : Int)] 24) = w1 at *
  clear hW
  refine (few_any w1 v _ l (h.ext (Nat.le_refl _) c1)).mono ?_
  rintro e w' ⟨u, rfl, h0, rfl⟩
  have hl2 : (l.take 200).length ≤ 200 := by rw [List.length_take]; omega
  clear h
  generalize l.take 200 = q at *
  obtain ⟨A, c, rfl, hc, hm, _⟩ := h0.openD
  have HQ1 := Lib.hid h0
  have HH1 := Lib.hid (hH.ext c1)
  have HS1 := Lib.hid (show w.heap.size ≤ w1.heap.size from c1.size)
  clear h0
  go_wp2_with fail
  by_cases hz0 : z < 1
  · skip
    have f0 : z < 1 := hz0
    refine (to_no w1 z _ w.heap.size q HQ1.out (by unfold toB; exact decide_eq_false (by omega))).mono ?_
    rintro e w2 ⟨rfl, b2⟩
    have k2 := k1.ext b2
    have d2 := b2.mono c1.size
    have c2 := c1.trans d2
    clear b2 k1
    go_wp2_with fail
    have j3 := Blk.new w2 24 #[.int .i64 0, .int .u32 0]
    have k3 := k2.alloc (.cells #[.int .i64 0, .int .u32 0] 24)
    have c3 := c2.alloc c2.size (.cells #[.int .i64 0, .int .u32 0] 24)
    have d3 := d2.alloc c2.size (.cells #[.int .i64 0, .int .u32 0] 24)
    generalize hW : w2.alloc (.cells #[.int .i64 0, .int .u32 0] 24) = w4 at *
    clear hW
    have c4 := c3
    have k4 := k3
    have j4 := j3
    have HQ4 := Lib.hid (show Bs w4 w.heap.size _ q from Rds.below HQ1.out d3)
    clear c3 k3 j3 c2 k2 d3 d2 HQ1
    have HS4 := Lib.hid c4.size
    have HH4 := Lib.hid (hH.ext c4)
    have hst := run_string_of (P := Tryd.prog) HQ4.out 28 9 5 Tryd.underlying28 Tryd.underlying5 Tryd.underlying9
    go_wp2_with fail
    clear hst
    refine (rsum_any w4 q (by omega)).mono ?_
    rintro e w' ⟨rfl, rfl⟩
    go_wp2_with fail
    by_cases hpa : 0 < pa
    · skip
      by_cases hql : q.length = 128
      · have HQL := Lib.hid hql
        clear hql
        by_cases hsq : s = Crc.sum q
        · skip
          have p0 : 0 < pa := hpa
          have p1' : ((q.length : Int) == 128) = true := by rw [beq_iff_eq]; have := HQL.out; omega
          have p2' : ((s : Int) == ((Crc.sum q : Nat) : Int)) = true := by rw [beq_iff_eq]; omega
          have HPB := Lib.hid (show ptB pa s q = true by unfold ptB; exact decide_eq_true ⟨p0, HQL.out, hsq.symm⟩)
          clear hsq
          have hG0 : Below w4.heap.size w4 w4.drew := (Below.refl _ _).drew
          refine wp_region_list 18 [(fun y_ _ => y_ = .agg #[.int .i64 pa, .int .u32 (s : Int)]),
            (fun y_ _ => y_ = .slice A q.length c),
            (fun y_ _ => y_ = .bool true),
            (fun y_ _ => y_ = .pointer (some ⟨w.heap.size, 0, none⟩)),
            (fun y_ _ => y_ = .int .i64 pa),
            (fun y_ _ => y_ = .bool true),
            (fun y_ _ => y_ = .bool true),
            (fun y_ _ => y_ = .slice A q.length c),
            (fun y_ _ => y_ = .int .i64 (q.length : Int)),
            (fun y_ _ => y_ = .bool true),
            (fun y_ _ => y_ = .bool true),
            (fun y_ _ => y_ = .bool true),
            (fun y_ _ => y_ = .pointer (some ⟨w.heap.size, 1, none⟩)),
            (fun y_ _ => y_ = .int .u32 (s : Int)),
            (fun y_ _ => y_ = .int .u32 (Crc.sum q : Nat)),
            (fun y_ _ => y_ = .bool true),
            (fun y_ _ => y_ = .bool true),
            (fun y_ _ => y_ = .bool false)]
            (fun x => Below w4.heap.size w4 x) (by kernel_rfl) rfl (by kernel_rfl) ?_ ?_ ?_ ?_
          · exact hG0
          · exact ⟨stab_eq _, stab_eq _, stab_eq _, stab_eq _, stab_eq _, stab_eq _, stab_eq _, stab_eq _, stab_eq _, stab_eq _, stab_eq _, stab_eq _, stab_eq _, stab_eq _, stab_eq _, stab_eq _, stab_eq _, stab_eq _, trivial⟩
          · refine ⟨?_, ?_, ?_, ?_, ?_, ?_, ?_, ?_, ?_, ?_, ?_, ?_, ?_, ?_, ?_, ?_, ?_, ?_, trivial⟩
            · intro a x hG hd hs K hK
              have h5 : a.tmps.getD 5 undef = .pointer (some ⟨w.heap.size, 0, none⟩) := hs 5 (by kernel_rfl)
              clear hd hs
              refine wpOp_plain rfl rfl ?_
              have kx := k4.ext hG
              have x0 := kx.cell 0
              have x1 := kx.cell 1
              simp only [List.getElem?_cons_zero, List.getElem?_cons_succ] at x0 x1
              go_simp
              exact hK _ _ rfl hG (Below.refl _ _)
            · intro a x hG hd hs K hK
              have h1 : a.tmps.getD 1 undef = .slice A q.length c := hs 1 (by kernel_rfl)
              clear hd hs
              refine wpOp_plain rfl rfl ?_
              go_simp
              exact hK _ _ rfl hG (Below.refl _ _)
            · intro a x hG hd hs K hK
              have h21 : a.tmps.getD 21 undef = .agg #[.int .i64 pa, .int .u32 (s : Int)] := hd 0 21 (by kernel_rfl)
              have h22 : a.tmps.getD 22 undef = .slice A q.length c := hd 1 22 (by kernel_rfl)
              clear hd hs
              refine wpOp_plain rfl rfl ?_
              go_simp
              refine (points_any _ pa s _ w.heap.size q (HH4.out.ext hG) (HQ4.out.ext HS4.out hG) (Nat.le_trans HS4.out hG.size)).mono ?_
              rintro e w' ⟨rfl, hb⟩
              rw [HPB.out]
              exact hK _ _ rfl (hG.trans (hb.mono hG.size)) hb
            · intro a x hG hd hs K hK
              have h5 : a.tmps.getD 5 undef = .pointer (some ⟨w.heap.size, 0, none⟩) := hs 5 (by kernel_rfl)
              clear hd hs
              refine wpOp_plain rfl rfl ?_
              go_simp
              exact hK _ _ rfl hG (Below.refl _ _)
            · intro a x hG hd hs K hK
              have h24 : a.tmps.getD 24 undef = .pointer (some ⟨w.heap.size, 0, none⟩) := hd 3 24 (by kernel_rfl)
              clear hd hs
              refine wpOp_plain rfl rfl ?_
              have x0 := (k4.ext hG).cell 0
              simp only [List.getElem?_cons_zero] at x0
              go_simp
              exact hK _ _ rfl hG (Below.refl _ _)
            · intro a x hG hd hs K hK
              have h25 : a.tmps.getD 25 undef = .int .i64 pa := hd 4 25 (by kernel_rfl)
              clear hd hs
              refine wpOp_plain rfl rfl ?_
              go_simp
              exact hK _ _ rfl hG (Below.refl _ _)
            · intro a x hG hd hs K hK
              have h26 : a.tmps.getD 26 undef = .bool true := hd 5 26 (by kernel_rfl)
              clear hd hs
              refine wpOp_plain rfl rfl ?_
              go_simp
              exact hK _ _ rfl hG (Below.refl _ _)
            · intro a x hG hd hs K hK
              have h1 : a.tmps.getD 1 undef = .slice A q.length c := hs 1 (by kernel_rfl)
              have h27 : a.tmps.getD 27 undef = .bool true := hd 6 27 (by kernel_rfl)
              clear hd hs
              refine wpOp_yes rfl rfl rfl h27 ?_
              go_simp
              exact hK _ _ rfl hG (Below.refl _ _)
            · intro a x hG hd hs K hK
              have h28 : a.tmps.getD 28 undef = .slice A q.length c := hd 7 28 (by kernel_rfl)
              have h27 : a.tmps.getD 27 undef = .bool true := hd 6 27 (by kernel_rfl)
              clear hd hs
              refine wpOp_yes rfl rfl rfl h27 ?_
              go_simp
              exact hK _ _ rfl hG (Below.refl _ _)
            · intro a x hG hd hs K hK
              have h29 : a.tmps.getD 29 undef = .int .i64 (q.length : Int) := hd 8 29 (by kernel_rfl)
              have h27 : a.tmps.getD 27 undef = .bool true := hd 6 27 (by kernel_rfl)
              clear hd hs
              refine wpOp_yes rfl rfl rfl h27 ?_
              go_simp
              exact hK _ _ rfl hG (Below.refl _ _)
            · intro a x hG hd hs K hK
              have h27 : a.tmps.getD 27 undef = .bool true := hd 6 27 (by kernel_rfl)
              have h30 : a.tmps.getD 30 undef = .bool true := hd 9 30 (by kernel_rfl)
              clear hd hs
              refine wpOp_plain rfl rfl ?_
              go_simp
              exact hK _ _ rfl hG (Below.refl _ _)
            · intro a x hG hd hs K hK
              have h31 : a.tmps.getD 31 undef = .bool true := hd 10 31 (by kernel_rfl)
              clear hd hs
              refine wpOp_plain rfl rfl ?_
              go_simp
              exact hK _ _ rfl hG (Below.refl _ _)
            · intro a x hG hd hs K hK
              have h5 : a.tmps.getD 5 undef = .pointer (some ⟨w.heap.size, 0, none⟩) := hs 5 (by kernel_rfl)
              have h32 : a.tmps.getD 32 undef = .bool true := hd 11 32 (by kernel_rfl)
              clear hd hs
              refine wpOp_yes rfl rfl rfl h32 ?_
              go_simp
              exact hK _ _ rfl hG (Below.refl _ _)
            · intro a x hG hd hs K hK
              have h33 : a.tmps.getD 33 undef = .pointer (some ⟨w.heap.size, 1, none⟩) := hd 12 33 (by kernel_rfl)
              have h32 : a.tmps.getD 32 undef = .bool true := hd 11 32 (by kernel_rfl)
              clear hd hs
              refine wpOp_yes rfl rfl rfl h32 ?_
              have x1 := (k4.ext hG).cell 1
              simp only [List.getElem?_cons_zero, List.getElem?_cons_succ] at x1
              go_simp
              exact hK _ _ rfl hG (Below.refl _ _)
            · intro a x hG hd hs K hK
              have h9 : a.tmps.getD 9 undef = .int .u32 (Crc.sum q : Nat) := hs 9 (by kernel_rfl)
              have h32 : a.tmps.getD 32 undef = .bool true := hd 11 32 (by kernel_rfl)
              clear hd hs
              refine wpOp_yes rfl rfl rfl h32 ?_
              go_simp
              exact hK _ _ rfl hG (Below.refl _ _)
            · intro a x hG hd hs K hK
              have h34 : a.tmps.getD 34 undef = .int .u32 (s : Int) := hd 13 34 (by kernel_rfl)
              have h35 : a.tmps.getD 35 undef = .int .u32 (Crc.sum q : Nat) := hd 14 35 (by kernel_rfl)
              have h32 : a.tmps.getD 32 undef = .bool true := hd 11 32 (by kernel_rfl)
              clear hd hs
              refine wpOp_yes rfl rfl rfl h32 ?_
              go_simp
              exact hK _ _ rfl hG (Below.refl _ _)
            · intro a x hG hd hs K hK
              have h32 : a.tmps.getD 32 undef = .bool true := hd 11 32 (by kernel_rfl)
              have h36 : a.tmps.getD 36 undef = .bool true := hd 15 36 (by kernel_rfl)
              clear hd hs
              refine wpOp_plain rfl rfl ?_
              go_simp
              exact hK _ _ rfl hG (Below.refl _ _)
            · intro a x hG hd hs K hK
              have h23 : a.tmps.getD 23 undef = .bool true := hd 2 23 (by kernel_rfl)
              have h37 : a.tmps.getD 37 undef = .bool true := hd 16 37 (by kernel_rfl)
              clear hd hs
              refine wpOp_plain rfl rfl ?_
              go_simp
              exact hK _ _ rfl hG (Below.refl _ _)
          · intro x hG
            rintro _ rfl _ rfl _ rfl _ rfl _ rfl _ rfl _ rfl _ rfl _ rfl _ rfl _ rfl _ rfl _ rfl _ rfl _ rfl _ rfl _ rfl _ rfl
            simp only [Act.put, List.setIfInBounds_toArray, List.set_cons_zero, List.set_cons_succ, REnd]
            try simp only [Exit.then]
            have kx := j4.ext hG
            have y0 := kx.cell 0
            have y1 := kx.cell 1
            simp only [List.getElem?_cons_zero, List.getElem?_cons_succ] at y0 y1
            have c5 := c4.trans (hG.mono c4.size)
            clear hG k4 j4 kx HQ4
            go_wp2_with fail
            refine (awake_any _ (hH.ext c5)).mono ?_
            rintro e w6 ⟨rfl, b6⟩
            go_wp2
            go_ret
            exact ⟨rfl, c5.trans (b6.mono c5.size)⟩
        · skip
          have p0 : 0 < pa := hpa
          have p1' : ((q.length : Int) == 128) = true := by rw [beq_iff_eq]; have := HQL.out; omega
          have p2' : ((s : Int) == ((Crc.sum q : Nat) : Int)) = false := by rw [beq_eq_false_iff_ne]; omega
          have HPB := Lib.hid (show ptB pa s q = false by unfold ptB; exact decide_eq_false fun h => hsq h.2.2.symm)
          clear hsq
          have hG0 : Below w4.heap.size w4 w4.drew := (Below.refl _ _).drew
          refine wp_region_list 18 [(fun y_ _ => y_ = .agg #[.int .i64 pa, .int .u32 (s : Int)]),
            (fun y_ _ => y_ = .slice A q.length c),
            (fun y_ _ => y_ = .bool false),
            (fun y_ _ => y_ = .pointer (some ⟨w.heap.size, 0, none⟩)),
            (fun y_ _ => y_ = .int .i64 pa),
            (fun y_ _ => y_ = .bool true),
            (fun y_ _ => y_ = .bool true),
            (fun y_ _ => y_ = .slice A q.length c),
            (fun y_ _ => y_ = .int .i64 (q.length : Int)),
            (fun y_ _ => y_ = .bool true),
            (fun y_ _ => y_ = .bool true),
            (fun y_ _ => y_ = .bool true),
            (fun y_ _ => y_ = .pointer (some ⟨w.heap.size, 1, none⟩)),
            (fun y_ _ => y_ = .int .u32 (s : Int)),
            (fun y_ _ => y_ = .int .u32 (Crc.sum q : Nat)),
            (fun y_ _ => y_ = .bool false),
            (fun y_ _ => y_ = .bool false),
            (fun y_ _ => y_ = .bool false)]
            (fun x => Below w4.heap.size w4 x) (by kernel_rfl) rfl (by kernel_rfl) ?_ ?_ ?_ ?_
          · exact hG0
          · exact ⟨stab_eq _, stab_eq _, stab_eq _, stab_eq _, stab_eq _, stab_eq _, stab_eq _, stab_eq _, stab_eq _, stab_eq _, stab_eq _, stab_eq _, stab_eq _, stab_eq _, stab_eq _, stab_eq _, stab_eq _, stab_eq _, trivial⟩
          · refine ⟨?_, ?_, ?_, ?_, ?_, ?_, ?_, ?_, ?_, ?_, ?_, ?_, ?_, ?_, ?_, ?_, ?_, ?_, trivial⟩
            · intro a x hG hd hs K hK
              have h5 : a.tmps.getD 5 undef = .pointer (some ⟨w.heap.size, 0, none⟩) := hs 5 (by kernel_rfl)
              clear hd hs
              refine wpOp_plain rfl rfl ?_
              have kx := k4.ext hG
              have x0 := kx.cell 0
              have x1 := kx.cell 1
              simp only [List.getElem?_cons_zero, List.getElem?_cons_succ] at x0 x1
              go_simp
              exact hK _ _ rfl hG (Below.refl _ _)
            · intro a x hG hd hs K hK
              have h1 : a.tmps.getD 1 undef = .slice A q.length c := hs 1 (by kernel_rfl)
              clear hd hs
              refine wpOp_plain rfl rfl ?_
              go_simp
              exact hK _ _ rfl hG (Below.refl _ _)
            · intro a x hG hd hs K hK
              have h21 : a.tmps.getD 21 undef = .agg #[.int .i64 pa, .int .u32 (s : Int)] := hd 0 21 (by kernel_rfl)
              have h22 : a.tmps.getD 22 undef = .slice A q.length c := hd 1 22 (by kernel_rfl)
              clear hd hs
              refine wpOp_plain rfl rfl ?_
              go_simp
              refine (points_any _ pa s _ w.heap.size q (HH4.out.ext hG) (HQ4.out.ext HS4.out hG) (Nat.le_trans HS4.out hG.size)).mono ?_
              rintro e w' ⟨rfl, hb⟩
              rw [HPB.out]
              exact hK _ _ rfl (hG.trans (hb.mono hG.size)) hb
            · intro a x hG hd hs K hK
              have h5 : a.tmps.getD 5 undef = .pointer (some ⟨w.heap.size, 0, none⟩) := hs 5 (by kernel_rfl)
              clear hd hs
              refine wpOp_plain rfl rfl ?_
              go_simp
              exact hK _ _ rfl hG (Below.refl _ _)
            · intro a x hG hd hs K hK
              have h24 : a.tmps.getD 24 undef = .pointer (some ⟨w.heap.size, 0, none⟩) := hd 3 24 (by kernel_rfl)
              clear hd hs
              refine wpOp_plain rfl rfl ?_
              have x0 := (k4.ext hG).cell 0
              simp only [List.getElem?_cons_zero] at x0
              go_simp
              exact hK _ _ rfl hG (Below.refl _ _)
            · intro a x hG hd hs K hK
              have h25 : a.tmps.getD 25 undef = .int .i64 pa := hd 4 25 (by kernel_rfl)
              clear hd hs
              refine wpOp_plain rfl rfl ?_
              go_simp
              exact hK _ _ rfl hG (Below.refl _ _)
            · intro a x hG hd hs K hK
              have h26 : a.tmps.getD 26 undef = .bool true := hd 5 26 (by kernel_rfl)
              clear hd hs
              refine wpOp_plain rfl rfl ?_
              go_simp
              exact hK _ _ rfl hG (Below.refl _ _)
            · intro a x hG hd hs K hK
              have h1 : a.tmps.getD 1 undef = .slice A q.length c := hs 1 (by kernel_rfl)
              have h27 : a.tmps.getD 27 undef = .bool true := hd 6 27 (by kernel_rfl)
              clear hd hs
              refine wpOp_yes rfl rfl rfl h27 ?_
              go_simp
              exact hK _ _ rfl hG (Below.refl _ _)
            · intro a x hG hd hs K hK
              have h28 : a.tmps.getD 28 undef = .slice A q.length c := hd 7 28 (by kernel_rfl)
              have h27 : a.tmps.getD 27 undef = .bool true := hd 6 27 (by kernel_rfl)
              clear hd hs
              refine wpOp_yes rfl rfl rfl h27 ?_
              go_simp
              exact hK _ _ rfl hG (Below.refl _ _)
            · intro a x hG hd hs K hK
              have h29 : a.tmps.getD 29 undef = .int .i64 (q.length : Int) := hd 8 29 (by kernel_rfl)
              have h27 : a.tmps.getD 27 undef = .bool true := hd 6 27 (by kernel_rfl)
              clear hd hs
              refine wpOp_yes rfl rfl rfl h27 ?_
              go_simp
              exact hK _ _ rfl hG (Below.refl _ _)
            · intro a x hG hd hs K hK
              have h27 : a.tmps.getD 27 undef = .bool true := hd 6 27 (by kernel_rfl)
              have h30 : a.tmps.getD 30 undef = .bool true := hd 9 30 (by kernel_rfl)
              clear hd hs
              refine wpOp_plain rfl rfl ?_
              go_simp
              exact hK _ _ rfl hG (Below.refl _ _)
            · intro a x hG hd hs K hK
              have h31 : a.tmps.getD 31 undef = .bool true := hd 10 31 (by kernel_rfl)
              clear hd hs
              refine wpOp_plain rfl rfl ?_
              go_simp
              exact hK _ _ rfl hG (Below.refl _ _)
            · intro a x hG hd hs K hK
              have h5 : a.tmps.getD 5 undef = .pointer (some ⟨w.heap.size, 0, none⟩) := hs 5 (by kernel_rfl)
              have h32 : a.tmps.getD 32 undef = .bool true := hd 11 32 (by kernel_rfl)
              clear hd hs
              refine wpOp_yes rfl rfl rfl h32 ?_
              go_simp
              exact hK _ _ rfl hG (Below.refl _ _)
            · intro a x hG hd hs K hK
              have h33 : a.tmps.getD 33 undef = .pointer (some ⟨w.heap.size, 1, none⟩) := hd 12 33 (by kernel_rfl)
              have h32 : a.tmps.getD 32 undef = .bool true := hd 11 32 (by kernel_rfl)
              clear hd hs
              refine wpOp_yes rfl rfl rfl h32 ?_
              have x1 := (k4.ext hG).cell 1
              simp only [List.getElem?_cons_zero, List.getElem?_cons_succ] at x1
              go_simp
              exact hK _ _ rfl hG (Below.refl _ _)
            · intro a x hG hd hs K hK
              have h9 : a.tmps.getD 9 undef = .int .u32 (Crc.sum q : Nat) := hs 9 (by kernel_rfl)
              have h32 : a.tmps.getD 32 undef = .bool true := hd 11 32 (by kernel_rfl)
              clear hd hs
              refine wpOp_yes rfl rfl rfl h32 ?_
              go_simp
              exact hK _ _ rfl hG (Below.refl _ _)
            · intro a x hG hd hs K hK
              have h34 : a.tmps.getD 34 undef = .int .u32 (s : Int) := hd 13 34 (by kernel_rfl)
              have h35 : a.tmps.getD 35 undef = .int .u32 (Crc.sum q : Nat) := hd 14 35 (by kernel_rfl)
              have h32 : a.tmps.getD 32 undef = .bool true := hd 11 32 (by kernel_rfl)
              clear hd hs
              refine wpOp_yes rfl rfl rfl h32 ?_
              go_simp
              exact hK _ _ rfl hG (Below.refl _ _)
            · intro a x hG hd hs K hK
              have h32 : a.tmps.getD 32 undef = .bool true := hd 11 32 (by kernel_rfl)
              have h36 : a.tmps.getD 36 undef = .bool false := hd 15 36 (by kernel_rfl)
              clear hd hs
              refine wpOp_plain rfl rfl ?_
              go_simp
              exact hK _ _ rfl hG (Below.refl _ _)
            · intro a x hG hd hs K hK
              have h23 : a.tmps.getD 23 undef = .bool false := hd 2 23 (by kernel_rfl)
              have h37 : a.tmps.getD 37 undef = .bool false := hd 16 37 (by kernel_rfl)
              clear hd hs
              refine wpOp_plain rfl rfl ?_
              go_simp
              exact hK _ _ rfl hG (Below.refl _ _)
          · intro x hG
            rintro _ rfl _ rfl _ rfl _ rfl _ rfl _ rfl _ rfl _ rfl _ rfl _ rfl _ rfl _ rfl _ rfl _ rfl _ rfl _ rfl _ rfl _ rfl
            simp only [Act.put, List.setIfInBounds_toArray, List.set_cons_zero, List.set_cons_succ, REnd]
            try simp only [Exit.then]
            have kx := j4.ext hG
            have y0 := kx.cell 0
            have y1 := kx.cell 1
            simp only [List.getElem?_cons_zero, List.getElem?_cons_succ] at y0 y1
            have c5 := c4.trans (hG.mono c4.size)
            clear hG k4 j4 kx HQ4
            go_wp2_with fail
            refine (awake_any _ (hH.ext c5)).mono ?_
            rintro e w6 ⟨rfl, b6⟩
            go_wp2
            go_ret
            exact ⟨rfl, c5.trans (b6.mono c5.size)⟩
      · have HQL := Lib.hid hql
        clear hql
        have p0 : 0 < pa := hpa
        have p1' : ((q.length : Int) == 128) = false := by rw [beq_eq_false_iff_ne]; have := HQL.out; omega
        have HPB := Lib.hid (show ptB pa s q = false by unfold ptB; exact decide_eq_false fun h => HQL.out h.2.1)
        have hG0 : Below w4.heap.size w4 w4.drew := (Below.refl _ _).drew
        refine wp_region_list 18 [(fun y_ _ => y_ = .agg #[.int .i64 pa, .int .u32 (s : Int)]),
          (fun y_ _ => y_ = .slice A q.length c),
          (fun y_ _ => y_ = .bool false),
          (fun y_ _ => y_ = .pointer (some ⟨w.heap.size, 0, none⟩)),
          (fun y_ _ => y_ = .int .i64 pa),
          (fun y_ _ => y_ = .bool true),
          (fun y_ _ => y_ = .bool true),
          (fun y_ _ => y_ = .slice A q.length c),
          (fun y_ _ => y_ = .int .i64 (q.length : Int)),
          (fun y_ _ => y_ = .bool false),
          (fun y_ _ => y_ = .bool false),
          (fun y_ _ => y_ = .bool false),
          (fun y_ _ => y_ = undef),
          (fun y_ _ => y_ = undef),
          (fun y_ _ => y_ = undef),
          (fun y_ _ => y_ = undef),
          (fun y_ _ => y_ = .bool false),
          (fun y_ _ => y_ = .bool false)]
          (fun x => Below w4.heap.size w4 x) (by kernel_rfl) rfl (by kernel_rfl) ?_ ?_ ?_ ?_
        · exact hG0
        · exact ⟨stab_eq _, stab_eq _, stab_eq _, stab_eq _, stab_eq _, stab_eq _, stab_eq _, stab_eq _, stab_eq _, stab_eq _, stab_eq _, stab_eq _, stab_eq _, stab_eq _, stab_eq _, stab_eq _, stab_eq _, stab_eq _, trivial⟩
        · refine ⟨?_, ?_, ?_, ?_, ?_, ?_, ?_, ?_, ?_, ?_, ?_, ?_, ?_, ?_, ?_, ?_, ?_, ?_, trivial⟩
          · intro a x hG hd hs K hK
            have h5 : a.tmps.getD 5 undef = .pointer (some ⟨w.heap.size, 0, none⟩) := hs 5 (by kernel_rfl)
            clear hd hs
            refine wpOp_plain rfl rfl ?_
            have kx := k4.ext hG
            have x0 := kx.cell 0
            have x1 := kx.cell 1
            simp only [List.getElem?_cons_zero, List.getElem?_cons_succ] at x0 x1
            go_simp
            exact hK _ _ rfl hG (Below.refl _ _)
          · intro a x hG hd hs K hK
            have h1 : a.tmps.getD 1 undef = .slice A q.length c := hs 1 (by kernel_rfl)
            clear hd hs
            refine wpOp_plain rfl rfl ?_
            go_simp
            exact hK _ _ rfl hG (Below.refl _ _)
          · intro a x hG hd hs K hK
            have h21 : a.tmps.getD 21 undef = .agg #[.int .i64 pa, .int .u32 (s : Int)] := hd 0 21 (by kernel_rfl)
            have h22 : a.tmps.getD 22 undef = .slice A q.length c := hd 1 22 (by kernel_rfl)
            clear hd hs
            refine wpOp_plain rfl rfl ?_
            go_simp
            refine (points_any _ pa s _ w.heap.size q (HH4.out.ext hG) (HQ4.out.ext HS4.out hG) (Nat.le_trans HS4.out hG.size)).mono ?_
            rintro e w' ⟨rfl, hb⟩
            rw [HPB.out]
            exact hK _ _ rfl (hG.trans (hb.mono hG.size)) hb
          · intro a x hG hd hs K hK
            have h5 : a.tmps.getD 5 undef = .pointer (some ⟨w.heap.size, 0, none⟩) := hs 5 (by kernel_rfl)
            clear hd hs
            refine wpOp_plain rfl rfl ?_
            go_simp
            exact hK _ _ rfl hG (Below.refl _ _)
          · intro a x hG hd hs K hK
            have h24 : a.tmps.getD 24 undef = .pointer (some ⟨w.heap.size, 0, none⟩) := hd 3 24 (by kernel_rfl)
            clear hd hs
            refine wpOp_plain rfl rfl ?_
            have x0 := (k4.ext hG).cell 0
            simp only [List.getElem?_cons_zero] at x0
            go_simp
            exact hK _ _ rfl hG (Below.refl _ _)
          · intro a x hG hd hs K hK
            have h25 : a.tmps.getD 25 undef = .int .i64 pa := hd 4 25 (by kernel_rfl)
            clear hd hs
            refine wpOp_plain rfl rfl ?_
            go_simp
            exact hK _ _ rfl hG (Below.refl _ _)
          · intro a x hG hd hs K hK
            have h26 : a.tmps.getD 26 undef = .bool true := hd 5 26 (by kernel_rfl)
            clear hd hs
            refine wpOp_plain rfl rfl ?_
            go_simp
            exact hK _ _ rfl hG (Below.refl _ _)
          · intro a x hG hd hs K hK
            have h1 : a.tmps.getD 1 undef = .slice A q.length c := hs 1 (by kernel_rfl)
            have h27 : a.tmps.getD 27 undef = .bool true := hd 6 27 (by kernel_rfl)
            clear hd hs
            refine wpOp_yes rfl rfl rfl h27 ?_
            go_simp
            exact hK _ _ rfl hG (Below.refl _ _)
          · intro a x hG hd hs K hK
            have h28 : a.tmps.getD 28 undef = .slice A q.length c := hd 7 28 (by kernel_rfl)
            have h27 : a.tmps.getD 27 undef = .bool true := hd 6 27 (by kernel_rfl)
            clear hd hs
            refine wpOp_yes rfl rfl rfl h27 ?_
            go_simp
            exact hK _ _ rfl hG (Below.refl _ _)
          · intro a x hG hd hs K hK
            have h29 : a.tmps.getD 29 undef = .int .i64 (q.length : Int) := hd 8 29 (by kernel_rfl)
            have h27 : a.tmps.getD 27 undef = .bool true := hd 6 27 (by kernel_rfl)
            clear hd hs
            refine wpOp_yes rfl rfl rfl h27 ?_
            go_simp
            exact hK _ _ rfl hG (Below.refl _ _)
          · intro a x hG hd hs K hK
            have h27 : a.tmps.getD 27 undef = .bool true := hd 6 27 (by kernel_rfl)
            have h30 : a.tmps.getD 30 undef = .bool false := hd 9 30 (by kernel_rfl)
            clear hd hs
            refine wpOp_plain rfl rfl ?_
            go_simp
            exact hK _ _ rfl hG (Below.refl _ _)
          · intro a x hG hd hs K hK
            have h31 : a.tmps.getD 31 undef = .bool false := hd 10 31 (by kernel_rfl)
            clear hd hs
            refine wpOp_plain rfl rfl ?_
            go_simp
            exact hK _ _ rfl hG (Below.refl _ _)
          · intro a x hG hd hs K hK
            have h5 : a.tmps.getD 5 undef = .pointer (some ⟨w.heap.size, 0, none⟩) := hs 5 (by kernel_rfl)
            have h32 : a.tmps.getD 32 undef = .bool false := hd 11 32 (by kernel_rfl)
            clear hd hs
            refine wpOp_no rfl rfl rfl h32 ?_
            exact hK _ _ rfl hG (Below.refl _ _)
          · intro a x hG hd hs K hK
            have h33 : a.tmps.getD 33 undef = undef := hd 12 33 (by kernel_rfl)
            have h32 : a.tmps.getD 32 undef = .bool false := hd 11 32 (by kernel_rfl)
            clear hd hs
            refine wpOp_no rfl rfl rfl h32 ?_
            exact hK _ _ rfl hG (Below.refl _ _)
          · intro a x hG hd hs K hK
            have h9 : a.tmps.getD 9 undef = .int .u32 (Crc.sum q : Nat) := hs 9 (by kernel_rfl)
            have h32 : a.tmps.getD 32 undef = .bool false := hd 11 32 (by kernel_rfl)
            clear hd hs
            refine wpOp_no rfl rfl rfl h32 ?_
            exact hK _ _ rfl hG (Below.refl _ _)
          · intro a x hG hd hs K hK
            have h34 : a.tmps.getD 34 undef = undef := hd 13 34 (by kernel_rfl)
            have h35 : a.tmps.getD 35 undef = undef := hd 14 35 (by kernel_rfl)
            have h32 : a.tmps.getD 32 undef = .bool false := hd 11 32 (by kernel_rfl)
            clear hd hs
            refine wpOp_no rfl rfl rfl h32 ?_
            exact hK _ _ rfl hG (Below.refl _ _)
          · intro a x hG hd hs K hK
            have h32 : a.tmps.getD 32 undef = .bool false := hd 11 32 (by kernel_rfl)
            have h36 : a.tmps.getD 36 undef = undef := hd 15 36 (by kernel_rfl)
            clear hd hs
            refine wpOp_plain rfl rfl ?_
            go_simp
            exact hK _ _ rfl hG (Below.refl _ _)
          · intro a x hG hd hs K hK
            have h23 : a.tmps.getD 23 undef = .bool false := hd 2 23 (by kernel_rfl)
            have h37 : a.tmps.getD 37 undef = .bool false := hd 16 37 (by kernel_rfl)
            clear hd hs
            refine wpOp_plain rfl rfl ?_
            go_simp
            exact hK _ _ rfl hG (Below.refl _ _)
        · intro x hG
          rintro _ rfl _ rfl _ rfl _ rfl _ rfl _ rfl _ rfl _ rfl _ rfl _ rfl _ rfl _ rfl _ rfl _ rfl _ rfl _ rfl _ rfl _ rfl
          simp only [Act.put, List.setIfInBounds_toArray, List.set_cons_zero, List.set_cons_succ, REnd]
          try simp only [Exit.then]
          have kx := j4.ext hG
          have y0 := kx.cell 0
          have y1 := kx.cell 1
          simp only [List.getElem?_cons_zero, List.getElem?_cons_succ] at y0 y1
          have c5 := c4.trans (hG.mono c4.size)
          clear hG k4 j4 kx HQ4
          go_wp2_with fail
          refine (awake_any _ (hH.ext c5)).mono ?_
          rintro e w6 ⟨rfl, b6⟩
          go_wp2
          go_ret
          exact ⟨rfl, c5.trans (b6.mono c5.size)⟩
    · skip
      have p0 : ¬ 0 < pa := hpa
      have HPB := Lib.hid (show ptB pa s q = false by unfold ptB; exact decide_eq_false fun h => p0 h.1)
      have hG0 : Below w4.heap.size w4 w4.drew := (Below.refl _ _).drew
      refine wp_region_list 18 [(fun y_ _ => y_ = .agg #[.int .i64 pa, .int .u32 (s : Int)]),
        (fun y_ _ => y_ = .slice A q.length c),
        (fun y_ _ => y_ = .bool false),
        (fun y_ _ => y_ = .pointer (some ⟨w.heap.size, 0, none⟩)),
        (fun y_ _ => y_ = .int .i64 pa),
        (fun y_ _ => y_ = .bool false),
        (fun y_ _ => y_ = .bool false),
        (fun y_ _ => y_ = undef),
        (fun y_ _ => y_ = undef),
        (fun y_ _ => y_ = undef),
        (fun y_ _ => y_ = .bool false),
        (fun y_ _ => y_ = .bool false),
        (fun y_ _ => y_ = undef),
        (fun y_ _ => y_ = undef),
        (fun y_ _ => y_ = undef),
        (fun y_ _ => y_ = undef),
        (fun y_ _ => y_ = .bool false),
        (fun y_ _ => y_ = .bool false)]
        (fun x => Below w4.heap.size w4 x) (by kernel_rfl) rfl (by kernel_rfl) ?_ ?_ ?_ ?_
      · exact hG0
      · exact ⟨stab_eq _, stab_eq _, stab_eq _, stab_eq _, stab_eq _, stab_eq _, stab_eq _, stab_eq _, stab_eq _, stab_eq _, stab_eq _, stab_eq _, stab_eq _, stab_eq _, stab_eq _, stab_eq _, stab_eq _, stab_eq _, trivial⟩
      · refine ⟨?_, ?_, ?_, ?_, ?_, ?_, ?_, ?_, ?_, ?_, ?_, ?_, ?_, ?_, ?_, ?_, ?_, ?_, trivial⟩
        · intro a x hG hd hs K hK
          have h5 : a.tmps.getD 5 undef = .pointer (some ⟨w.heap.size, 0, none⟩) := hs 5 (by kernel_rfl)
          clear hd hs
          refine wpOp_plain rfl rfl ?_
          have kx := k4.ext hG
          have x0 := kx.cell 0
          have x1 := kx.cell 1
          simp only [List.getElem?_cons_zero, List.getElem?_cons_succ] at x0 x1
          go_simp
          exact hK _ _ rfl hG (Below.refl _ _)
        · intro a x hG hd hs K hK
          have h1 : a.tmps.getD 1 undef = .slice A q.length c := hs 1 (by kernel_rfl)
          clear hd hs
          refine wpOp_plain rfl rfl ?_
          go_simp
          exact hK _ _ rfl hG (Below.refl _ _)
        · intro a x hG hd hs K hK
          have h21 : a.tmps.getD 21 undef = .agg #[.int .i64 pa, .int .u32 (s : Int)] := hd 0 21 (by kernel_rfl)
          have h22 : a.tmps.getD 22 undef = .slice A q.length c := hd 1 22 (by kernel_rfl)
          clear hd hs
          refine wpOp_plain rfl rfl ?_
          go_simp
          refine (points_any _ pa s _ w.heap.size q (HH4.out.ext hG) (HQ4.out.ext HS4.out hG) (Nat.le_trans HS4.out hG.size)).mono ?_
          rintro e w' ⟨rfl, hb⟩
          rw [HPB.out]
          exact hK _ _ rfl (hG.trans (hb.mono hG.size)) hb
        · intro a x hG hd hs K hK
          have h5 : a.tmps.getD 5 undef = .pointer (some ⟨w.heap.size, 0, none⟩) := hs 5 (by kernel_rfl)
          clear hd hs
          refine wpOp_plain rfl rfl ?_
          go_simp
          exact hK _ _ rfl hG (Below.refl _ _)
        · intro a x hG hd hs K hK
          have h24 : a.tmps.getD 24 undef = .pointer (some ⟨w.heap.size, 0, none⟩) := hd 3 24 (by kernel_rfl)
          clear hd hs
          refine wpOp_plain rfl rfl ?_
          have x0 := (k4.ext hG).cell 0
          simp only [List.getElem?_cons_zero] at x0
          go_simp
          exact hK _ _ rfl hG (Below.refl _ _)
        · intro a x hG hd hs K hK
          have h25 : a.tmps.getD 25 undef = .int .i64 pa := hd 4 25 (by kernel_rfl)
          clear hd hs
          refine wpOp_plain rfl rfl ?_
          go_simp
          exact hK _ _ rfl hG (Below.refl _ _)
        · intro a x hG hd hs K hK
          have h26 : a.tmps.getD 26 undef = .bool false := hd 5 26 (by kernel_rfl)
          clear hd hs
          refine wpOp_plain rfl rfl ?_
          go_simp
          exact hK _ _ rfl hG (Below.refl _ _)
        · intro a x hG hd hs K hK
          have h1 : a.tmps.getD 1 undef = .slice A q.length c := hs 1 (by kernel_rfl)
          have h27 : a.tmps.getD 27 undef = .bool false := hd 6 27 (by kernel_rfl)
          clear hd hs
          refine wpOp_no rfl rfl rfl h27 ?_
          exact hK _ _ rfl hG (Below.refl _ _)
        · intro a x hG hd hs K hK
          have h28 : a.tmps.getD 28 undef = undef := hd 7 28 (by kernel_rfl)
          have h27 : a.tmps.getD 27 undef = .bool false := hd 6 27 (by kernel_rfl)
          clear hd hs
          refine wpOp_no rfl rfl rfl h27 ?_
          exact hK _ _ rfl hG (Below.refl _ _)
        · intro a x hG hd hs K hK
          have h29 : a.tmps.getD 29 undef = undef := hd 8 29 (by kernel_rfl)
          have h27 : a.tmps.getD 27 undef = .bool false := hd 6 27 (by kernel_rfl)
          clear hd hs
          refine wpOp_no rfl rfl rfl h27 ?_
          exact hK _ _ rfl hG (Below.refl _ _)
        · intro a x hG hd hs K hK
          have h27 : a.tmps.getD 27 undef = .bool false := hd 6 27 (by kernel_rfl)
          have h30 : a.tmps.getD 30 undef = undef := hd 9 30 (by kernel_rfl)
          clear hd hs
          refine wpOp_plain rfl rfl ?_
          go_simp
          exact hK _ _ rfl hG (Below.refl _ _)
        · intro a x hG hd hs K hK
          have h31 : a.tmps.getD 31 undef = .bool false := hd 10 31 (by kernel_rfl)
          clear hd hs
          refine wpOp_plain rfl rfl ?_
          go_simp
          exact hK _ _ rfl hG (Below.refl _ _)
        · intro a x hG hd hs K hK
          have h5 : a.tmps.getD 5 undef = .pointer (some ⟨w.heap.size, 0, none⟩) := hs 5 (by kernel_rfl)
          have h32 : a.tmps.getD 32 undef = .bool false := hd 11 32 (by kernel_rfl)
          clear hd hs
          refine wpOp_no rfl rfl rfl h32 ?_
          exact hK _ _ rfl hG (Below.refl _ _)
        · intro a x hG hd hs K hK
          have h33 : a.tmps.getD 33 undef = undef := hd 12 33 (by kernel_rfl)
          have h32 : a.tmps.getD 32 undef = .bool false := hd 11 32 (by kernel_rfl)
          clear hd hs
          refine wpOp_no rfl rfl rfl h32 ?_
          exact hK _ _ rfl hG (Below.refl _ _)
        · intro a x hG hd hs K hK
          have h9 : a.tmps.getD 9 undef = .int .u32 (Crc.sum q : Nat) := hs 9 (by kernel_rfl)
          have h32 : a.tmps.getD 32 undef = .bool false := hd 11 32 (by kernel_rfl)
          clear hd hs
          refine wpOp_no rfl rfl rfl h32 ?_
          exact hK _ _ rfl hG (Below.refl _ _)
        · intro a x hG hd hs K hK
          have h34 : a.tmps.getD 34 undef = undef := hd 13 34 (by kernel_rfl)
          have h35 : a.tmps.getD 35 undef = undef := hd 14 35 (by kernel_rfl)
          have h32 : a.tmps.getD 32 undef = .bool false := hd 11 32 (by kernel_rfl)
          clear hd hs
          refine wpOp_no rfl rfl rfl h32 ?_
          exact hK _ _ rfl hG (Below.refl _ _)
        · intro a x hG hd hs K hK
          have h32 : a.tmps.getD 32 undef = .bool false := hd 11 32 (by kernel_rfl)
          have h36 : a.tmps.getD 36 undef = undef := hd 15 36 (by kernel_rfl)
          clear hd hs
          refine wpOp_plain rfl rfl ?_
          go_simp
          exact hK _ _ rfl hG (Below.refl _ _)
        · intro a x hG hd hs K hK
          have h23 : a.tmps.getD 23 undef = .bool false := hd 2 23 (by kernel_rfl)
          have h37 : a.tmps.getD 37 undef = .bool false := hd 16 37 (by kernel_rfl)
          clear hd hs
          refine wpOp_plain rfl rfl ?_
          go_simp
          exact hK _ _ rfl hG (Below.refl _ _)
      · intro x hG
        rintro _ rfl _ rfl _ rfl _ rfl _ rfl _ rfl _ rfl _ rfl _ rfl _ rfl _ rfl _ rfl _ rfl _ rfl _ rfl _ rfl _ rfl _ rfl
        simp only [Act.put, List.setIfInBounds_toArray, List.set_cons_zero, List.set_cons_succ, REnd]
        try simp only [Exit.then]
        have kx := j4.ext hG
        have y0 := kx.cell 0
        have y1 := kx.cell 1
        simp only [List.getElem?_cons_zero, List.getElem?_cons_succ] at y0 y1
        have c5 := c4.trans (hG.mono c4.size)
        clear hG k4 j4 kx HQ4
        go_wp2_with fail
        refine (awake_any _ (hH.ext c5)).mono ?_
        rintro e w6 ⟨rfl, b6⟩
        go_wp2
        go_ret
        exact ⟨rfl, c5.trans (b6.mono c5.size)⟩
  · by_cases hz1 : 2147483647 < z
    · skip
      have f0 : ¬ z < 1 := hz0
      have f1 : 2147483647 < z := hz1
      refine (to_no w1 z _ w.heap.size q HQ1.out (by unfold toB; exact decide_eq_false (by omega))).mono ?_
      rintro e w2 ⟨rfl, b2⟩
      have k2 := k1.ext b2
      have d2 := b2.mono c1.size
      have c2 := c1.trans d2
      clear b2 k1
      go_wp2_with fail
      have j3 := Blk.new w2 24 #[.int .i64 0, .int .u32 0]
      have k3 := k2.alloc (.cells #[.int .i64 0, .int .u32 0] 24)
      have c3 := c2.alloc c2.size (.cells #[.int .i64 0, .int .u32 0] 24)
      have d3 := d2.alloc c2.size (.cells #[.int .i64 0, .int .u32 0] 24)
      generalize hW : w2.alloc (.cells #[.int .i64 0, .int .u32 0] 24) = w4 at *
      clear hW
      have c4 := c3
      have k4 := k3
      have j4 := j3
      have HQ4 := Lib.hid (show Bs w4 w.heap.size _ q from Rds.below HQ1.out d3)
      clear c3 k3 j3 c2 k2 d3 d2 HQ1
      have HS4 := Lib.hid c4.size
      have HH4 := Lib.hid (hH.ext c4)
      have hst := run_string_of (P := Tryd.prog) HQ4.out 28 9 5 Tryd.underlying28 Tryd.underlying5 Tryd.underlying9
      go_wp2_with fail
      clear hst
      refine (rsum_any w4 q (by omega)).mono ?_
      rintro e w' ⟨rfl, rfl⟩
      go_wp2_with fail
      by_cases hpa : 0 < pa
      · skip
        by_cases hql : q.length = 128
        · have HQL := Lib.hid hql
          clear hql
          by_cases hsq : s = Crc.sum q
          · skip
            have p0 : 0 < pa := hpa
            have p1' : ((q.length : Int) == 128) = true := by rw [beq_iff_eq]; have := HQL.out; omega
            have p2' : ((s : Int) == ((Crc.sum q : Nat) : Int)) = true := by rw [beq_iff_eq]; omega
            have HPB := Lib.hid (show ptB pa s q = true by unfold ptB; exact decide_eq_true ⟨p0, HQL.out, hsq.symm⟩)
            clear hsq
            have hG0 : Below w4.heap.size w4 w4.drew := (Below.refl _ _).drew
            refine wp_region_list 18 [(fun y_ _ => y_ = .agg #[.int .i64 pa, .int .u32 (s : Int)]),
              (fun y_ _ => y_ = .slice A q.length c),
              (fun y_ _ => y_ = .bool true),
              (fun y_ _ => y_ = .pointer (some ⟨w.heap.size, 0, none⟩)),
              (fun y_ _ => y_ = .int .i64 pa),
              (fun y_ _ => y_ = .bool true),
              (fun y_ _ => y_ = .bool true),
              (fun y_ _ => y_ = .slice A q.length c),
              (fun y_ _ => y_ = .int .i64 (q.length : Int)),
              (fun y_ _ => y_ = .bool true),
              (fun y_ _ => y_ = .bool true),
              (fun y_ _ => y_ = .bool true),
              (fun y_ _ => y_ = .pointer (some ⟨w.heap.size, 1, none⟩)),
              (fun y_ _ => y_ = .int .u32 (s : Int)),
              (fun y_ _ => y_ = .int .u32 (Crc.sum q : Nat)),
              (fun y_ _ => y_ = .bool true),
              (fun y_ _ => y_ = .bool true),
              (fun y_ _ => y_ = .bool false)]
              (fun x => Below w4.heap.size w4 x) (by kernel_rfl) rfl (by kernel_rfl) ?_ ?_ ?_ ?_
            · exact hG0
            · exact ⟨stab_eq _, stab_eq _, stab_eq _, stab_eq _, stab_eq _, stab_eq _, stab_eq _, stab_eq _, stab_eq _, stab_eq _, stab_eq _, stab_eq _, stab_eq _, stab_eq _, stab_eq _, stab_eq _, stab_eq _, stab_eq _, trivial⟩
            · refine ⟨?_, ?_, ?_, ?_, ?_, ?_, ?_, ?_, ?_, ?_, ?_, ?_, ?_, ?_, ?_, ?_, ?_, ?_, trivial⟩
              · intro a x hG hd hs K hK
                have h5 : a.tmps.getD 5 undef = .pointer (some ⟨w.heap.size, 0, none⟩) := hs 5 (by kernel_rfl)
                clear hd hs
                refine wpOp_plain rfl rfl ?_
                have kx := k4.ext hG
                have x0 := kx.cell 0
                have x1 := kx.cell 1
                simp only [List.getElem?_cons_zero, List.getElem?_cons_succ] at x0 x1
                go_simp
                exact hK _ _ rfl hG (Below.refl _ _)
              · intro a x hG hd hs K hK
                have h1 : a.tmps.getD 1 undef = .slice A q.length c := hs 1 (by kernel_rfl)
                clear hd hs
                refine wpOp_plain rfl rfl ?_
                go_simp
                exact hK _ _ rfl hG (Below.refl _ _)
              · intro a x hG hd hs K hK
                have h21 : a.tmps.getD 21 undef = .agg #[.int .i64 pa, .int .u32 (s : Int)] := hd 0 21 (by kernel_rfl)
                have h22 : a.tmps.getD 22 undef = .slice A q.length c := hd 1 22 (by kernel_rfl)
                clear hd hs
                refine wpOp_plain rfl rfl ?_
                go_simp
                refine (points_any _ pa s _ w.heap.size q (HH4.out.ext hG) (HQ4.out.ext HS4.out hG) (Nat.le_trans HS4.out hG.size)).mono ?_
                rintro e w' ⟨rfl, hb⟩
                rw [HPB.out]
                exact hK _ _ rfl (hG.trans (hb.mono hG.size)) hb
              · intro a x hG hd hs K hK
                have h5 : a.tmps.getD 5 undef = .pointer (some ⟨w.heap.size, 0, none⟩) := hs 5 (by kernel_rfl)
                clear hd hs
                refine wpOp_plain rfl rfl ?_
                go_simp
                exact hK _ _ rfl hG (Below.refl _ _)
              · intro a x hG hd hs K hK
                have h24 : a.tmps.getD 24 undef = .pointer (some ⟨w.heap.size, 0, none⟩) := hd 3 24 (by kernel_rfl)
                clear hd hs
                refine wpOp_plain rfl rfl ?_
                have x0 := (k4.ext hG).cell 0
                simp only [List.getElem?_cons_zero] at x0
                go_simp
                exact hK _ _ rfl hG (Below.refl _ _)
              · intro a x hG hd hs K hK
                have h25 : a.tmps.getD 25 undef = .int .i64 pa := hd 4 25 (by kernel_rfl)
                clear hd hs
                refine wpOp_plain rfl rfl ?_
                go_simp
                exact hK _ _ rfl hG (Below.refl _ _)
              · intro a x hG hd hs K hK
                have h26 : a.tmps.getD 26 undef = .bool true := hd 5 26 (by kernel_rfl)
                clear hd hs
                refine wpOp_plain rfl rfl ?_
                go_simp
                exact hK _ _ rfl hG (Below.refl _ _)
              · intro a x hG hd hs K hK
                have h1 : a.tmps.getD 1 undef = .slice A q.length c := hs 1 (by kernel_rfl)
                have h27 : a.tmps.getD 27 undef = .bool true := hd 6 27 (by kernel_rfl)
                clear hd hs
                refine wpOp_yes rfl rfl rfl h27 ?_
                go_simp
                exact hK _ _ rfl hG (Below.refl _ _)
              · intro a x hG hd hs K hK
                have h28 : a.tmps.getD 28 undef = .slice A q.length c := hd 7 28 (by kernel_rfl)
                have h27 : a.tmps.getD 27 undef = .bool true := hd 6 27 (by kernel_rfl)
                clear hd hs
                refine wpOp_yes rfl rfl rfl h27 ?_
                go_simp
                exact hK _ _ rfl hG (Below.refl _ _)
              · intro a x hG hd hs K hK
                have h29 : a.tmps.getD 29 undef = .int .i64 (q.length : Int) := hd 8 29 (by kernel_rfl)
                have h27 : a.tmps.getD 27 undef = .bool true := hd 6 27 (by kernel_rfl)
                clear hd hs
                refine wpOp_yes rfl rfl rfl h27 ?_
                go_simp
                exact hK _ _ rfl hG (Below.refl _ _)
              · intro a x hG hd hs K hK
                have h27 : a.tmps.getD 27 undef = .bool true := hd 6 27 (by kernel_rfl)
                have h30 : a.tmps.getD 30 undef = .bool true := hd 9 30 (by kernel_rfl)
                clear hd hs
                refine wpOp_plain rfl rfl ?_
                go_simp
                exact hK _ _ rfl hG (Below.refl _ _)
              · intro a x hG hd hs K hK
                have h31 : a.tmps.getD 31 undef = .bool true := hd 10 31 (by kernel_rfl)
                clear hd hs
                refine wpOp_plain rfl rfl ?_
                go_simp
                exact hK _ _ rfl hG (Below.refl _ _)
              · intro a x hG hd hs K hK
                have h5 : a.tmps.getD 5 undef = .pointer (some ⟨w.heap.size, 0, none⟩) := hs 5 (by kernel_rfl)
                have h32 : a.tmps.getD 32 undef = .bool true := hd 11 32 (by kernel_rfl)
                clear hd hs
                refine wpOp_yes rfl rfl rfl h32 ?_
                go_simp
                exact hK _ _ rfl hG (Below.refl _ _)
              · intro a x hG hd hs K hK
                have h33 : a.tmps.getD 33 undef = .pointer (some ⟨w.heap.size, 1, none⟩) := hd 12 33 (by kernel_rfl)
                have h32 : a.tmps.getD 32 undef = .bool true := hd 11 32 (by kernel_rfl)
                clear hd hs
                refine wpOp_yes rfl rfl rfl h32 ?_
                have x1 := (k4.ext hG).cell 1
                simp only [List.getElem?_cons_zero, List.getElem?_cons_succ] at x1
                go_simp
                exact hK _ _ rfl hG (Below.refl _ _)
              · intro a x hG hd hs K hK
                have h9 : a.tmps.getD 9 undef = .int .u32 (Crc.sum q : Nat) := hs 9 (by kernel_rfl)
                have h32 : a.tmps.getD 32 undef = .bool true := hd 11 32 (by kernel_rfl)
                clear hd hs
                refine wpOp_yes rfl rfl rfl h32 ?_
                go_simp
                exact hK _ _ rfl hG (Below.refl _ _)
              · intro a x hG hd hs K hK
                have h34 : a.tmps.getD 34 undef = .int .u32 (s : Int) := hd 13 34 (by kernel_rfl)
                have h35 : a.tmps.getD 35 undef = .int .u32 (Crc.sum q : Nat) := hd 14 35 (by kernel_rfl)
                have h32 : a.tmps.getD 32 undef = .bool true := hd 11 32 (by kernel_rfl)
                clear hd hs
                refine wpOp_yes rfl rfl rfl h32 ?_
                go_simp
                exact hK _ _ rfl hG (Below.refl _ _)
              · intro a x hG hd hs K hK
                have h32 : a.tmps.getD 32 undef = .bool true := hd 11 32 (by kernel_rfl)
                have h36 : a.tmps.getD 36 undef = .bool true := hd 15 36 (by kernel_rfl)
                clear hd hs
                refine wpOp_plain rfl rfl ?_
                go_simp
                exact hK _ _ rfl hG (Below.refl _ _)
              · intro a x hG hd hs K hK
                have h23 : a.tmps.getD 23 undef = .bool true := hd 2 23 (by kernel_rfl)
                have h37 : a.tmps.getD 37 undef = .bool true := hd 16 37 (by kernel_rfl)
                clear hd hs
                refine wpOp_plain rfl rfl ?_
                go_simp
                exact hK _ _ rfl hG (Below.refl _ _)
            · intro x hG
              rintro _ rfl _ rfl _ rfl _ rfl _ rfl _ rfl _ rfl _ rfl _ rfl _ rfl _ rfl _ rfl _ rfl _ rfl _ rfl _ rfl _ rfl _ rfl
              simp only [Act.put, List.setIfInBounds_toArray, List.set_cons_zero, List.set_cons_succ, REnd]
              try simp only [Exit.then]
              have kx := j4.ext hG
              have y0 := kx.cell 0
              have y1 := kx.cell 1
              simp only [List.getElem?_cons_zero, List.getElem?_cons_succ] at y0 y1
              have c5 := c4.trans (hG.mono c4.size)
              clear hG k4 j4 kx HQ4
              go_wp2_with fail
              refine (awake_any _ (hH.ext c5)).mono ?_
              rintro e w6 ⟨rfl, b6⟩
              go_wp2
              go_ret
              exact ⟨rfl, c5.trans (b6.mono c5.size)⟩
          · skip
            have p0 : 0 < pa := hpa
            have p1' : ((q.length : Int) == 128) = true := by rw [beq_iff_eq]; have := HQL.out; omega
            have p2' : ((s : Int) == ((Crc.sum q : Nat) : Int)) = false := by rw [beq_eq_false_iff_ne]; omega
            have HPB := Lib.hid (show ptB pa s q = false by unfold ptB; exact decide_eq_false fun h => hsq h.2.2.symm)
            clear hsq
            have hG0 : Below w4.heap.size w4 w4.drew := (Below.refl _ _).drew
            refine wp_region_list 18 [(fun y_ _ => y_ = .agg #[.int .i64 pa, .int .u32 (s : Int)]),
              (fun y_ _ => y_ = .slice A q.length c),
              (fun y_ _ => y_ = .bool false),
              (fun y_ _ => y_ = .pointer (some ⟨w.heap.size, 0, none⟩)),
              (fun y_ _ => y_ = .int .i64 pa),
              (fun y_ _ => y_ = .bool true),
              (fun y_ _ => y_ = .bool true),
              (fun y_ _ => y_ = .slice A q.length c),
              (fun y_ _ => y_ = .int .i64 (q.length : Int)),
              (fun y_ _ => y_ = .bool true),
              (fun y_ _ => y_ = .bool true),
              (fun y_ _ => y_ = .bool true),
              (fun y_ _ => y_ = .pointer (some ⟨w.heap.size, 1, none⟩)),
              (fun y_ _ => y_ = .int .u32 (s : Int)),
              (fun y_ _ => y_ = .int .u32 (Crc.sum q : Nat)),
              (fun y_ _ => y_ = .bool false),
              (fun y_ _ => y_ = .bool false),
              (fun y_ _ => y_ = .bool false)]
              (fun x => Below w4.heap.size w4 x) (by kernel_rfl) rfl (by kernel_rfl) ?_ ?_ ?_ ?_
            · exact hG0
            · exact ⟨stab_eq _, stab_eq _, stab_eq _, stab_eq _, stab_eq _, stab_eq _, stab_eq _, stab_eq _, stab_eq _, stab_eq _, stab_eq _, stab_eq _, stab_eq _, stab_eq _, stab_eq _, stab_eq _, stab_eq _, stab_eq _, trivial⟩
            · refine ⟨?_, ?_, ?_, ?_, ?_, ?_, ?_, ?_, ?_, ?_, ?_, ?_, ?_, ?_, ?_, ?_, ?_, ?_, trivial⟩
              · intro a x hG hd hs K hK
                have h5 : a.tmps.getD 5 undef = .pointer (some ⟨w.heap.size, 0, none⟩) := hs 5 (by kernel_rfl)
                clear hd hs
                refine wpOp_plain rfl rfl ?_
                have kx := k4.ext hG
                have x0 := kx.cell 0
                have x1 := kx.cell 1
                simp only [List.getElem?_cons_zero, List.getElem?_cons_succ] at x0 x1
                go_simp
                exact hK _ _ rfl hG (Below.refl _ _)
              · intro a x hG hd hs K hK
                have h1 : a.tmps.getD 1 undef = .slice A q.length c := hs 1 (by kernel_rfl)
                clear hd hs
                refine wpOp_plain rfl rfl ?_
                go_simp
                exact hK _ _ rfl hG (Below.refl _ _)
              · intro a x hG hd hs K hK
                have h21 : a.tmps.getD 21 undef = .agg #[.int .i64 pa, .int .u32 (s : Int)] := hd 0 21 (by kernel_rfl)
                have h22 : a.tmps.getD 22 undef = .slice A q.length c := hd 1 22 (by kernel_rfl)
                clear hd hs
                refine wpOp_plain rfl rfl ?_
                go_simp
                refine (points_any _ pa s _ w.heap.size q (HH4.out.ext hG) (HQ4.out.ext HS4.out hG) (Nat.le_trans HS4.out hG.size)).mono ?_
                rintro e w' ⟨rfl, hb⟩
                rw [HPB.out]
                exact hK _ _ rfl (hG.trans (hb.mono hG.size)) hb
              · intro a x hG hd hs K hK
                have h5 : a.tmps.getD 5 undef = .pointer (some ⟨w.heap.size, 0, none⟩) := hs 5 (by kernel_rfl)
                clear hd hs
                refine wpOp_plain rfl rfl ?_
                go_simp
                exact hK _ _ rfl hG (Below.refl _ _)
              · intro a x hG hd hs K hK
                have h24 : a.tmps.getD 24 undef = .pointer (some ⟨w.heap.size, 0, none⟩) := hd 3 24 (by kernel_rfl)
                clear hd hs
                refine wpOp_plain rfl rfl ?_
                have x0 := (k4.ext hG).cell 0
                simp only [List.getElem?_cons_zero] at x0
                go_simp
                exact hK _ _ rfl hG (Below.refl _ _)
              · intro a x hG hd hs K hK
                have h25 : a.tmps.getD 25 undef = .int .i64 pa := hd 4 25 (by kernel_rfl)
                clear hd hs
                refine wpOp_plain rfl rfl ?_
                go_simp
                exact hK _ _ rfl hG (Below.refl _ _)
              · intro a x hG hd hs K hK
                have h26 : a.tmps.getD 26 undef = .bool true := hd 5 26 (by kernel_rfl)
                clear hd hs
                refine wpOp_plain rfl rfl ?_
                go_simp
                exact hK _ _ rfl hG (Below.refl _ _)
              · intro a x hG hd hs K hK
                have h1 : a.tmps.getD 1 undef = .slice A q.length c := hs 1 (by kernel_rfl)
                have h27 : a.tmps.getD 27 undef = .bool true := hd 6 27 (by kernel_rfl)
                clear hd hs
                refine wpOp_yes rfl rfl rfl h27 ?_
                go_simp
                exact hK _ _ rfl hG (Below.refl _ _)
              · intro a x hG hd hs K hK
                have h28 : a.tmps.getD 28 undef = .slice A q.length c := hd 7 28 (by kernel_rfl)
                have h27 : a.tmps.getD 27 undef = .bool true := hd 6 27 (by kernel_rfl)
                clear hd hs
                refine wpOp_yes rfl rfl rfl h27 ?_
                go_simp
                exact hK _ _ rfl hG (Below.refl _ _)
              · intro a x hG hd hs K hK
                have h29 : a.tmps.getD 29 undef = .int .i64 (q.length : Int) := hd 8 29 (by kernel_rfl)
                have h27 : a.tmps.getD 27 undef = .bool true := hd 6 27 (by kernel_rfl)
                clear hd hs
                refine wpOp_yes rfl rfl rfl h27 ?_
                go_simp
                exact hK _ _ rfl hG (Below.refl _ _)
              · intro a x hG hd hs K hK
                have h27 : a.tmps.getD 27 undef = .bool true := hd 6 27 (by kernel_rfl)
                have h30 : a.tmps.getD 30 undef = .bool true := hd 9 30 (by kernel_rfl)
                clear hd hs
                refine wpOp_plain rfl rfl ?_
                go_simp
                exact hK _ _ rfl hG (Below.refl _ _)
              · intro a x hG hd hs K hK
                have h31 : a.tmps.getD 31 undef = .bool true := hd 10 31 (by kernel_rfl)
                clear hd hs
                refine wpOp_plain rfl rfl ?_
                go_simp
                exact hK _ _ rfl hG (Below.refl _ _)
              · intro a x hG hd hs K hK
                have h5 : a.tmps.getD 5 undef = .pointer (some ⟨w.heap.size, 0, none⟩) := hs 5 (by kernel_rfl)
                have h32 : a.tmps.getD 32 undef = .bool true := hd 11 32 (by kernel_rfl)
                clear hd hs
                refine wpOp_yes rfl rfl rfl h32 ?_
                go_simp
                exact hK _ _ rfl hG (Below.refl _ _)
              · intro a x hG hd hs K hK
                have h33 : a.tmps.getD 33 undef = .pointer (some ⟨w.heap.size, 1, none⟩) := hd 12 33 (by kernel_rfl)
                have h32 : a.tmps.getD 32 undef = .bool true := hd 11 32 (by kernel_rfl)
                clear hd hs
                refine wpOp_yes rfl rfl rfl h32 ?_
                have x1 := (k4.ext hG).cell 1
                simp only [List.getElem?_cons_zero, List.getElem?_cons_succ] at x1
                go_simp
                exact hK _ _ rfl hG (Below.refl _ _)
              · intro a x hG hd hs K hK
                have h9 : a.tmps.getD 9 undef = .int .u32 (Crc.sum q : Nat) := hs 9 (by kernel_rfl)
                have h32 : a.tmps.getD 32 undef = .bool true := hd 11 32 (by kernel_rfl)
                clear hd hs
                refine wpOp_yes rfl rfl rfl h32 ?_
                go_simp
                exact hK _ _ rfl hG (Below.refl _ _)
              · intro a x hG hd hs K hK
                have h34 : a.tmps.getD 34 undef = .int .u32 (s : Int) := hd 13 34 (by kernel_rfl)
                have h35 : a.tmps.getD 35 undef = .int .u32 (Crc.sum q : Nat) := hd 14 35 (by kernel_rfl)
                have h32 : a.tmps.getD 32 undef = .bool true := hd 11 32 (by kernel_rfl)
                clear hd hs
                refine wpOp_yes rfl rfl rfl h32 ?_
                go_simp
                exact hK _ _ rfl hG (Below.refl _ _)
              · intro a x hG hd hs K hK
                have h32 : a.tmps.getD 32 undef = .bool true := hd 11 32 (by kernel_rfl)
                have h36 : a.tmps.getD 36 undef = .bool false := hd 15 36 (by kernel_rfl)
                clear hd hs
                refine wpOp_plain rfl rfl ?_
                go_simp
                exact hK _ _ rfl hG (Below.refl _ _)
              · intro a x hG hd hs K hK
                have h23 : a.tmps.getD 23 undef = .bool false := hd 2 23 (by kernel_rfl)
                have h37 : a.tmps.getD 37 undef = .bool false := hd 16 37 (by kernel_rfl)
                clear hd hs
                refine wpOp_plain rfl rfl ?_
                go_simp
                exact hK _ _ rfl hG (Below.refl _ _)
            · intro x hG
              rintro _ rfl _ rfl _ rfl _ rfl _ rfl _ rfl _ rfl _ rfl _ rfl _ rfl _ rfl _ rfl _ rfl _ rfl _ rfl _ rfl _ rfl _ rfl
              simp only [Act.put, List.setIfInBounds_toArray, List.set_cons_zero, List.set_cons_succ, REnd]
              try simp only [Exit.then]
              have kx := j4.ext hG
              have y0 := kx.cell 0
              have y1 := kx.cell 1
              simp only [List.getElem?_cons_zero, List.getElem?_cons_succ] at y0 y1
              have c5 := c4.trans (hG.mono c4.size)
              clear hG k4 j4 kx HQ4
              go_wp2_with fail
              refine (awake_any _ (hH.ext c5)).mono ?_
              rintro e w6 ⟨rfl, b6⟩
              go_wp2
              go_ret
              exact ⟨rfl, c5.trans (b6.mono c5.size)⟩
        · have HQL := Lib.hid hql
          clear hql
          have p0 : 0 < pa := hpa
          have p1' : ((q.length : Int) == 128) = false := by rw [beq_eq_false_iff_ne]; have := HQL.out; omega
          have HPB := Lib.hid (show ptB pa s q = false by unfold ptB; exact decide_eq_false fun h => HQL.out h.2.1)
          have hG0 : Below w4.heap.size w4 w4.drew := (Below.refl _ _).drew
          refine wp_region_list 18 [(fun y_ _ => y_ = .agg #[.int .i64 pa, .int .u32 (s : Int)]),
            (fun y_ _ => y_ = .slice A q.length c),
            (fun y_ _ => y_ = .bool false),
            (fun y_ _ => y_ = .pointer (some ⟨w.heap.size, 0, none⟩)),
            (fun y_ _ => y_ = .int .i64 pa),
            (fun y_ _ => y_ = .bool true),
            (fun y_ _ => y_ = .bool true),
            (fun y_ _ => y_ = .slice A q.length c),
            (fun y_ _ => y_ = .int .i64 (q.length : Int)),
            (fun y_ _ => y_ = .bool false),
            (fun y_ _ => y_ = .bool false),
            (fun y_ _ => y_ = .bool false),
            (fun y_ _ => y_ = undef),
            (fun y_ _ => y_ = undef),
            (fun y_ _ => y_ = undef),
            (fun y_ _ => y_ = undef),
            (fun y_ _ => y_ = .bool false),
            (fun y_ _ => y_ = .bool false)]
            (fun x => Below w4.heap.size w4 x) (by kernel_rfl) rfl (by kernel_rfl) ?_ ?_ ?_ ?_
          · exact hG0
          · exact ⟨stab_eq _, stab_eq _, stab_eq _, stab_eq _, stab_eq _, stab_eq _, stab_eq _, stab_eq _, stab_eq _, stab_eq _, stab_eq _, stab_eq _, stab_eq _, stab_eq _, stab_eq _, stab_eq _, stab_eq _, stab_eq _, trivial⟩
          · refine ⟨?_, ?_, ?_, ?_, ?_, ?_, ?_, ?_, ?_, ?_, ?_, ?_, ?_, ?_, ?_, ?_, ?_, ?_, trivial⟩
            · intro a x hG hd hs K hK
              have h5 : a.tmps.getD 5 undef = .pointer (some ⟨w.heap.size, 0, none⟩) := hs 5 (by kernel_rfl)
              clear hd hs
              refine wpOp_plain rfl rfl ?_
              have kx := k4.ext hG
              have x0 := kx.cell 0
              have x1 := kx.cell 1
              simp only [List.getElem?_cons_zero, List.getElem?_cons_succ] at x0 x1
              go_simp
              exact hK _ _ rfl hG (Below.refl _ _)
            · intro a x hG hd hs K hK
              have h1 : a.tmps.getD 1 undef = .slice A q.length c := hs 1 (by kernel_rfl)
              clear hd hs
              refine wpOp_plain rfl rfl ?_
              go_simp
              exact hK _ _ rfl hG (Below.refl _ _)
            · intro a x hG hd hs K hK
              have h21 : a.tmps.getD 21 undef = .agg #[.int .i64 pa, .int .u32 (s : Int)] := hd 0 21 (by kernel_rfl)
              have h22 : a.tmps.getD 22 undef = .slice A q.length c := hd 1 22 (by kernel_rfl)
              clear hd hs
              refine wpOp_plain rfl rfl ?_
              go_simp
              refine (points_any _ pa s _ w.heap.size q (HH4.out.ext hG) (HQ4.out.ext HS4.out hG) (Nat.le_trans HS4.out hG.size)).mono ?_
              rintro e w' ⟨rfl, hb⟩
              rw [HPB.out]
              exact hK _ _ rfl (hG.trans (hb.mono hG.size)) hb
            · intro a x hG hd hs K hK
              have h5 : a.tmps.getD 5 undef = .pointer (some ⟨w.heap.size, 0, none⟩) := hs 5 (by kernel_rfl)
              clear hd hs
              refine wpOp_plain rfl rfl ?_
              go_simp
              exact hK _ _ rfl hG (Below.refl _ _)
            · intro a x hG hd hs K hK
              have h24 : a.tmps.getD 24 undef = .pointer (some ⟨w.heap.size, 0, none⟩) := hd 3 24 (by kernel_rfl)
              clear hd hs
              refine wpOp_plain rfl rfl ?_
              have x0 := (k4.ext hG).cell 0
              simp only [List.getElem?_cons_zero] at x0
              go_simp
              exact hK _ _ rfl hG (Below.refl _ _)
            · intro a x hG hd hs K hK
              have h25 : a.tmps.getD 25 undef = .int .i64 pa := hd 4 25 (by kernel_rfl)
              clear hd hs
              refine wpOp_plain rfl rfl ?_
              go_simp
              exact hK _ _ rfl hG (Below.refl _ _)
            · intro a x hG hd hs K hK
              have h26 : a.tmps.getD 26 undef = .bool true := hd 5 26 (by kernel_rfl)
              clear hd hs
              refine wpOp_plain rfl rfl ?_
              go_simp
              exact hK _ _ rfl hG (Below.refl _ _)
            · intro a x hG hd hs K hK
              have h1 : a.tmps.getD 1 undef = .slice A q.length c := hs 1 (by kernel_rfl)
              have h27 : a.tmps.getD 27 undef = .bool true := hd 6 27 (by kernel_rfl)
              clear hd hs
              refine wpOp_yes rfl rfl rfl h27 ?_
              go_simp
              exact hK _ _ rfl hG (Below.refl _ _)
            · intro a x hG hd hs K hK
              have h28 : a.tmps.getD 28 undef = .slice A q.length c := hd 7 28 (by kernel_rfl)
              have h27 : a.tmps.getD 27 undef = .bool true := hd 6 27 (by kernel_rfl)
              clear hd hs
              refine wpOp_yes rfl rfl rfl h27 ?_
              go_simp
              exact hK _ _ rfl hG (Below.refl _ _)
            · intro a x hG hd hs K hK
              have h29 : a.tmps.getD 29 undef = .int .i64 (q.length : Int) := hd 8 29 (by kernel_rfl)
              have h27 : a.tmps.getD 27 undef = .bool true := hd 6 27 (by kernel_rfl)
              clear hd hs
              refine wpOp_yes rfl rfl rfl h27 ?_
              go_simp
              exact hK _ _ rfl hG (Below.refl _ _)
            · intro a x hG hd hs K hK
              have h27 : a.tmps.getD 27 undef = .bool true := hd 6 27 (by kernel_rfl)
              have h30 : a.tmps.getD 30 undef = .bool false := hd 9 30 (by kernel_rfl)
              clear hd hs
              refine wpOp_plain rfl rfl ?_
              go_simp
              exact hK _ _ rfl hG (Below.refl _ _)
            · intro a x hG hd hs K hK
              have h31 : a.tmps.getD 31 undef = .bool false := hd 10 31 (by kernel_rfl)
              clear hd hs
              refine wpOp_plain rfl rfl ?_
              go_simp
              exact hK _ _ rfl hG (Below.refl _ _)
            · intro a x hG hd hs K hK
              have h5 : a.tmps.getD 5 undef = .pointer (some ⟨w.heap.size, 0, none⟩) := hs 5 (by kernel_rfl)
              have h32 : a.tmps.getD 32 undef = .bool false := hd 11 32 (by kernel_rfl)
              clear hd hs
              refine wpOp_no rfl rfl rfl h32 ?_
              exact hK _ _ rfl hG (Below.refl _ _)
            · intro a x hG hd hs K hK
              have h33 : a.tmps.getD 33 undef = undef := hd 12 33 (by kernel_rfl)
              have h32 : a.tmps.getD 32 undef = .bool false := hd 11 32 (by kernel_rfl)
              clear hd hs
              refine wpOp_no rfl rfl rfl h32 ?_
              exact hK _ _ rfl hG (Below.refl _ _)
            · intro a x hG hd hs K hK
              have h9 : a.tmps.getD 9 undef = .int .u32 (Crc.sum q : Nat) := hs 9 (by kernel_rfl)
              have h32 : a.tmps.getD 32 undef = .bool false := hd 11 32 (by kernel_rfl)
              clear hd hs
              refine wpOp_no rfl rfl rfl h32 ?_
              exact hK _ _ rfl hG (Below.refl _ _)
            · intro a x hG hd hs K hK
              have h34 : a.tmps.getD 34 undef = undef := hd 13 34 (by kernel_rfl)
              have h35 : a.tmps.getD 35 undef = undef := hd 14 35 (by kernel_rfl)
              have h32 : a.tmps.getD 32 undef = .bool false := hd 11 32 (by kernel_rfl)
              clear hd hs
              refine wpOp_no rfl rfl rfl h32 ?_
              exact hK _ _ rfl hG (Below.refl _ _)
            · intro a x hG hd hs K hK
              have h32 : a.tmps.getD 32 undef = .bool false := hd 11 32 (by kernel_rfl)
              have h36 : a.tmps.getD 36 undef = undef := hd 15 36 (by kernel_rfl)
              clear hd hs
              refine wpOp_plain rfl rfl ?_
              go_simp
              exact hK _ _ rfl hG (Below.refl _ _)
            · intro a x hG hd hs K hK
              have h23 : a.tmps.getD 23 undef = .bool false := hd 2 23 (by kernel_rfl)
              have h37 : a.tmps.getD 37 undef = .bool false := hd 16 37 (by kernel_rfl)
              clear hd hs
              refine wpOp_plain rfl rfl ?_
              go_simp
              exact hK _ _ rfl hG (Below.refl _ _)
          · intro x hG
            rintro _ rfl _ rfl _ rfl _ rfl _ rfl _ rfl _ rfl _ rfl _ rfl _ rfl _ rfl _ rfl _ rfl _ rfl _ rfl _ rfl _ rfl _ rfl
            simp only [Act.put, List.setIfInBounds_toArray, List.set_cons_zero, List.set_cons_succ, REnd]
            try simp only [Exit.then]
            have kx := j4.ext hG
            have y0 := kx.cell 0
            have y1 := kx.cell 1
            simp only [List.getElem?_cons_zero, List.getElem?_cons_succ] at y0 y1
            have c5 := c4.trans (hG.mono c4.size)
            clear hG k4 j4 kx HQ4
            go_wp2_with fail
            refine (awake_any _ (hH.ext c5)).mono ?_
            rintro e w6 ⟨rfl, b6⟩
            go_wp2
            go_ret
            exact ⟨rfl, c5.trans (b6.mono c5.size)⟩
      · skip
        have p0 : ¬ 0 < pa := hpa
        have HPB := Lib.hid (show ptB pa s q = false by unfold ptB; exact decide_eq_false fun h => p0 h.1)
        have hG0 : Below w4.heap.size w4 w4.drew := (Below.refl _ _).drew
        refine wp_region_list 18 [(fun y_ _ => y_ = .agg #[.int .i64 pa, .int .u32 (s : Int)]),
          (fun y_ _ => y_ = .slice A q.length c),
          (fun y_ _ => y_ = .bool false),
          (fun y_ _ => y_ = .pointer (some ⟨w.heap.size, 0, none⟩)),
          (fun y_ _ => y_ = .int .i64 pa),
          (fun y_ _ => y_ = .bool false),
          (fun y_ _ => y_ = .bool false),
          (fun y_ _ => y_ = undef),
          (fun y_ _ => y_ = undef),
          (fun y_ _ => y_ = undef),
          (fun y_ _ => y_ = .bool false),
          (fun y_ _ => y_ = .bool false),
          (fun y_ _ => y_ = undef),
          (fun y_ _ => y_ = undef),
          (fun y_ _ => y_ = undef),
          (fun y_ _ => y_ = undef),
          (fun y_ _ => y_ = .bool false),
          (fun y_ _ => y_ = .bool false)]
          (fun x => Below w4.heap.size w4 x) (by kernel_rfl) rfl (by kernel_rfl) ?_ ?_ ?_ ?_
        · exact hG0
        · exact ⟨stab_eq _, stab_eq _, stab_eq _, stab_eq _, stab_eq _, stab_eq _, stab_eq _, stab_eq _, stab_eq _, stab_eq _, stab_eq _, stab_eq _, stab_eq _, stab_eq _, stab_eq _, stab_eq _, stab_eq _, stab_eq _, trivial⟩
        · refine ⟨?_, ?_, ?_, ?_, ?_, ?_, ?_, ?_, ?_, ?_, ?_, ?_, ?_, ?_, ?_, ?_, ?_, ?_, trivial⟩
          · intro a x hG hd hs K hK
            have h5 : a.tmps.getD 5 undef = .pointer (some ⟨w.heap.size, 0, none⟩) := hs 5 (by kernel_rfl)
            clear hd hs
            refine wpOp_plain rfl rfl ?_
            have kx := k4.ext hG
            have x0 := kx.cell 0
            have x1 := kx.cell 1
            simp only [List.getElem?_cons_zero, List.getElem?_cons_succ] at x0 x1
            go_simp
            exact hK _ _ rfl hG (Below.refl _ _)
          · intro a x hG hd hs K hK
            have h1 : a.tmps.getD 1 undef = .slice A q.length c := hs 1 (by kernel_rfl)
            clear hd hs
            refine wpOp_plain rfl rfl ?_
            go_simp
            exact hK _ _ rfl hG (Below.refl _ _)
          · intro a x hG hd hs K hK
            have h21 : a.tmps.getD 21 undef = .agg #[.int .i64 pa, .int .u32 (s : Int)] := hd 0 21 (by kernel_rfl)
            have h22 : a.tmps.getD 22 undef = .slice A q.length c := hd 1 22 (by kernel_rfl)
            clear hd hs
            refine wpOp_plain rfl rfl ?_
            go_simp
            refine (points_any _ pa s _ w.heap.size q (HH4.out.ext hG) (HQ4.out.ext HS4.out hG) (Nat.le_trans HS4.out hG.size)).mono ?_
            rintro e w' ⟨rfl, hb⟩
            rw [HPB.out]
            exact hK _ _ rfl (hG.trans (hb.mono hG.size)) hb
          · intro a x hG hd hs K hK
            have h5 : a.tmps.getD 5 undef = .pointer (some ⟨w.heap.size, 0, none⟩) := hs 5 (by kernel_rfl)
            clear hd hs
            refine wpOp_plain rfl rfl ?_
            go_simp
            exact hK _ _ rfl hG (Below.refl _ _)
          · intro a x hG hd hs K hK
            have h24 : a.tmps.getD 24 undef = .pointer (some ⟨w.heap.size, 0, none⟩) := hd 3 24 (by kernel_rfl)
            clear hd hs
            refine wpOp_plain rfl rfl ?_
            have x0 := (k4.ext hG).cell 0
            simp only [List.getElem?_cons_zero] at x0
            go_simp
            exact hK _ _ rfl hG (Below.refl _ _)
          · intro a x hG hd hs K hK
            have h25 : a.tmps.getD 25 undef = .int .i64 pa := hd 4 25 (by kernel_rfl)
            clear hd hs
            refine wpOp_plain rfl rfl ?_
            go_simp
            exact hK _ _ rfl hG (Below.refl _ _)
          · intro a x hG hd hs K hK
            have h26 : a.tmps.getD 26 undef = .bool false := hd 5 26 (by kernel_rfl)
            clear hd hs
            refine wpOp_plain rfl rfl ?_
            go_simp
            exact hK _ _ rfl hG (Below.refl _ _)
          · intro a x hG hd hs K hK
            have h1 : a.tmps.getD 1 undef = .slice A q.length c := hs 1 (by kernel_rfl)
            have h27 : a.tmps.getD 27 undef = .bool false := hd 6 27 (by kernel_rfl)
            clear hd hs
            refine wpOp_no rfl rfl rfl h27 ?_
            exact hK _ _ rfl hG (Below.refl _ _)
          · intro a x hG hd hs K hK
            have h28 : a.tmps.getD 28 undef = undef := hd 7 28 (by kernel_rfl)
            have h27 : a.tmps.getD 27 undef = .bool false := hd 6 27 (by kernel_rfl)
            clear hd hs
            refine wpOp_no rfl rfl rfl h27 ?_
            exact hK _ _ rfl hG (Below.refl _ _)
          · intro a x hG hd hs K hK
            have h29 : a.tmps.getD 29 undef = undef := hd 8 29 (by kernel_rfl)
            have h27 : a.tmps.getD 27 undef = .bool false := hd 6 27 (by kernel_rfl)
            clear hd hs
            refine wpOp_no rfl rfl rfl h27 ?_
            exact hK _ _ rfl hG (Below.refl _ _)
          · intro a x hG hd hs K hK
            have h27 : a.tmps.getD 27 undef = .bool false := hd 6 27 (by kernel_rfl)
            have h30 : a.tmps.getD 30 undef = undef := hd 9 30 (by kernel_rfl)
            clear hd hs
            refine wpOp_plain rfl rfl ?_
            go_simp
            exact hK _ _ rfl hG (Below.refl _ _)
          · intro a x hG hd hs K hK
            have h31 : a.tmps.getD 31 undef = .bool false := hd 10 31 (by kernel_rfl)
            clear hd hs
            refine wpOp_plain rfl rfl ?_
            go_simp
            exact hK _ _ rfl hG (Below.refl _ _)
          · intro a x hG hd hs K hK
            have h5 : a.tmps.getD 5 undef = .pointer (some ⟨w.heap.size, 0, none⟩) := hs 5 (by kernel_rfl)
            have h32 : a.tmps.getD 32 undef = .bool false := hd 11 32 (by kernel_rfl)
            clear hd hs
            refine wpOp_no rfl rfl rfl h32 ?_
            exact hK _ _ rfl hG (Below.refl _ _)
          · intro a x hG hd hs K hK
            have h33 : a.tmps.getD 33 undef = undef := hd 12 33 (by kernel_rfl)
            have h32 : a.tmps.getD 32 undef = .bool false := hd 11 32 (by kernel_rfl)
            clear hd hs
            refine wpOp_no rfl rfl rfl h32 ?_
            exact hK _ _ rfl hG (Below.refl _ _)
          · intro a x hG hd hs K hK
            have h9 : a.tmps.getD 9 undef = .int .u32 (Crc.sum q : Nat) := hs 9 (by kernel_rfl)
            have h32 : a.tmps.getD 32 undef = .bool false := hd 11 32 (by kernel_rfl)
            clear hd hs
            refine wpOp_no rfl rfl rfl h32 ?_
            exact hK _ _ rfl hG (Below.refl _ _)
          · intro a x hG hd hs K hK
            have h34 : a.tmps.getD 34 undef = undef := hd 13 34 (by kernel_rfl)
            have h35 : a.tmps.getD 35 undef = undef := hd 14 35 (by kernel_rfl)
            have h32 : a.tmps.getD 32 undef = .bool false := hd 11 32 (by kernel_rfl)
            clear hd hs
            refine wpOp_no rfl rfl rfl h32 ?_
            exact hK _ _ rfl hG (Below.refl _ _)
          · intro a x hG hd hs K hK
            have h32 : a.tmps.getD 32 undef = .bool false := hd 11 32 (by kernel_rfl)
            have h36 : a.tmps.getD 36 undef = undef := hd 15 36 (by kernel_rfl)
            clear hd hs
            refine wpOp_plain rfl rfl ?_
            go_simp
            exact hK _ _ rfl hG (Below.refl _ _)
          · intro a x hG hd hs K hK
            have h23 : a.tmps.getD 23 undef = .bool false := hd 2 23 (by kernel_rfl)
            have h37 : a.tmps.getD 37 undef = .bool false := hd 16 37 (by kernel_rfl)
            clear hd hs
            refine wpOp_plain rfl rfl ?_
            go_simp
            exact hK _ _ rfl hG (Below.refl _ _)
        · intro x hG
          rintro _ rfl _ rfl _ rfl _ rfl _ rfl _ rfl _ rfl _ rfl _ rfl _ rfl _ rfl _ rfl _ rfl _ rfl _ rfl _ rfl _ rfl _ rfl
          simp only [Act.put, List.setIfInBounds_toArray, List.set_cons_zero, List.set_cons_succ, REnd]
          try simp only [Exit.then]
          have kx := j4.ext hG
          have y0 := kx.cell 0
          have y1 := kx.cell 1
          simp only [List.getElem?_cons_zero, List.getElem?_cons_succ] at y0 y1
          have c5 := c4.trans (hG.mono c4.size)
          clear hG k4 j4 kx HQ4
          go_wp2_with fail
          refine (awake_any _ (hH.ext c5)).mono ?_
          rintro e w6 ⟨rfl, b6⟩
          go_wp2
          go_ret
          exact ⟨rfl, c5.trans (b6.mono c5.size)⟩
    · by_cases hql : q.length = 128
      · skip
        have HPT := Lib.hid (show ptB z (Crc.sum q) q = true by unfold ptB; exact decide_eq_true ⟨by omega, hql, rfl⟩)
        have HQL := Lib.hid hql
        have f0 : ¬ z < 1 := by omega
        have f1 : ¬ 2147483647 < z := by omega
        have f2 : ((q.length : Int) != 128) = false := by rw [bne_eq_false_iff_eq]; omega
        clear hql
        refine (to_yes w1 z _ w.heap.size q HH1.out HQ1.out HS1.out (by unfold toB; exact decide_eq_true (by have := HQL.out; omega))).mono ?_
        rintro e w2 ⟨rfl, b2⟩
        have k2 := k1.ext b2
        have d2 := b2.mono c1.size
        have c2 := c1.trans d2
        clear b2 k1
        go_wp2_with fail
        have j3 := Blk.new w2 24 #[.int .i64 z, .int .u32 (Crc.sum q : Nat)]
        have k3 := k2.alloc (.cells #[.int .i64 z, .int .u32 (Crc.sum q : Nat)] 24)
        have c3 := c2.alloc c2.size (.cells #[.int .i64 z, .int .u32 (Crc.sum q : Nat)] 24)
        have d3 := d2.alloc c2.size (.cells #[.int .i64 z, .int .u32 (Crc.sum q : Nat)] 24)
        generalize hW : w2.alloc (.cells #[.int .i64 z, .int .u32 (Crc.sum q : Nat)] 24) = w4 at *
        clear hW
        have c4 := c3
        have k4 := k3
        have j4 := j3
        have HQ4 := Lib.hid (show Bs w4 w.heap.size _ q from Rds.below HQ1.out d3)
        clear c3 k3 j3 c2 k2 d3 d2 HQ1
        have HS4 := Lib.hid c4.size
        have HH4 := Lib.hid (hH.ext c4)
        have hst := run_string_of (P := Tryd.prog) HQ4.out 28 9 5 Tryd.underlying28 Tryd.underlying5 Tryd.underlying9
        go_wp2_with fail
        clear hst
        refine (rsum_any w4 q (by omega)).mono ?_
        rintro e w' ⟨rfl, rfl⟩
        go_wp2_with fail
        by_cases hpa : 0 < pa
        · skip
          by_cases hsq : s = Crc.sum q
          · skip
            have p0 : 0 < pa := hpa
            have p1' : ((q.length : Int) == 128) = true := by rw [beq_iff_eq]; have := HQL.out; omega
            have p2' : ((s : Int) == ((Crc.sum q : Nat) : Int)) = true := by rw [beq_iff_eq]; omega
            have HPB := Lib.hid (show ptB pa s q = true by unfold ptB; exact decide_eq_true ⟨p0, HQL.out, hsq.symm⟩)
            clear hsq
            have hG0 : Below w4.heap.size w4 w4.drew := (Below.refl _ _).drew
            refine wp_region_list 18 [(fun y_ _ => y_ = .agg #[.int .i64 pa, .int .u32 (s : Int)]),
              (fun y_ _ => y_ = .slice A q.length c),
              (fun y_ _ => y_ = .bool true),
              (fun y_ _ => y_ = .pointer (some ⟨w.heap.size, 0, none⟩)),
              (fun y_ _ => y_ = .int .i64 pa),
              (fun y_ _ => y_ = .bool true),
              (fun y_ _ => y_ = .bool true),
              (fun y_ _ => y_ = .slice A q.length c),
              (fun y_ _ => y_ = .int .i64 (q.length : Int)),
              (fun y_ _ => y_ = .bool true),
              (fun y_ _ => y_ = .bool true),
              (fun y_ _ => y_ = .bool true),
              (fun y_ _ => y_ = .pointer (some ⟨w.heap.size, 1, none⟩)),
              (fun y_ _ => y_ = .int .u32 (s : Int)),
              (fun y_ _ => y_ = .int .u32 (Crc.sum q : Nat)),
              (fun y_ _ => y_ = .bool true),
              (fun y_ _ => y_ = .bool true),
              (fun y_ _ => y_ = .bool false)]
              (fun x => Below w4.heap.size w4 x) (by kernel_rfl) rfl (by kernel_rfl) ?_ ?_ ?_ ?_
            · exact hG0
            · exact ⟨stab_eq _, stab_eq _, stab_eq _, stab_eq _, stab_eq _, stab_eq _, stab_eq _, stab_eq _, stab_eq _, stab_eq _, stab_eq _, stab_eq _, stab_eq _, stab_eq _, stab_eq _, stab_eq _, stab_eq _, stab_eq _, trivial⟩
            · refine ⟨?_, ?_, ?_, ?_, ?_, ?_, ?_, ?_, ?_, ?_, ?_, ?_, ?_, ?_, ?_, ?_, ?_, ?_, trivial⟩
              · intro a x hG hd hs K hK
                have h5 : a.tmps.getD 5 undef = .pointer (some ⟨w.heap.size, 0, none⟩) := hs 5 (by kernel_rfl)
                clear hd hs
                refine wpOp_plain rfl rfl ?_
                have kx := k4.ext hG
                have x0 := kx.cell 0
                have x1 := kx.cell 1
                simp only [List.getElem?_cons_zero, List.getElem?_cons_succ] at x0 x1
                go_simp
                exact hK _ _ rfl hG (Below.refl _ _)
              · intro a x hG hd hs K hK
                have h1 : a.tmps.getD 1 undef = .slice A q.length c := hs 1 (by kernel_rfl)
                clear hd hs
                refine wpOp_plain rfl rfl ?_
                go_simp
                exact hK _ _ rfl hG (Below.refl _ _)
              · intro a x hG hd hs K hK
                have h21 : a.tmps.getD 21 undef = .agg #[.int .i64 pa, .int .u32 (s : Int)] := hd 0 21 (by kernel_rfl)
                have h22 : a.tmps.getD 22 undef = .slice A q.length c := hd 1 22 (by kernel_rfl)
                clear hd hs
                refine wpOp_plain rfl rfl ?_
                go_simp
                refine (points_any _ pa s _ w.heap.size q (HH4.out.ext hG) (HQ4.out.ext HS4.out hG) (Nat.le_trans HS4.out hG.size)).mono ?_
                rintro e w' ⟨rfl, hb⟩
                rw [HPB.out]
                exact hK _ _ rfl (hG.trans (hb.mono hG.size)) hb
              · intro a x hG hd hs K hK
                have h5 : a.tmps.getD 5 undef = .pointer (some ⟨w.heap.size, 0, none⟩) := hs 5 (by kernel_rfl)
                clear hd hs
                refine wpOp_plain rfl rfl ?_
                go_simp
                exact hK _ _ rfl hG (Below.refl _ _)
              · intro a x hG hd hs K hK
                have h24 : a.tmps.getD 24 undef = .pointer (some ⟨w.heap.size, 0, none⟩) := hd 3 24 (by kernel_rfl)
                clear hd hs
                refine wpOp_plain rfl rfl ?_
                have x0 := (k4.ext hG).cell 0
                simp only [List.getElem?_cons_zero] at x0
                go_simp
                exact hK _ _ rfl hG (Below.refl _ _)
              · intro a x hG hd hs K hK
                have h25 : a.tmps.getD 25 undef = .int .i64 pa := hd 4 25 (by kernel_rfl)
                clear hd hs
                refine wpOp_plain rfl rfl ?_
                go_simp
                exact hK _ _ rfl hG (Below.refl _ _)
              · intro a x hG hd hs K hK
                have h26 : a.tmps.getD 26 undef = .bool true := hd 5 26 (by kernel_rfl)
                clear hd hs
                refine wpOp_plain rfl rfl ?_
                go_simp
                exact hK _ _ rfl hG (Below.refl _ _)
              · intro a x hG hd hs K hK
                have h1 : a.tmps.getD 1 undef = .slice A q.length c := hs 1 (by kernel_rfl)
                have h27 : a.tmps.getD 27 undef = .bool true := hd 6 27 (by kernel_rfl)
                clear hd hs
                refine wpOp_yes rfl rfl rfl h27 ?_
                go_simp
                exact hK _ _ rfl hG (Below.refl _ _)
              · intro a x hG hd hs K hK
                have h28 : a.tmps.getD 28 undef = .slice A q.length c := hd 7 28 (by kernel_rfl)
                have h27 : a.tmps.getD 27 undef = .bool true := hd 6 27 (by kernel_rfl)
                clear hd hs
                refine wpOp_yes rfl rfl rfl h27 ?_
                go_simp
                exact hK _ _ rfl hG (Below.refl _ _)
              · intro a x hG hd hs K hK
                have h29 : a.tmps.getD 29 undef = .int .i64 (q.length : Int) := hd 8 29 (by kernel_rfl)
                have h27 : a.tmps.getD 27 undef = .bool true := hd 6 27 (by kernel_rfl)
                clear hd hs
                refine wpOp_yes rfl rfl rfl h27 ?_
                go_simp
                exact hK _ _ rfl hG (Below.refl _ _)
              · intro a x hG hd hs K hK
                have h27 : a.tmps.getD 27 undef = .bool true := hd 6 27 (by kernel_rfl)
                have h30 : a.tmps.getD 30 undef = .bool true := hd 9 30 (by kernel_rfl)
                clear hd hs
                refine wpOp_plain rfl rfl ?_
                go_simp
                exact hK _ _ rfl hG (Below.refl _ _)
              · intro a x hG hd hs K hK
                have h31 : a.tmps.getD 31 undef = .bool true := hd 10 31 (by kernel_rfl)
                clear hd hs
                refine wpOp_plain rfl rfl ?_
                go_simp
                exact hK _ _ rfl hG (Below.refl _ _)
              · intro a x hG hd hs K hK
                have h5 : a.tmps.getD 5 undef = .pointer (some ⟨w.heap.size, 0, none⟩) := hs 5 (by kernel_rfl)
                have h32 : a.tmps.getD 32 undef = .bool true := hd 11 32 (by kernel_rfl)
                clear hd hs
                refine wpOp_yes rfl rfl rfl h32 ?_
                go_simp
                exact hK _ _ rfl hG (Below.refl _ _)
              · intro a x hG hd hs K hK
                have h33 : a.tmps.getD 33 undef = .pointer (some ⟨w.heap.size, 1, none⟩) := hd 12 33 (by kernel_rfl)
                have h32 : a.tmps.getD 32 undef = .bool true := hd 11 32 (by kernel_rfl)
                clear hd hs
                refine wpOp_yes rfl rfl rfl h32 ?_
                have x1 := (k4.ext hG).cell 1
                simp only [List.getElem?_cons_zero, List.getElem?_cons_succ] at x1
                go_simp
                exact hK _ _ rfl hG (Below.refl _ _)
              · intro a x hG hd hs K hK
                have h9 : a.tmps.getD 9 undef = .int .u32 (Crc.sum q : Nat) := hs 9 (by kernel_rfl)
                have h32 : a.tmps.getD 32 undef = .bool true := hd 11 32 (by kernel_rfl)
                clear hd hs
                refine wpOp_yes rfl rfl rfl h32 ?_
                go_simp
                exact hK _ _ rfl hG (Below.refl _ _)
              · intro a x hG hd hs K hK
                have h34 : a.tmps.getD 34 undef = .int .u32 (s : Int) := hd 13 34 (by kernel_rfl)
                have h35 : a.tmps.getD 35 undef = .int .u32 (Crc.sum q : Nat) := hd 14 35 (by kernel_rfl)
                have h32 : a.tmps.getD 32 undef = .bool true := hd 11 32 (by kernel_rfl)
                clear hd hs
                refine wpOp_yes rfl rfl rfl h32 ?_
                go_simp
                exact hK _ _ rfl hG (Below.refl _ _)
              · intro a x hG hd hs K hK
                have h32 : a.tmps.getD 32 undef = .bool true := hd 11 32 (by kernel_rfl)
                have h36 : a.tmps.getD 36 undef = .bool true := hd 15 36 (by kernel_rfl)
                clear hd hs
                refine wpOp_plain rfl rfl ?_
                go_simp
                exact hK _ _ rfl hG (Below.refl _ _)
              · intro a x hG hd hs K hK
                have h23 : a.tmps.getD 23 undef = .bool true := hd 2 23 (by kernel_rfl)
                have h37 : a.tmps.getD 37 undef = .bool true := hd 16 37 (by kernel_rfl)
                clear hd hs
                refine wpOp_plain rfl rfl ?_
                go_simp
                exact hK _ _ rfl hG (Below.refl _ _)
            · intro x hG
              rintro _ rfl _ rfl _ rfl _ rfl _ rfl _ rfl _ rfl _ rfl _ rfl _ rfl _ rfl _ rfl _ rfl _ rfl _ rfl _ rfl _ rfl _ rfl
              simp only [Act.put, List.setIfInBounds_toArray, List.set_cons_zero, List.set_cons_succ, REnd]
              try simp only [Exit.then]
              have kx := j4.ext hG
              have y0 := kx.cell 0
              have y1 := kx.cell 1
              simp only [List.getElem?_cons_zero, List.getElem?_cons_succ] at y0 y1
              have c5 := c4.trans (hG.mono c4.size)
              have HQ5 := Lib.hid (HQ4.out.ext HS4.out hG)
              have hs5 := hG.size
              clear hG k4 j4 kx HQ4
              go_wp2_with fail
              refine (points_any _ z (Crc.sum q) _ w.heap.size q (hH.ext c5) HQ5.out (Nat.le_trans HS4.out hs5)).mono ?_
              rintro e w6 ⟨rfl, b6⟩
              rw [HPT.out]
              have c6 := c5.trans (b6.mono c5.size)
              go_wp2_with fail
              refine (awake_any _ (hH.ext c6)).mono ?_
              rintro e w7 ⟨rfl, b7⟩
              go_wp2
              go_ret
              exact ⟨rfl, c6.trans (b7.mono c6.size)⟩
          · skip
            have p0 : 0 < pa := hpa
            have p1' : ((q.length : Int) == 128) = true := by rw [beq_iff_eq]; have := HQL.out; omega
            have p2' : ((s : Int) == ((Crc.sum q : Nat) : Int)) = false := by rw [beq_eq_false_iff_ne]; omega
            have HPB := Lib.hid (show ptB pa s q = false by unfold ptB; exact decide_eq_false fun h => hsq h.2.2.symm)
            clear hsq
            have hG0 : Below w4.heap.size w4 w4.drew := (Below.refl _ _).drew
            refine wp_region_list 18 [(fun y_ _ => y_ = .agg #[.int .i64 pa, .int .u32 (s : Int)]),
              (fun y_ _ => y_ = .slice A q.length c),
              (fun y_ _ => y_ = .bool false),
              (fun y_ _ => y_ = .pointer (some ⟨w.heap.size, 0, none⟩)),
              (fun y_ _ => y_ = .int .i64 pa),
              (fun y_ _ => y_ = .bool true),
              (fun y_ _ => y_ = .bool true),
              (fun y_ _ => y_ = .slice A q.length c),
              (fun y_ _ => y_ = .int .i64 (q.length : Int)),
              (fun y_ _ => y_ = .bool true),
              (fun y_ _ => y_ = .bool true),
              (fun y_ _ => y_ = .bool true),
              (fun y_ _ => y_ = .pointer (some ⟨w.heap.size, 1, none⟩)),
              (fun y_ _ => y_ = .int .u32 (s : Int)),
              (fun y_ _ => y_ = .int .u32 (Crc.sum q : Nat)),
              (fun y_ _ => y_ = .bool false),
              (fun y_ _ => y_ = .bool false),
              (fun y_ _ => y_ = .bool false)]
              (fun x => Below w4.heap.size w4 x) (by kernel_rfl) rfl (by kernel_rfl) ?_ ?_ ?_ ?_
            · exact hG0
            · exact ⟨stab_eq _, stab_eq _, stab_eq _, stab_eq _, stab_eq _, stab_eq _, stab_eq _, stab_eq _, stab_eq _, stab_eq _, stab_eq _, stab_eq _, stab_eq _, stab_eq _, stab_eq _, stab_eq _, stab_eq _, stab_eq _, trivial⟩
            · refine ⟨?_, ?_, ?_, ?_, ?_, ?_, ?_, ?_, ?_, ?_, ?_, ?_, ?_, ?_, ?_, ?_, ?_, ?_, trivial⟩
              · intro a x hG hd hs K hK
                have h5 : a.tmps.getD 5 undef = .pointer (some ⟨w.heap.size, 0, none⟩) := hs 5 (by kernel_rfl)
                clear hd hs
                refine wpOp_plain rfl rfl ?_
                have kx := k4.ext hG
                have x0 := kx.cell 0
                have x1 := kx.cell 1
                simp only [List.getElem?_cons_zero, List.getElem?_cons_succ] at x0 x1
                go_simp
                exact hK _ _ rfl hG (Below.refl _ _)
              · intro a x hG hd hs K hK
                have h1 : a.tmps.getD 1 undef = .slice A q.length c := hs 1 (by kernel_rfl)
                clear hd hs
                refine wpOp_plain rfl rfl ?_
                go_simp
                exact hK _ _ rfl hG (Below.refl _ _)
              · intro a x hG hd hs K hK
                have h21 : a.tmps.getD 21 undef = .agg #[.int .i64 pa, .int .u32 (s : Int)] := hd 0 21 (by kernel_rfl)
                have h22 : a.tmps.getD 22 undef = .slice A q.length c := hd 1 22 (by kernel_rfl)
                clear hd hs
                refine wpOp_plain rfl rfl ?_
                go_simp
                refine (points_any _ pa s _ w.heap.size q (HH4.out.ext hG) (HQ4.out.ext HS4.out hG) (Nat.le_trans HS4.out hG.size)).mono ?_
                rintro e w' ⟨rfl, hb⟩
                rw [HPB.out]
                exact hK _ _ rfl (hG.trans (hb.mono hG.size)) hb
              · intro a x hG hd hs K hK
                have h5 : a.tmps.getD 5 undef = .pointer (some ⟨w.heap.size, 0, none⟩) := hs 5 (by kernel_rfl)
                clear hd hs
                refine wpOp_plain rfl rfl ?_
                go_simp
                exact hK _ _ rfl hG (Below.refl _ _)
              · intro a x hG hd hs K hK
                have h24 : a.tmps.getD 24 undef = .pointer (some ⟨w.heap.size, 0, none⟩) := hd 3 24 (by kernel_rfl)
                clear hd hs
                refine wpOp_plain rfl rfl ?_
                have x0 := (k4.ext hG).cell 0
                simp only [List.getElem?_cons_zero] at x0
                go_simp
                exact hK _ _ rfl hG (Below.refl _ _)
              · intro a x hG hd hs K hK
                have h25 : a.tmps.getD 25 undef = .int .i64 pa := hd 4 25 (by kernel_rfl)
                clear hd hs
                refine wpOp_plain rfl rfl ?_
                go_simp
                exact hK _ _ rfl hG (Below.refl _ _)
              · intro a x hG hd hs K hK
                have h26 : a.tmps.getD 26 undef = .bool true := hd 5 26 (by kernel_rfl)
                clear hd hs
                refine wpOp_plain rfl rfl ?_
                go_simp
                exact hK _ _ rfl hG (Below.refl _ _)
              · intro a x hG hd hs K hK
                have h1 : a.tmps.getD 1 undef = .slice A q.length c := hs 1 (by kernel_rfl)
                have h27 : a.tmps.getD 27 undef = .bool true := hd 6 27 (by kernel_rfl)
                clear hd hs
                refine wpOp_yes rfl rfl rfl h27 ?_
                go_simp
                exact hK _ _ rfl hG (Below.refl _ _)
              · intro a x hG hd hs K hK
                have h28 : a.tmps.getD 28 undef = .slice A q.length c := hd 7 28 (by kernel_rfl)
                have h27 : a.tmps.getD 27 undef = .bool true := hd 6 27 (by kernel_rfl)
                clear hd hs
                refine wpOp_yes rfl rfl rfl h27 ?_
                go_simp
                exact hK _ _ rfl hG (Below.refl _ _)
              · intro a x hG hd hs K hK
                have h29 : a.tmps.getD 29 undef = .int .i64 (q.length : Int) := hd 8 29 (by kernel_rfl)
                have h27 : a.tmps.getD 27 undef = .bool true := hd 6 27 (by kernel_rfl)
                clear hd hs
                refine wpOp_yes rfl rfl rfl h27 ?_
                go_simp
                exact hK _ _ rfl hG (Below.refl _ _)
              · intro a x hG hd hs K hK
                have h27 : a.tmps.getD 27 undef = .bool true := hd 6 27 (by kernel_rfl)
                have h30 : a.tmps.getD 30 undef = .bool true := hd 9 30 (by kernel_rfl)
                clear hd hs
                refine wpOp_plain rfl rfl ?_
                go_simp
                exact hK _ _ rfl hG (Below.refl _ _)
              · intro a x hG hd hs K hK
                have h31 : a.tmps.getD 31 undef = .bool true := hd 10 31 (by kernel_rfl)
                clear hd hs
                refine wpOp_plain rfl rfl ?_
                go_simp
                exact hK _ _ rfl hG (Below.refl _ _)
              · intro a x hG hd hs K hK
                have h5 : a.tmps.getD 5 undef = .pointer (some ⟨w.heap.size, 0, none⟩) := hs 5 (by kernel_rfl)
                have h32 : a.tmps.getD 32 undef = .bool true := hd 11 32 (by kernel_rfl)
                clear hd hs
                refine wpOp_yes rfl rfl rfl h32 ?_
                go_simp
                exact hK _ _ rfl hG (Below.refl _ _)
              · intro a x hG hd hs K hK
                have h33 : a.tmps.getD 33 undef = .pointer (some ⟨w.heap.size, 1, none⟩) := hd 12 33 (by kernel_rfl)
                have h32 : a.tmps.getD 32 undef = .bool true := hd 11 32 (by kernel_rfl)
                clear hd hs
                refine wpOp_yes rfl rfl rfl h32 ?_
                have x1 := (k4.ext hG).cell 1
                simp only [List.getElem?_cons_zero, List.getElem?_cons_succ] at x1
                go_simp
                exact hK _ _ rfl hG (Below.refl _ _)
              · intro a x hG hd hs K hK
                have h9 : a.tmps.getD 9 undef = .int .u32 (Crc.sum q : Nat) := hs 9 (by kernel_rfl)
                have h32 : a.tmps.getD 32 undef = .bool true := hd 11 32 (by kernel_rfl)
                clear hd hs
                refine wpOp_yes rfl rfl rfl h32 ?_
                go_simp
                exact hK _ _ rfl hG (Below.refl _ _)
              · intro a x hG hd hs K hK
                have h34 : a.tmps.getD 34 undef = .int .u32 (s : Int) := hd 13 34 (by kernel_rfl)
                have h35 : a.tmps.getD 35 undef = .int .u32 (Crc.sum q : Nat) := hd 14 35 (by kernel_rfl)
                have h32 : a.tmps.getD 32 undef = .bool true := hd 11 32 (by kernel_rfl)
                clear hd hs
                refine wpOp_yes rfl rfl rfl h32 ?_
                go_simp
                exact hK _ _ rfl hG (Below.refl _ _)
              · intro a x hG hd hs K hK
                have h32 : a.tmps.getD 32 undef = .bool true := hd 11 32 (by kernel_rfl)
                have h36 : a.tmps.getD 36 undef = .bool false := hd 15 36 (by kernel_rfl)
                clear hd hs
                refine wpOp_plain rfl rfl ?_
                go_simp
                exact hK _ _ rfl hG (Below.refl _ _)
              · intro a x hG hd hs K hK
                have h23 : a.tmps.getD 23 undef = .bool false := hd 2 23 (by kernel_rfl)
                have h37 : a.tmps.getD 37 undef = .bool false := hd 16 37 (by kernel_rfl)
                clear hd hs
                refine wpOp_plain rfl rfl ?_
                go_simp
                exact hK _ _ rfl hG (Below.refl _ _)
            · intro x hG
              rintro _ rfl _ rfl _ rfl _ rfl _ rfl _ rfl _ rfl _ rfl _ rfl _ rfl _ rfl _ rfl _ rfl _ rfl _ rfl _ rfl _ rfl _ rfl
              simp only [Act.put, List.setIfInBounds_toArray, List.set_cons_zero, List.set_cons_succ, REnd]
              try simp only [Exit.then]
              have kx := j4.ext hG
              have y0 := kx.cell 0
              have y1 := kx.cell 1
              simp only [List.getElem?_cons_zero, List.getElem?_cons_succ] at y0 y1
              have c5 := c4.trans (hG.mono c4.size)
              have HQ5 := Lib.hid (HQ4.out.ext HS4.out hG)
              have hs5 := hG.size
              clear hG k4 j4 kx HQ4
              go_wp2_with fail
              refine (points_any _ z (Crc.sum q) _ w.heap.size q (hH.ext c5) HQ5.out (Nat.le_trans HS4.out hs5)).mono ?_
              rintro e w6 ⟨rfl, b6⟩
              rw [HPT.out]
              have c6 := c5.trans (b6.mono c5.size)
              go_wp2_with fail
              refine (awake_any _ (hH.ext c6)).mono ?_
              rintro e w7 ⟨rfl, b7⟩
              go_wp2
              go_ret
              exact ⟨rfl, c6.trans (b7.mono c6.size)⟩
        · skip
          have p0 : ¬ 0 < pa := hpa
          have HPB := Lib.hid (show ptB pa s q = false by unfold ptB; exact decide_eq_false fun h => p0 h.1)
          have hG0 : Below w4.heap.size w4 w4.drew := (Below.refl _ _).drew
          refine wp_region_list 18 [(fun y_ _ => y_ = .agg #[.int .i64 pa, .int .u32 (s : Int)]),
            (fun y_ _ => y_ = .slice A q.length c),
            (fun y_ _ => y_ = .bool false),
            (fun y_ _ => y_ = .pointer (some ⟨w.heap.size, 0, none⟩)),
            (fun y_ _ => y_ = .int .i64 pa),
            (fun y_ _ => y_ = .bool false),
            (fun y_ _ => y_ = .bool false),
            (fun y_ _ => y_ = undef),
            (fun y_ _ => y_ = undef),
            (fun y_ _ => y_ = undef),
            (fun y_ _ => y_ = .bool false),
            (fun y_ _ => y_ = .bool false),
            (fun y_ _ => y_ = undef),
            (fun y_ _ => y_ = undef),
            (fun y_ _ => y_ = undef),
            (fun y_ _ => y_ = undef),
            (fun y_ _ => y_ = .bool false),
            (fun y_ _ => y_ = .bool false)]
            (fun x => Below w4.heap.size w4 x) (by kernel_rfl) rfl (by kernel_rfl) ?_ ?_ ?_ ?_
          · exact hG0
          · exact ⟨stab_eq _, stab_eq _, stab_eq _, stab_eq _, stab_eq _, stab_eq _, stab_eq _, stab_eq _, stab_eq _, stab_eq _, stab_eq _, stab_eq _, stab_eq _, stab_eq _, stab_eq _, stab_eq _, stab_eq _, stab_eq _, trivial⟩
          · refine ⟨?_, ?_, ?_, ?_, ?_, ?_, ?_, ?_, ?_, ?_, ?_, ?_, ?_, ?_, ?_, ?_, ?_, ?_, trivial⟩
            · intro a x hG hd hs K hK
              have h5 : a.tmps.getD 5 undef = .pointer (some ⟨w.heap.size, 0, none⟩) := hs 5 (by kernel_rfl)
              clear hd hs
              refine wpOp_plain rfl rfl ?_
              have kx := k4.ext hG
              have x0 := kx.cell 0
              have x1 := kx.cell 1
              simp only [List.getElem?_cons_zero, List.getElem?_cons_succ] at x0 x1
              go_simp
              exact hK _ _ rfl hG (Below.refl _ _)
            · intro a x hG hd hs K hK
              have h1 : a.tmps.getD 1 undef = .slice A q.length c := hs 1 (by kernel_rfl)
              clear hd hs
              refine wpOp_plain rfl rfl ?_
              go_simp
              exact hK _ _ rfl hG (Below.refl _ _)
            · intro a x hG hd hs K hK
              have h21 : a.tmps.getD 21 undef = .agg #[.int .i64 pa, .int .u32 (s : Int)] := hd 0 21 (by kernel_rfl)
              have h22 : a.tmps.getD 22 undef = .slice A q.length c := hd 1 22 (by kernel_rfl)
              clear hd hs
              refine wpOp_plain rfl rfl ?_
              go_simp
              refine (points_any _ pa s _ w.heap.size q (HH4.out.ext hG) (HQ4.out.ext HS4.out hG) (Nat.le_trans HS4.out hG.size)).mono ?_
              rintro e w' ⟨rfl, hb⟩
              rw [HPB.out]
              exact hK _ _ rfl (hG.trans (hb.mono hG.size)) hb
            · intro a x hG hd hs K hK
              have h5 : a.tmps.getD 5 undef = .pointer (some ⟨w.heap.size, 0, none⟩) := hs 5 (by kernel_rfl)
              clear hd hs
              refine wpOp_plain rfl rfl ?_
              go_simp
              exact hK _ _ rfl hG (Below.refl _ _)
            · intro a x hG hd hs K hK
              have h24 : a.tmps.getD 24 undef = .pointer (some ⟨w.heap.size, 0, none⟩) := hd 3 24 (by kernel_rfl)
              clear hd hs
              refine wpOp_plain rfl rfl ?_
              have x0 := (k4.ext hG).cell 0
              simp only [List.getElem?_cons_zero] at x0
              go_simp
              exact hK _ _ rfl hG (Below.refl _ _)
            · intro a x hG hd hs K hK
              have h25 : a.tmps.getD 25 undef = .int .i64 pa := hd 4 25 (by kernel_rfl)
              clear hd hs
              refine wpOp_plain rfl rfl ?_
              go_simp
              exact hK _ _ rfl hG (Below.refl _ _)
            · intro a x hG hd hs K hK
              have h26 : a.tmps.getD 26 undef = .bool false := hd 5 26 (by kernel_rfl)
              clear hd hs
              refine wpOp_plain rfl rfl ?_
              go_simp
              exact hK _ _ rfl hG (Below.refl _ _)
            · intro a x hG hd hs K hK
              have h1 : a.tmps.getD 1 undef = .slice A q.length c := hs 1 (by kernel_rfl)
              have h27 : a.tmps.getD 27 undef = .bool false := hd 6 27 (by kernel_rfl)
              clear hd hs
              refine wpOp_no rfl rfl rfl h27 ?_
              exact hK _ _ rfl hG (Below.refl _ _)
            · intro a x hG hd hs K hK
              have h28 : a.tmps.getD 28 undef = undef := hd 7 28 (by kernel_rfl)
              have h27 : a.tmps.getD 27 undef = .bool false := hd 6 27 (by kernel_rfl)
              clear hd hs
              refine wpOp_no rfl rfl rfl h27 ?_
              exact hK _ _ rfl hG (Below.refl _ _)
            · intro a x hG hd hs K hK
              have h29 : a.tmps.getD 29 undef = undef := hd 8 29 (by kernel_rfl)
              have h27 : a.tmps.getD 27 undef = .bool false := hd 6 27 (by kernel_rfl)
              clear hd hs
              refine wpOp_no rfl rfl rfl h27 ?_
              exact hK _ _ rfl hG (Below.refl _ _)
            · intro a x hG hd hs K hK
              have h27 : a.tmps.getD 27 undef = .bool false := hd 6 27 (by kernel_rfl)
              have h30 : a.tmps.getD 30 undef = undef := hd 9 30 (by kernel_rfl)
              clear hd hs
              refine wpOp_plain rfl rfl ?_
              go_simp
              exact hK _ _ rfl hG (Below.refl _ _)
            · intro a x hG hd hs K hK
              have h31 : a.tmps.getD 31 undef = .bool false := hd 10 31 (by kernel_rfl)
              clear hd hs
              refine wpOp_plain rfl rfl ?_
              go_simp
              exact hK _ _ rfl hG (Below.refl _ _)
            · intro a x hG hd hs K hK
              have h5 : a.tmps.getD 5 undef = .pointer (some ⟨w.heap.size, 0, none⟩) := hs 5 (by kernel_rfl)
              have h32 : a.tmps.getD 32 undef = .bool false := hd 11 32 (by kernel_rfl)
              clear hd hs
              refine wpOp_no rfl rfl rfl h32 ?_
              exact hK _ _ rfl hG (Below.refl _ _)
            · intro a x hG hd hs K hK
              have h33 : a.tmps.getD 33 undef = undef := hd 12 33 (by kernel_rfl)
              have h32 : a.tmps.getD 32 undef = .bool false := hd 11 32 (by kernel_rfl)
              clear hd hs
              refine wpOp_no rfl rfl rfl h32 ?_
              exact hK _ _ rfl hG (Below.refl _ _)
            · intro a x hG hd hs K hK
              have h9 : a.tmps.getD 9 undef = .int .u32 (Crc.sum q : Nat) := hs 9 (by kernel_rfl)
              have h32 : a.tmps.getD 32 undef = .bool false := hd 11 32 (by kernel_rfl)
              clear hd hs
              refine wpOp_no rfl rfl rfl h32 ?_
              exact hK _ _ rfl hG (Below.refl _ _)
            · intro a x hG hd hs K hK
              have h34 : a.tmps.getD 34 undef = undef := hd 13 34 (by kernel_rfl)
              have h35 : a.tmps.getD 35 undef = undef := hd 14 35 (by kernel_rfl)
              have h32 : a.tmps.getD 32 undef = .bool false := hd 11 32 (by kernel_rfl)
              clear hd hs
              refine wpOp_no rfl rfl rfl h32 ?_
              exact hK _ _ rfl hG (Below.refl _ _)
            · intro a x hG hd hs K hK
              have h32 : a.tmps.getD 32 undef = .bool false := hd 11 32 (by kernel_rfl)
              have h36 : a.tmps.getD 36 undef = undef := hd 15 36 (by kernel_rfl)
              clear hd hs
              refine wpOp_plain rfl rfl ?_
              go_simp
              exact hK _ _ rfl hG (Below.refl _ _)
            · intro a x hG hd hs K hK
              have h23 : a.tmps.getD 23 undef = .bool false := hd 2 23 (by kernel_rfl)
              have h37 : a.tmps.getD 37 undef = .bool false := hd 16 37 (by kernel_rfl)
              clear hd hs
              refine wpOp_plain rfl rfl ?_
              go_simp
              exact hK _ _ rfl hG (Below.refl _ _)
          · intro x hG
            rintro _ rfl _ rfl _ rfl _ rfl _ rfl _ rfl _ rfl _ rfl _ rfl _ rfl _ rfl _ rfl _ rfl _ rfl _ rfl _ rfl _ rfl _ rfl
            simp only [Act.put, List.setIfInBounds_toArray, List.set_cons_zero, List.set_cons_succ, REnd]
            try simp only [Exit.then]
            have kx := j4.ext hG
            have y0 := kx.cell 0
            have y1 := kx.cell 1
            simp only [List.getElem?_cons_zero, List.getElem?_cons_succ] at y0 y1
            have c5 := c4.trans (hG.mono c4.size)
            have HQ5 := Lib.hid (HQ4.out.ext HS4.out hG)
            have hs5 := hG.size
            clear hG k4 j4 kx HQ4
            go_wp2_with fail
            refine (points_any _ z (Crc.sum q) _ w.heap.size q (hH.ext c5) HQ5.out (Nat.le_trans HS4.out hs5)).mono ?_
            rintro e w6 ⟨rfl, b6⟩
            rw [HPT.out]
            have c6 := c5.trans (b6.mono c5.size)
            go_wp2_with fail
            refine (awake_any _ (hH.ext c6)).mono ?_
            rintro e w7 ⟨rfl, b7⟩
            go_wp2
            go_ret
            exact ⟨rfl, c6.trans (b7.mono c6.size)⟩
      · skip
        have f0 : ¬ z < 1 := hz0
        have f1 : ¬ 2147483647 < z := hz1
        have f2 : ((q.length : Int) != 128) = true := by rw [bne_iff_ne]; omega
        have HQL := Lib.hid hql
        clear hql
        refine (to_no w1 z _ w.heap.size q HQ1.out (by unfold toB; exact decide_eq_false (by have := HQL.out; omega))).mono ?_
        rintro e w2 ⟨rfl, b2⟩
        have k2 := k1.ext b2
        have d2 := b2.mono c1.size
        have c2 := c1.trans d2
        clear b2 k1
        go_wp2_with fail
        have j3 := Blk.new w2 24 #[.int .i64 0, .int .u32 0]
        have k3 := k2.alloc (.cells #[.int .i64 0, .int .u32 0] 24)
        have c3 := c2.alloc c2.size (.cells #[.int .i64 0, .int .u32 0] 24)
        have d3 := d2.alloc c2.size (.cells #[.int .i64 0, .int .u32 0] 24)
        generalize hW : w2.alloc (.cells #[.int .i64 0, .int .u32 0] 24) = w4 at *
        clear hW
        have c4 := c3
        have k4 := k3
        have j4 := j3
        have HQ4 := Lib.hid (show Bs w4 w.heap.size _ q from Rds.below HQ1.out d3)
        clear c3 k3 j3 c2 k2 d3 d2 HQ1
        have HS4 := Lib.hid c4.size
        have HH4 := Lib.hid (hH.ext c4)
        have hst := run_string_of (P := Tryd.prog) HQ4.out 28 9 5 Tryd.underlying28 Tryd.underlying5 Tryd.underlying9
        go_wp2_with fail
        clear hst
        refine (rsum_any w4 q (by omega)).mono ?_
        rintro e w' ⟨rfl, rfl⟩
        go_wp2_with fail
        by_cases hpa : 0 < pa
        · skip
          have p0 : 0 < pa := hpa
          have p1' : ((q.length : Int) == 128) = false := by rw [beq_eq_false_iff_ne]; have := HQL.out; omega
          have HPB := Lib.hid (show ptB pa s q = false by unfold ptB; exact decide_eq_false fun h => HQL.out h.2.1)
          have hG0 : Below w4.heap.size w4 w4.drew := (Below.refl _ _).drew
          refine wp_region_list 18 [(fun y_ _ => y_ = .agg #[.int .i64 pa, .int .u32 (s : Int)]),
            (fun y_ _ => y_ = .slice A q.length c),
            (fun y_ _ => y_ = .bool false),
            (fun y_ _ => y_ = .pointer (some ⟨w.heap.size, 0, none⟩)),
            (fun y_ _ => y_ = .int .i64 pa),
            (fun y_ _ => y_ = .bool true),
            (fun y_ _ => y_ = .bool true),
            (fun y_ _ => y_ = .slice A q.length c),
            (fun y_ _ => y_ = .int .i64 (q.length : Int)),
            (fun y_ _ => y_ = .bool false),
            (fun y_ _ => y_ = .bool false),
            (fun y_ _ => y_ = .bool false),
            (fun y_ _ => y_ = undef),
            (fun y_ _ => y_ = undef),
            (fun y_ _ => y_ = undef),
            (fun y_ _ => y_ = undef),
            (fun y_ _ => y_ = .bool false),
            (fun y_ _ => y_ = .bool false)]
            (fun x => Below w4.heap.size w4 x) (by kernel_rfl) rfl (by kernel_rfl) ?_ ?_ ?_ ?_
          · exact hG0
          · exact ⟨stab_eq _, stab_eq _, stab_eq _, stab_eq _, stab_eq _, stab_eq _, stab_eq _, stab_eq _, stab_eq _, stab_eq _, stab_eq _, stab_eq _, stab_eq _, stab_eq _, stab_eq _, stab_eq _, stab_eq _, stab_eq _, trivial⟩
          · refine ⟨?_, ?_, ?_, ?_, ?_, ?_, ?_, ?_, ?_, ?_, ?_, ?_, ?_, ?_, ?_, ?_, ?_, ?_, trivial⟩
            · intro a x hG hd hs K hK
              have h5 : a.tmps.getD 5 undef = .pointer (some ⟨w.heap.size, 0, none⟩) := hs 5 (by kernel_rfl)
              clear hd hs
              refine wpOp_plain rfl rfl ?_
              have kx := k4.ext hG
              have x0 := kx.cell 0
              have x1 := kx.cell 1
              simp only [List.getElem?_cons_zero, List.getElem?_cons_succ] at x0 x1
              go_simp
              exact hK _ _ rfl hG (Below.refl _ _)
            · intro a x hG hd hs K hK
              have h1 : a.tmps.getD 1 undef = .slice A q.length c := hs 1 (by kernel_rfl)
              clear hd hs
              refine wpOp_plain rfl rfl ?_
              go_simp
              exact hK _ _ rfl hG (Below.refl _ _)
            · intro a x hG hd hs K hK
              have h21 : a.tmps.getD 21 undef = .agg #[.int .i64 pa, .int .u32 (s : Int)] := hd 0 21 (by kernel_rfl)
              have h22 : a.tmps.getD 22 undef = .slice A q.length c := hd 1 22 (by kernel_rfl)
              clear hd hs
              refine wpOp_plain rfl rfl ?_
              go_simp
              refine (points_any _ pa s _ w.heap.size q (HH4.out.ext hG) (HQ4.out.ext HS4.out hG) (Nat.le_trans HS4.out hG.size)).mono ?_
              rintro e w' ⟨rfl, hb⟩
              rw [HPB.out]
              exact hK _ _ rfl (hG.trans (hb.mono hG.size)) hb
            · intro a x hG hd hs K hK
              have h5 : a.tmps.getD 5 undef = .pointer (some ⟨w.heap.size, 0, none⟩) := hs 5 (by kernel_rfl)
              clear hd hs
              refine wpOp_plain rfl rfl ?_
              go_simp
              exact hK _ _ rfl hG (Below.refl _ _)
            · intro a x hG hd hs K hK
              have h24 : a.tmps.getD 24 undef = .pointer (some ⟨w.heap.size, 0, none⟩) := hd 3 24 (by kernel_rfl)
              clear hd hs
              refine wpOp_plain rfl rfl ?_
              have x0 := (k4.ext hG).cell 0
              simp only [List.getElem?_cons_zero] at x0
              go_simp
              exact hK _ _ rfl hG (Below.refl _ _)
            · intro a x hG hd hs K hK
              have h25 : a.tmps.getD 25 undef = .int .i64 pa := hd 4 25 (by kernel_rfl)
              clear hd hs
              refine wpOp_plain rfl rfl ?_
              go_simp
              exact hK _ _ rfl hG (Below.refl _ _)
            · intro a x hG hd hs K hK
              have h26 : a.tmps.getD 26 undef = .bool true := hd 5 26 (by kernel_rfl)
              clear hd hs
              refine wpOp_plain rfl rfl ?_
              go_simp
              exact hK _ _ rfl hG (Below.refl _ _)
            · intro a x hG hd hs K hK
              have h1 : a.tmps.getD 1 undef = .slice A q.length c := hs 1 (by kernel_rfl)
              have h27 : a.tmps.getD 27 undef = .bool true := hd 6 27 (by kernel_rfl)
              clear hd hs
              refine wpOp_yes rfl rfl rfl h27 ?_
              go_simp
              exact hK _ _ rfl hG (Below.refl _ _)
            · intro a x hG hd hs K hK
              have h28 : a.tmps.getD 28 undef = .slice A q.length c := hd 7 28 (by kernel_rfl)
              have h27 : a.tmps.getD 27 undef = .bool true := hd 6 27 (by kernel_rfl)
              clear hd hs
              refine wpOp_yes rfl rfl rfl h27 ?_
              go_simp
              exact hK _ _ rfl hG (Below.refl _ _)
            · intro a x hG hd hs K hK
              have h29 : a.tmps.getD 29 undef = .int .i64 (q.length : Int) := hd 8 29 (by kernel_rfl)
              have h27 : a.tmps.getD 27 undef = .bool true := hd 6 27 (by kernel_rfl)
              clear hd hs
              refine wpOp_yes rfl rfl rfl h27 ?_
              go_simp
              exact hK _ _ rfl hG (Below.refl _ _)
            · intro a x hG hd hs K hK
              have h27 : a.tmps.getD 27 undef = .bool true := hd 6 27 (by kernel_rfl)
              have h30 : a.tmps.getD 30 undef = .bool false := hd 9 30 (by kernel_rfl)
              clear hd hs
              refine wpOp_plain rfl rfl ?_
              go_simp
              exact hK _ _ rfl hG (Below.refl _ _)
            · intro a x hG hd hs K hK
              have h31 : a.tmps.getD 31 undef = .bool false := hd 10 31 (by kernel_rfl)
              clear hd hs
              refine wpOp_plain rfl rfl ?_
              go_simp
              exact hK _ _ rfl hG (Below.refl _ _)
            · intro a x hG hd hs K hK
              have h5 : a.tmps.getD 5 undef = .pointer (some ⟨w.heap.size, 0, none⟩) := hs 5 (by kernel_rfl)
              have h32 : a.tmps.getD 32 undef = .bool false := hd 11 32 (by kernel_rfl)
              clear hd hs
              refine wpOp_no rfl rfl rfl h32 ?_
              exact hK _ _ rfl hG (Below.refl _ _)
            · intro a x hG hd hs K hK
              have h33 : a.tmps.getD 33 undef = undef := hd 12 33 (by kernel_rfl)
              have h32 : a.tmps.getD 32 undef = .bool false := hd 11 32 (by kernel_rfl)
              clear hd hs
              refine wpOp_no rfl rfl rfl h32 ?_
              exact hK _ _ rfl hG (Below.refl _ _)
            · intro a x hG hd hs K hK
              have h9 : a.tmps.getD 9 undef = .int .u32 (Crc.sum q : Nat) := hs 9 (by kernel_rfl)
              have h32 : a.tmps.getD 32 undef = .bool false := hd 11 32 (by kernel_rfl)
              clear hd hs
              refine wpOp_no rfl rfl rfl h32 ?_
              exact hK _ _ rfl hG (Below.refl _ _)
            · intro a x hG hd hs K hK
              have h34 : a.tmps.getD 34 undef = undef := hd 13 34 (by kernel_rfl)
              have h35 : a.tmps.getD 35 undef = undef := hd 14 35 (by kernel_rfl)
              have h32 : a.tmps.getD 32 undef = .bool false := hd 11 32 (by kernel_rfl)
              clear hd hs
              refine wpOp_no rfl rfl rfl h32 ?_
              exact hK _ _ rfl hG (Below.refl _ _)
            · intro a x hG hd hs K hK
              have h32 : a.tmps.getD 32 undef = .bool false := hd 11 32 (by kernel_rfl)
              have h36 : a.tmps.getD 36 undef = undef := hd 15 36 (by kernel_rfl)
              clear hd hs
              refine wpOp_plain rfl rfl ?_
              go_simp
              exact hK _ _ rfl hG (Below.refl _ _)
            · intro a x hG hd hs K hK
              have h23 : a.tmps.getD 23 undef = .bool false := hd 2 23 (by kernel_rfl)
              have h37 : a.tmps.getD 37 undef = .bool false := hd 16 37 (by kernel_rfl)
              clear hd hs
              refine wpOp_plain rfl rfl ?_
              go_simp
              exact hK _ _ rfl hG (Below.refl _ _)
          · intro x hG
            rintro _ rfl _ rfl _ rfl _ rfl _ rfl _ rfl _ rfl _ rfl _ rfl _ rfl _ rfl _ rfl _ rfl _ rfl _ rfl _ rfl _ rfl _ rfl
            simp only [Act.put, List.setIfInBounds_toArray, List.set_cons_zero, List.set_cons_succ, REnd]
            try simp only [Exit.then]
            have kx := j4.ext hG
            have y0 := kx.cell 0
            have y1 := kx.cell 1
            simp only [List.getElem?_cons_zero, List.getElem?_cons_succ] at y0 y1
            have c5 := c4.trans (hG.mono c4.size)
            clear hG k4 j4 kx HQ4
            go_wp2_with fail
            refine (awake_any _ (hH.ext c5)).mono ?_
            rintro e w6 ⟨rfl, b6⟩
            go_wp2
            go_ret
            exact ⟨rfl, c5.trans (b6.mono c5.size)⟩
        · skip
          have p0 : ¬ 0 < pa := hpa
          have HPB := Lib.hid (show ptB pa s q = false by unfold ptB; exact decide_eq_false fun h => p0 h.1)
          have hG0 : Below w4.heap.size w4 w4.drew := (Below.refl _ _).drew
          refine wp_region_list 18 [(fun y_ _ => y_ = .agg #[.int .i64 pa, .int .u32 (s : Int)]),
            (fun y_ _ => y_ = .slice A q.length c),
            (fun y_ _ => y_ = .bool false),
            (fun y_ _ => y_ = .pointer (some ⟨w.heap.size, 0, none⟩)),
            (fun y_ _ => y_ = .int .i64 pa),
            (fun y_ _ => y_ = .bool false),
            (fun y_ _ => y_ = .bool false),
            (fun y_ _ => y_ = undef),
            (fun y_ _ => y_ = undef),
            (fun y_ _ => y_ = undef),
            (fun y_ _ => y_ = .bool false),
            (fun y_ _ => y_ = .bool false),
            (fun y_ _ => y_ = undef),
            (fun y_ _ => y_ = undef),
            (fun y_ _ => y_ = undef),
            (fun y_ _ => y_ = undef),
            (fun y_ _ => y_ = .bool false),
            (fun y_ _ => y_ = .bool false)]
            (fun x => Below w4.heap.size w4 x) (by kernel_rfl) rfl (by kernel_rfl) ?_ ?_ ?_ ?_
          · exact hG0
          · exact ⟨stab_eq _, stab_eq _, stab_eq _, stab_eq _, stab_eq _, stab_eq _, stab_eq _, stab_eq _, stab_eq _, stab_eq _, stab_eq _, stab_eq _, stab_eq _, stab_eq _, stab_eq _, stab_eq _, stab_eq _, stab_eq _, trivial⟩
          · refine ⟨?_, ?_, ?_, ?_, ?_, ?_, ?_, ?_, ?_, ?_, ?_, ?_, ?_, ?_, ?_, ?_, ?_, ?_, trivial⟩
            · intro a x hG hd hs K hK
              have h5 : a.tmps.getD 5 undef = .pointer (some ⟨w.heap.size, 0, none⟩) := hs 5 (by kernel_rfl)
              clear hd hs
              refine wpOp_plain rfl rfl ?_
              have kx := k4.ext hG
              have x0 := kx.cell 0
              have x1 := kx.cell 1
              simp only [List.getElem?_cons_zero, List.getElem?_cons_succ] at x0 x1
              go_simp
              exact hK _ _ rfl hG (Below.refl _ _)
            · intro a x hG hd hs K hK
              have h1 : a.tmps.getD 1 undef = .slice A q.length c := hs 1 (by kernel_rfl)
              clear hd hs
              refine wpOp_plain rfl rfl ?_
              go_simp
              exact hK _ _ rfl hG (Below.refl _ _)
            · intro a x hG hd hs K hK
              have h21 : a.tmps.getD 21 undef = .agg #[.int .i64 pa, .int .u32 (s : Int)] := hd 0 21 (by kernel_rfl)
              have h22 : a.tmps.getD 22 undef = .slice A q.length c := hd 1 22 (by kernel_rfl)
              clear hd hs
              refine wpOp_plain rfl rfl ?_
              go_simp
              refine (points_any _ pa s _ w.heap.size q (HH4.out.ext hG) (HQ4.out.ext HS4.out hG) (Nat.le_trans HS4.out hG.size)).mono ?_
              rintro e w' ⟨rfl, hb⟩
              rw [HPB.out]
              exact hK _ _ rfl (hG.trans (hb.mono hG.size)) hb
            · intro a x hG hd hs K hK
              have h5 : a.tmps.getD 5 undef = .pointer (some ⟨w.heap.size, 0, none⟩) := hs 5 (by kernel_rfl)
              clear hd hs
              refine wpOp_plain rfl rfl ?_
              go_simp
              exact hK _ _ rfl hG (Below.refl _ _)
            · intro a x hG hd hs K hK
              have h24 : a.tmps.getD 24 undef = .pointer (some ⟨w.heap.size, 0, none⟩) := hd 3 24 (by kernel_rfl)
              clear hd hs
              refine wpOp_plain rfl rfl ?_
              have x0 := (k4.ext hG).cell 0
              simp only [List.getElem?_cons_zero] at x0
              go_simp
              exact hK _ _ rfl hG (Below.refl _ _)
            · intro a x hG hd hs K hK
              have h25 : a.tmps.getD 25 undef = .int .i64 pa := hd 4 25 (by kernel_rfl)
              clear hd hs
              refine wpOp_plain rfl rfl ?_
              go_simp
              exact hK _ _ rfl hG (Below.refl _ _)
            · intro a x hG hd hs K hK
              have h26 : a.tmps.getD 26 undef = .bool false := hd 5 26 (by kernel_rfl)
              clear hd hs
              refine wpOp_plain rfl rfl ?_
              go_simp
              exact hK _ _ rfl hG (Below.refl _ _)
            · intro a x hG hd hs K hK
              have h1 : a.tmps.getD 1 undef = .slice A q.length c := hs 1 (by kernel_rfl)
              have h27 : a.tmps.getD 27 undef = .bool false := hd 6 27 (by kernel_rfl)
              clear hd hs
              refine wpOp_no rfl rfl rfl h27 ?_
              exact hK _ _ rfl hG (Below.refl _ _)
            · intro a x hG hd hs K hK
              have h28 : a.tmps.getD 28 undef = undef := hd 7 28 (by kernel_rfl)
              have h27 : a.tmps.getD 27 undef = .bool false := hd 6 27 (by kernel_rfl)
              clear hd hs
              refine wpOp_no rfl rfl rfl h27 ?_
              exact hK _ _ rfl hG (Below.refl _ _)
            · intro a x hG hd hs K hK
              have h29 : a.tmps.getD 29 undef = undef := hd 8 29 (by kernel_rfl)
              have h27 : a.tmps.getD 27 undef = .bool false := hd 6 27 (by kernel_rfl)
              clear hd hs
              refine wpOp_no rfl rfl rfl h27 ?_
              exact hK _ _ rfl hG (Below.refl _ _)
            · intro a x hG hd hs K hK
              have h27 : a.tmps.getD 27 undef = .bool false := hd 6 27 (by kernel_rfl)
              have h30 : a.tmps.getD 30 undef = undef := hd 9 30 (by kernel_rfl)
              clear hd hs
              refine wpOp_plain rfl rfl ?_
              go_simp
              exact hK _ _ rfl hG (Below.refl _ _)
            · intro a x hG hd hs K hK
              have h31 : a.tmps.getD 31 undef = .bool false := hd 10 31 (by kernel_rfl)
              clear hd hs
              refine wpOp_plain rfl rfl ?_
              go_simp
              exact hK _ _ rfl hG (Below.refl _ _)
            · intro a x hG hd hs K hK
              have h5 : a.tmps.getD 5 undef = .pointer (some ⟨w.heap.size, 0, none⟩) := hs 5 (by kernel_rfl)
              have h32 : a.tmps.getD 32 undef = .bool false := hd 11 32 (by kernel_rfl)
              clear hd hs
              refine wpOp_no rfl rfl rfl h32 ?_
              exact hK _ _ rfl hG (Below.refl _ _)
            · intro a x hG hd hs K hK
              have h33 : a.tmps.getD 33 undef = undef := hd 12 33 (by kernel_rfl)
              have h32 : a.tmps.getD 32 undef = .bool false := hd 11 32 (by kernel_rfl)
              clear hd hs
              refine wpOp_no rfl rfl rfl h32 ?_
              exact hK _ _ rfl hG (Below.refl _ _)
            · intro a x hG hd hs K hK
              have h9 : a.tmps.getD 9 undef = .int .u32 (Crc.sum q : Nat) := hs 9 (by kernel_rfl)
              have h32 : a.tmps.getD 32 undef = .bool false := hd 11 32 (by kernel_rfl)
              clear hd hs
              refine wpOp_no rfl rfl rfl h32 ?_
              exact hK _ _ rfl hG (Below.refl _ _)
            · intro a x hG hd hs K hK
              have h34 : a.tmps.getD 34 undef = undef := hd 13 34 (by kernel_rfl)
              have h35 : a.tmps.getD 35 undef = undef := hd 14 35 (by kernel_rfl)
              have h32 : a.tmps.getD 32 undef = .bool false := hd 11 32 (by kernel_rfl)
              clear hd hs
              refine wpOp_no rfl rfl rfl h32 ?_
              exact hK _ _ rfl hG (Below.refl _ _)
            · intro a x hG hd hs K hK
              have h32 : a.tmps.getD 32 undef = .bool false := hd 11 32 (by kernel_rfl)
              have h36 : a.tmps.getD 36 undef = undef := hd 15 36 (by kernel_rfl)
              clear hd hs
              refine wpOp_plain rfl rfl ?_
              go_simp
              exact hK _ _ rfl hG (Below.refl _ _)
            · intro a x hG hd hs K hK
              have h23 : a.tmps.getD 23 undef = .bool false := hd 2 23 (by kernel_rfl)
              have h37 : a.tmps.getD 37 undef = .bool false := hd 16 37 (by kernel_rfl)
              clear hd hs
              refine wpOp_plain rfl rfl ?_
              go_simp
              exact hK _ _ rfl hG (Below.refl _ _)
          · intro x hG
            rintro _ rfl _ rfl _ rfl _ rfl _ rfl _ rfl _ rfl _ rfl _ rfl _ rfl _ rfl _ rfl _ rfl _ rfl _ rfl _ rfl _ rfl _ rfl
            simp only [Act.put, List.setIfInBounds_toArray, List.set_cons_zero, List.set_cons_succ, REnd]
            try simp only [Exit.then]
            have kx := j4.ext hG
            have y0 := kx.cell 0
            have y1 := kx.cell 1
            simp only [List.getElem?_cons_zero, List.getElem?_cons_succ] at y0 y1
            have c5 := c4.trans (hG.mono c4.size)
            clear hG k4 j4 kx HQ4
            go_wp2_with fail
            refine (awake_any _ (hH.ext c5)).mono ?_
            rintro e w6 ⟨rfl, b6⟩
            go_wp2
            go_ret
            exact ⟨rfl, c5.trans (b6.mono c5.size)⟩

/-- What the walk gives, for every argument and every world that holds the table. -/
theorem inodePoints_contract (H : Type) (enc : TypeId × Value → H) (W : World) (base : Nat) (args : Array Value) (ds gs : List (DataW H)) (before : List MemPlace)
    (hval : ∀ (j : Nat) t v, Tryd.f6.params[j]? = some t → args[j]? = some v → Value.okWide Tryd.prog W .any base t v)
    (hW : DataW.Whole enc Tryd.prog Tryd.f6.params.toList Rows.inodePointsSpec.vars false W args.toList ds gs before) (hL : laidMetH Tryd.prog Rows.inodePointsRow.laid W) :
    Calls Tryd.prog 6 args W fun e W' => ∃ v, e = .returned v ∧ Rows.inodePointsSpec.post enc Tryd.prog Tryd.f6 false true false false W args v W' := by
  have hW' := hW
  obtain ⟨p, q, hA0, hV, hps, hfz, hnd⟩ := hW
  have hA : DataW.TrodAll enc Tryd.prog W 0 (fun _ => true) true Tryd.f6.params.toList args.toList ds p := hA0
  rw [Tryd.params6] at hA hval
  obtain ⟨v0, vs0, d0, ds0, p0, q0, hargs, rfl, rfl, h0, r0⟩ := trodAll_cons hA
  obtain ⟨v1, vs1, d1, ds1, p1, q1, rfl, rfl, rfl, h1, r1⟩ := trodAll_cons r0
  obtain ⟨v2, vs2, d2, ds2, p2, q2, rfl, rfl, rfl, h2, r2⟩ := trodAll_cons r1
  obtain ⟨rfl, rfl, rfl⟩ := trodAll_nil r2
  obtain rfl : args = #[v0, v1, v2] := by cases args; simp_all
  obtain ⟨rfl, rfl⟩ := trodVars_none hV
  obtain ⟨z0, rfl, rfl, rfl, wf0⟩ := open_int Tryd.underlying3 (hval 0 3 v0 rfl rfl) h0
  obtain ⟨l1, b1⟩ := bs_of_trod Tryd.underlying28 Tryd.underlying5 cellsU8 (hval 1 28 v1 rfl rfl) h1
  obtain ⟨zs2, hzl2, rfl, wfz2⟩ := ints_of_agg 3 [.i64, .u32] (by kernel_rfl) (okWide_struct Tryd.underlying24 (hval 2 24 v2 rfl rfl)) (by kernel_rfl) h2
  obtain ⟨za2, zb2, rfl⟩ : ∃ a b, zs2 = [a, b] := by
    match zs2, hzl2 with
    | [a, b], _ => exact ⟨a, b, rfl⟩
  have u2 := wf_u32 (wfz2 1 .u32 zb2 rfl rfl)
  obtain ⟨n2, rfl⟩ := Int.eq_ofNat_of_zero_le u2.1
  clear hA0
  refine (inodePoints_walk W z0 v1 l1 za2 n2 (halves_of hL) b1).mono fun e W' ⟨he, hb⟩ => ?_
  subst he
  exact ⟨_, rfl, law_post laidOut (by rw [Tryd.params6]; decide +kernel) rfl Tryd.underlying4 rfl rfl hW' hb⟩

theorem inodePoints_met (os : Os) : laidMet Tryd.prog Rows.inodePointsRow.laid ((laidWorld os).forCall (fun _ _ => 0) ⟨#[], #[.int .i64 0, .slice none 0 0, .agg #[.int .i64 0, .int .u32 0]], []⟩).memory :=
  laidMet_of_run' 8 (by kernel_rfl) (by kernel_rfl)
theorem inodePoints_reads (os : Os) {H : Type} (enc : TypeId × Value → H) : ∃ places, DataW.whole enc Tryd.prog ((laidWorld os).forCall (fun _ _ => 0) ⟨#[], #[.int .i64 0, .slice none 0 0, .agg #[.int .i64 0, .int .u32 0]], []⟩).memory Tryd.f6.params.toList Rows.inodePointsSpec.vars false (#[.int .i64 0, .slice none 0 0, .agg #[.int .i64 0, .int .u32 0]] : Array Value).toList 8 = some ([.lit (.int .i64 0), .nil, .agg [.lit (.int .i64 0), .lit (.int .u32 0)]], [], places) :=
  ⟨[], by kernel_rfl⟩

set_option maxRecDepth 100000 in
theorem inodePoints_lifted (os : Os) (started : os.Started) (H : Type) (enc : TypeId × Value → H) (F : Stop.Interp) :
    ReturnsInHanded {} Tryd.checked os 6 .any ((OpenSpec.ofChange Rows.inodePointsSpec).preRow enc Tryd.prog Tryd.f6 Rows.inodePointsRow.domain false Rows.inodePointsRow.laid) (((OpenSpec.ofChange Rows.inodePointsSpec).at F).post enc Tryd.prog Tryd.f6 false true false false) := by
  obtain ⟨places, hx⟩ := inodePoints_reads os enc
  refine returnsInHanded_of_row (C := Tryd.checked) (s := OpenSpec.ofChange Rows.inodePointsSpec) own started (by kernel_rfl) Tryd.func6
    (witness_row_at (enc := enc) (C := Tryd.checked) false (laidWorld os) #[.int .i64 0, .slice none 0 0, .agg #[.int .i64 0, .int .u32 0]] rfl (by kernel_rfl) (by kernel_rfl) (by kernel_rfl)
      (OpenSpec.preRow_of_cond 8 hx (by kernel_rfl) (fun k hk => by cases hk) (by kernel_rfl) (inodePoints_met os))) ?_
  intro W base args ds gs before hval hW _ _ _ hL _ _
  exact inodePoints_contract H enc W base args ds gs before hval hW hL

theorem inodePoints_said : Rows.InodePointsSaid :=
  OpenClaim.holds_of_cond 6 Tryd.f6 rfl rfl rfl rfl rfl rfl rfl ⟨rfl, rfl, rfl, rfl, rfl⟩ rfl rfl rfl rfl rfl (by kernel_rfl) Tryd.func6 (by kernel_rfl)
    (of_decide_eq_true (by kernel_rfl)) (by unfold Func.isWrapper; first | (rw [if_pos (by decide +kernel)]; kernel_rfl) | (rw [if_neg (by decide +kernel)]; exact ⟨rfl, rfl⟩))
    (fun os started H enc _ F => by rw [OpenClaim.pre_eq_preRow]; exact inodePoints_lifted os started H enc F)

theorem inodePoints_plain (f : FuncId) (fn : Func) (hf : Tryd.pinned.checked.prog.funcNamed "haymow/haymowlaw07.InodePoints" = some f) (hfn : Tryd.pinned.checked.prog.funcs[f]? = some fn) :
    false = Tryd.pinned.checked.prog.looks [] ∧ ∀ (j : Nat) t, fn.params[j]? = some t → Tryd.pinned.checked.prog.wantsStandIn t = false := by
  obtain rfl : f = 6 := Option.some.inj ((show Tryd.prog.funcNamed "haymow/haymowlaw07.InodePoints" = some 6 by kernel_rfl).symm.trans hf) |>.symm
  obtain rfl : fn = Tryd.f6 := (Option.some.inj (Tryd.func6.symm.trans hfn)).symm
  refine ⟨by kernel_rfl, fun j t ht => ?_⟩
  rw [Tryd.params6] at ht
  have hall : ∀ t ∈ (Tryd.f6).params.toList, Tryd.prog.wantsStandIn t = false := by rw [Tryd.params6]; decide +kernel
  exact hall t (by rw [Tryd.params6]; exact Array.mem_toList_iff.2 (Array.mem_of_getElem? ht))

/-- THE CARD. -/
theorem inodePoints_holds : Rows.InodePointsCardSaid :=
  Claim7.holds_tied_plain_at .later [] _ _ _ _ inodePoints_said (fun _ h => by cases h) (by kernel_rfl) (fun _ h => by cases h) inodePoints_row_tie rfl ⟨rfl, rfl⟩ (by kernel_rfl) rfl inodePoints_plain (by kernel_rfl)

end Go.Proofs.YtmabdbleakolbaaDoor
