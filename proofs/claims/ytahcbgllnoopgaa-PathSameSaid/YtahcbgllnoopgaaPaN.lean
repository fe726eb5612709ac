/-
  Parent of package path; what the laws of paths share. By an AI agent.
-/
import Derived.Test.YtahcbgllnoopgaaPaM
namespace Go.Proofs.Ytahcbgllnoopgaa
open Go.RowKit Go.ChangeShapes Go.WideShapes Go.ChangeAt

set_option maxRecDepth 100000 in
set_option maxHeartbeats 4000000 in
theorem parent_any (b : List UInt8) (w : World) (hbl : b.length ≤ 1000000) :
    Calls Try.prog 10 #[.string ⟨b.toArray⟩] w fun e w' => ∃ u, e = .returned (.tuple #[u, .string ⟨(Pa.parent b).2.1.toArray⟩, .int .i64 ((Pa.parent b).2.2 : Nat)]) ∧ Strs w' w'.heap.size u (Pa.parent b).1 ∧ Below w.heap.size w w' := by
  have HPR := Lib.hid (parse_any b)
  have HNO := Lib.hid (parent_no b)
  have HP := Lib.hid (show (Pa.parse b).2 = 0 → Pa.parent b = if (Pa.parse b).1 = [] then ([], [], 1) else ((Pa.parse b).1.dropLast, (Pa.parse b).1.getLastD [], 0) from fun h => by unfold Pa.parent; rw [if_neg (by rw [h]; simp)])
  have hg8 := (Pa.good_parse b).1
  generalize Pa.parse b = PR at *
  obtain ⟨ns, er⟩ := PR
  dsimp only at HPR HNO HP hg8
  generalize (⟨b.toArray⟩ : ByteArray) = S at *
  go_enter Try.func10, Try.ntmps10
  go_wp2_with fail
  refine (HPR.out w hbl).mono ?_
  rintro e w1 ⟨u1, rfl, hs1, b1⟩
  obtain ⟨A, c, rfl, hlc, hcm, hE⟩ := hs1.open_
  by_cases he : er = 0
  rotate_left
  · have hne : ((er : Int) != 0) = true := by rw [bne_iff_ne]; omega
    have HX := Lib.hid (HNO.out he)
    clear he hE hs1
    go_wp2
    go_ret3
    exact ⟨.slice none 0 0, by rw [HX.out]; rfl, by rw [HX.out]; exact Strs.nil_ _ _, b1⟩
  subst he
  by_cases hn : ns = []
  · subst hn
    have HX := Lib.hid (HP.out rfl)
    rw [if_pos rfl] at HX
    clear hE hs1
    go_wp2
    go_ret3
    exact ⟨.slice none 0 0, by rw [HX.out]; rfl, by rw [HX.out]; exact Strs.nil_ _ _, b1⟩
  have HX := Lib.hid (HP.out rfl)
  rw [if_neg hn] at HX
  have hpos : 0 < ns.length := List.length_pos_iff.2 hn
  have hz : ((ns.length : Int) == 0) = false := by rw [beq_eq_false_iff_ne]; omega
  obtain ⟨bb, off, rfl, hbB, h0⟩ := hE (ns.length - 1) (by omega)
  have hgl : ns.getD (ns.length - 1) [] = ns.getLastD [] := by
    rw [List.getLastD_eq_getLast?, List.getLast?_eq_getElem?, List.getD_eq_getElem?_getD]
  rw [hgl] at h0
  have hhd := fun W => run_headS (some ⟨bb, off, none⟩) ns.length c (ns.length - 1) (by omega) ((ns.length - 1 : Nat) : Int) rfl W
  have hh := Strs.head hs1 (show ns.length - 1 ≤ ns.length by omega)
  rw [← List.dropLast_eq_take] at hh
  generalize ns.getLastD [] = la at *
  have HH := Lib.hid hh
  have HDL := Lib.hid (show ns.dropLast.length = ns.length - 1 from List.length_dropLast)
  generalize ns.dropLast = ms at *
  obtain ⟨n1, hn1⟩ : ∃ n1, ns.length = n1 + 1 := ⟨ns.length - 1, by omega⟩
  rw [hn1, Nat.add_sub_cancel] at HH hhd h0
  have hz2 : (((n1 + 1 : Nat) : Int) == 0) = false := by rw [beq_eq_false_iff_ne]; omega
  rw [hn1] at hg8 ⊢
  clear hn1 hh hgl hn hz hpos hE hs1 hlc
  have hbw : bb < w1.heap.size := hbB
  have hwn : IntKind.i64.wrap ((n1 : Nat) : Int) = ((n1 : Nat) : Int) := IntWalk.i64_in _ (by omega)
  go_upto_region 7 with fail
  have hG0 : Below w1.heap.size w1 w1.drew := (Below.refl _ _).drew
  refine wp_region_list 10 [(fun y_ _ => y_ = .slice (some ⟨bb, off, none⟩) (n1 + 1) c),
    (fun y_ _ => y_ = .int .i64 ((n1 : Nat) : Int)),
    (fun y_ _ => y_ = .slice (some ⟨bb, off, none⟩) n1 c),
    (fun y_ _ => y_ = .slice (some ⟨bb, off, none⟩) (n1 + 1) c),
    (fun y_ _ => y_ = .int .i64 ((n1 : Nat) : Int)),
    (fun y_ _ => y_ = .pointer (some ⟨bb, off + n1, none⟩)),
    (fun y_ _ => y_ = .string ⟨la.toArray⟩),
    (fun y_ _ => y_ = .slice (some ⟨bb, off, none⟩) n1 c),
    (fun y_ _ => y_ = .string ⟨la.toArray⟩),
    (fun y_ _ => y_ = .int .i64 0)]
    (fun q => Below w1.heap.size w1 q) (by kernel_rfl) rfl (by kernel_rfl) ?_ ?_ ?_ ?_
  · exact hG0
  · exact ⟨stab_eq _, stab_eq _, stab_eq _, stab_eq _, stab_eq _, stab_eq _, stab_eq _, stab_eq _, stab_eq _, stab_eq _, trivial⟩
  · refine ⟨?_, ?_, ?_, ?_, ?_, ?_, ?_, ?_, ?_, ?_, trivial⟩
    · intro a x hG hd hs K hK
      have h5 : a.tmps.getD 5 undef = .slice (some ⟨bb, off, none⟩) (n1 + 1) c := hs 5 (by kernel_rfl)
      clear hd hs
      refine wpOp_plain rfl rfl ?_
      go_simp
      exact hK _ _ rfl hG (Below.refl _ _)
    · intro a x hG hd hs K hK
      have h7 : a.tmps.getD 7 undef = .int .i64 ((n1 : Nat) : Int) := hs 7 (by kernel_rfl)
      clear hd hs
      refine wpOp_plain rfl rfl ?_
      go_simp
      exact hK _ _ rfl hG (Below.refl _ _)
    · intro a x hG hd hs K hK
      have h22 : a.tmps.getD 22 undef = .slice (some ⟨bb, off, none⟩) (n1 + 1) c := hd 0 22 (by kernel_rfl)
      have h23 : a.tmps.getD 23 undef = .int .i64 ((n1 : Nat) : Int) := hd 1 23 (by kernel_rfl)
      clear hd hs
      refine wpOp_plain rfl rfl ?_
      have hr := hhd x
      go_simp
      exact hK _ _ rfl hG (Below.refl _ _)
    · intro a x hG hd hs K hK
      have h5 : a.tmps.getD 5 undef = .slice (some ⟨bb, off, none⟩) (n1 + 1) c := hs 5 (by kernel_rfl)
      clear hd hs
      refine wpOp_plain rfl rfl ?_
      go_simp
      exact hK _ _ rfl hG (Below.refl _ _)
    · intro a x hG hd hs K hK
      have h7 : a.tmps.getD 7 undef = .int .i64 ((n1 : Nat) : Int) := hs 7 (by kernel_rfl)
      clear hd hs
      refine wpOp_plain rfl rfl ?_
      go_simp
      exact hK _ _ rfl hG (Below.refl _ _)
    · intro a x hG hd hs K hK
      have h25 : a.tmps.getD 25 undef = .slice (some ⟨bb, off, none⟩) (n1 + 1) c := hd 3 25 (by kernel_rfl)
      have h26 : a.tmps.getD 26 undef = .int .i64 ((n1 : Nat) : Int) := hd 4 26 (by kernel_rfl)
      clear hd hs
      refine wpOp_plain rfl rfl ?_
      have h9 : (n1 : Int) < (n1 : Int) + 1 := by omega
      go_simp
      exact hK _ _ rfl hG (Below.refl _ _)
    · intro a x hG hd hs K hK
      have h27 : a.tmps.getD 27 undef = .pointer (some ⟨bb, off + n1, none⟩) := hd 5 27 (by kernel_rfl)
      clear hd hs
      refine wpOp_plain rfl rfl ?_
      have hc := (hG.cell (p := ⟨bb, off + n1, none⟩) hbw).trans h0
      go_simp
      exact hK _ _ rfl hG (Below.refl _ _)
    · intro a x hG hd hs K hK
      have h24 : a.tmps.getD 24 undef = .slice (some ⟨bb, off, none⟩) n1 c := hd 2 24 (by kernel_rfl)
      clear hd hs
      refine wpOp_plain rfl rfl ?_
      go_simp
      exact hK _ _ rfl hG (Below.refl _ _)
    · intro a x hG hd hs K hK
      have h28 : a.tmps.getD 28 undef = .string ⟨la.toArray⟩ := hd 6 28 (by kernel_rfl)
      clear hd hs
      refine wpOp_plain rfl rfl ?_
      go_simp
      exact hK _ _ rfl hG (Below.refl _ _)
    · intro a x hG hd hs K hK
      clear hd hs
      refine wpOp_plain rfl rfl ?_
      go_simp
      exact hK _ _ rfl hG (Below.refl _ _)
  · intro x hG
    rintro _ rfl _ rfl _ rfl _ rfl _ rfl _ rfl _ rfl _ rfl _ rfl _ rfl
    simp only [Act.put, List.setIfInBounds_toArray, List.set_cons_zero, List.set_cons_succ, REnd]
    try simp only [Exit.then]
    have hb2 := b1.trans (hG.mono b1.size)
    have hS2 := (Rds.ext HH.out (Nat.le_refl _) hG).more hG.size
    clear hhd h0
    go_wp2
    go_ret3
    exact ⟨.slice (some ⟨bb, off, none⟩) n1 c, by rw [HX.out]; rfl, by rw [HX.out]; exact hS2, hb2⟩

theorem fewP_any (l : List UInt8) (w : World) :
    Calls Try.prog 7 #[.string ⟨l.toArray⟩] w fun e w' => e = .returned (.string ⟨(l.take 260).toArray⟩) ∧ w = w' := by
  have hsz := ba_size l
  have hx := ba_take l 260
  generalize hs : (⟨l.toArray⟩ : ByteArray) = s at *
  by_cases h : 260 < s.size
  · have h1 : (260 : Int) < s.size := by omega
    have h2 : (260 : Int) ≤ s.size := by omega
    have HX := Lib.hid hx
    clear hs hsz hx
    go_enter Try.func7, Try.ntmps7
    go_wp2
    go_ret
    exact ⟨by rw [← HX.out]; rfl, rfl⟩
  · have h1 : ¬ (260 : Int) < s.size := by omega
    have HX := Lib.hid (show s = ⟨(l.take 260).toArray⟩ by rw [← hs, List.take_of_length_le (by omega)])
    clear hs hsz hx
    go_enter Try.func7, Try.ntmps7
    go_wp2
    go_ret
    exact ⟨by rw [← HX.out]; rfl, rfl⟩

theorem aw1 : Pa.parse [47, 97, 47, 47, 46, 47, 98, 47, 46, 46, 47, 99] = ([[97], [99]], 0) := by kernel_rfl
theorem aw2 : Pa.parse [97] = ([], 11) := by kernel_rfl
theorem aw3 : Pa.parent [47, 97, 47, 98] = ([[97]], [98], 0) := by kernel_rfl
theorem aw4 : Pa.parent [47] = ([], [], 1) := by kernel_rfl
theorem lit2 (w : World) (x y : List UInt8) : Strs (w.alloc (.cells #[.string ⟨x.toArray⟩, .string ⟨y.toArray⟩] 9)) (w.heap.size + 1) (.slice (some ⟨w.heap.size, 0, none⟩) 2 2) [x, y] :=
  (Blk.new w 9 #[.string ⟨x.toArray⟩, .string ⟨y.toArray⟩]).rds 0 2 2 1 (by simp) (Nat.le_refl _) (by simp [maxLen])
theorem lit1 (w : World) (x : List UInt8) : Strs (w.alloc (.cells #[.string ⟨x.toArray⟩] 9)) (w.heap.size + 1) (.slice (some ⟨w.heap.size, 0, none⟩) 1 1) [x] :=
  (Blk.new w 9 #[.string ⟨x.toArray⟩]).rds 0 1 1 1 (by simp) (Nat.le_refl _) (by simp [maxLen])
set_option maxRecDepth 100000 in
set_option maxHeartbeats 4000000 in
theorem awake_any (w : World) :
    Calls Try.prog 13 #[] w fun e w' => e = .returned (.bool true) ∧ Below w.heap.size w w' := by
  go_enter Try.func13, Try.ntmps13
  go_wp2_with fail
  refine (parse_any [47, 97, 47, 47, 46, 47, 98, 47, 46, 46, 47, 99] w (by decide)).mono ?_
  rintro e w1 ⟨u1, rfl, hs1, b1⟩
  rw [aw1] at hs1 ⊢
  dsimp only at hs1
  obtain ⟨A1, c1, rfl, _, _, _⟩ := hs1.open_
  go_wp2_with fail
  refine (parse_any [97] w1 (by decide)).mono ?_
  rintro e w2 ⟨u2, rfl, hs2, b2⟩
  rw [aw2] at hs2 ⊢
  dsimp only at hs2
  obtain ⟨A2, c2, rfl, _, _, _⟩ := hs2.open_
  have hs12 := (Rds.ext hs1 (Nat.le_refl _) b2).more b2.size
  have d2 := b1.trans (b2.mono b1.size)
  clear b1 b2 hs1 hs2
  go_wp2_with fail
  refine (parent_any [47, 97, 47, 98] w2 (by decide)).mono ?_
  rintro e w3 ⟨u3, rfl, hs3, b3⟩
  rw [aw3] at hs3 ⊢
  dsimp only at hs3
  obtain ⟨A3, c3, rfl, _, _, _⟩ := hs3.open_
  have hs13 := (hs12.ext (Nat.le_refl _) b3).more b3.size
  have d3 := d2.trans (b3.mono d2.size)
  clear b3 hs12 d2
  go_wp2_with fail
  refine (parent_any [47] w3 (by decide)).mono ?_
  rintro e w4 ⟨u4, rfl, hs4, b4⟩
  rw [aw4] at hs4 ⊢
  dsimp only at hs4
  obtain ⟨A4, c4, rfl, _, _, _⟩ := hs4.open_
  have hs14 := (hs13.ext (Nat.le_refl _) b4).more b4.size
  have hs34 := (Rds.ext hs3 (Nat.le_refl _) b4).more b4.size
  have d4 := d3.trans (b4.mono d3.size)
  clear b4 hs13 hs3 hs4 d3
  go_wp2_with fail
  have b5 := (Below.refl w4.heap.size w4).alloc (Nat.le_refl _) (.cells #[.string ⟨#[97]⟩, .string ⟨#[99]⟩] 9)
  have d5 := d4.alloc d4.size (.cells #[.string ⟨#[97]⟩, .string ⟨#[99]⟩] 9)
  refine (sameR_any _ _ [[97], [99]] [[97], [99]] _ ((hs14.ext (Nat.le_refl _) b5).more b5.size) ((lit2 w4 [97] [99]).more (by simp)) (by decide)).mono ?_
  rintro e w6 ⟨rfl, b6⟩
  have hs36 := (((hs34.ext (Nat.le_refl _) b5).more b5.size).ext (Nat.le_refl _) b6).more b6.size
  have d6 := d5.trans (b6.mono d5.size)
  rw [decide_eq_true (rfl : ([[97], [99]] : List (List UInt8)) = [[97], [99]])]
  clear hs14 hs34 b5 b6 d4 d5
  go_wp2_with fail
  have b7 := (Below.refl w6.heap.size w6).alloc (Nat.le_refl _) (.cells #[.string ⟨#[97]⟩] 9)
  have d7 := d6.alloc d6.size (.cells #[.string ⟨#[97]⟩] 9)
  refine (sameR_any _ _ [[97]] [[97]] _ ((hs36.ext (Nat.le_refl _) b7).more b7.size) ((lit1 w6 [97]).more (by simp)) (by decide)).mono ?_
  rintro e w8 ⟨rfl, b8⟩
  have d8 := d7.trans (b8.mono d7.size)
  rw [decide_eq_true (rfl : ([[97]] : List (List UInt8)) = [[97]])]
  clear hs36 b7 b8 d6 d7
  go_wp2
  go_ret
  exact ⟨rfl, d8⟩
end Go.Proofs.Ytahcbgllnoopgaa
