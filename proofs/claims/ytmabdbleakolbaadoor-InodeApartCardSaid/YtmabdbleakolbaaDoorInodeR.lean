/-
  The walks of the document's answers of layer 7, first part: Pointer, May, pointer, Node, Same. By an AI agent.
-/
import Derived.Test.YtmabdbleakolbaaDoorInodeL
namespace Go.Proofs.YtmabdbleakolbaaDoor
open Go.RowKit Go.ChangeShapes Go.WideShapes Go.ChangeAt

theorem Ptrs.cells {w : World} {B g o n c : Nat} {ps : List (Int × Nat)} (h : Ptrs w B (.slice (some ⟨g, o, none⟩) n c) ps) (j : Nat) (hj : j < ps.length) : w.cell? ⟨g, o + j * 2, none⟩ = some (.int .i64 ps[j].1) ∧ w.cell? ⟨g, o + j * 2 + 1, none⟩ = some (.int .u32 (ps[j].2 : Int)) ∧ g < B := by
  obtain ⟨A, c', hA, _, _, hc⟩ := h.open_
  injection hA with e1 _ _
  obtain ⟨b, off, e, hb, h1, h2⟩ := hc j hj
  rw [← e1] at e
  injection e with e
  injection e with e2 e3 _
  subst e2 e3
  exact ⟨h1, h2, hb⟩
theorem recs_app (l m : List (Int × Nat)) : Pk.recs (l ++ m) = Pk.recs l ++ Pk.recs m := by unfold Pk.recs; rw [List.flatMap_append]
theorem recs_pN_snoc (ps : List (Int × Nat)) (j : Nat) (hj : j < ps.length) : Pk.recs (pN (ps.take (j + 1))) = Pk.recs (pN (ps.take j)) ++ (Pk.be ps[j].1.toNat 4 ++ Pk.be ps[j].2 4) := by
  rw [List.take_succ_eq_append_getElem hj, pN_app, recs_app, pN_cons]
  congr 1
theorem recs_pN_len : ∀ ps : List (Int × Nat), (Pk.recs (pN ps)).length = 8 * ps.length
  | [] => rfl
  | p :: ps => by
    rw [pN_cons]
    show (Pk.be p.1.toNat 4 ++ (Pk.be p.2 4 ++ Pk.recs (pN ps))).length = _
    rw [List.length_append, List.length_append, Pk.length_be, Pk.length_be, recs_pN_len ps, List.length_cons]
    omega

set_option maxHeartbeats 1000000 in
theorem rPointer_any (pa : Int) (s : Nat) (w : World) :
    Calls Tryd.prog 23 #[.agg #[.int .i64 pa, .int .u32 (s : Int)]] w fun e w' => e = .returned (.bool (Nd.ptrB (pa, s))) ∧ Below w.heap.size w w' := by
  have HP := Lib.hid (show Nd.ptrB (pa, s) = decide (0 ≤ pa ∧ pa ≤ 2147483647 ∧ (pa = 0 → s = 0)) from rfl)
  by_cases h0 : 0 ≤ pa
  · by_cases h1 : pa ≤ 2147483647
    · by_cases h2 : 0 < pa
      · skip
        have H := Lib.hid (show Nd.ptrB (pa, s) = true by rw [HP.out]; exact decide_eq_true (by omega))
        clear HP
        try clear h3
        go_enter Tryd.func23, Tryd.ntmps23
        go_wp2
        go_ret
        exact ⟨by rw [H.out]; rfl, (Below.refl _ _).alloc (Nat.le_refl _) _⟩
      · by_cases h3 : s = 0
        · have h3' : ((s : Int) == 0) = true := by rw [beq_iff_eq]; omega
          have H := Lib.hid (show Nd.ptrB (pa, s) = true by rw [HP.out]; exact decide_eq_true (by omega))
          clear HP
          try clear h3
          go_enter Tryd.func23, Tryd.ntmps23
          go_wp2
          go_ret
          exact ⟨by rw [H.out]; rfl, (Below.refl _ _).alloc (Nat.le_refl _) _⟩
        · have h3' : ((s : Int) == 0) = false := by rw [beq_eq_false_iff_ne]; omega
          have H := Lib.hid (show Nd.ptrB (pa, s) = false by rw [HP.out]; exact decide_eq_false (by omega))
          clear HP
          try clear h3
          go_enter Tryd.func23, Tryd.ntmps23
          go_wp2
          go_ret
          exact ⟨by rw [H.out]; rfl, (Below.refl _ _).alloc (Nat.le_refl _) _⟩
    · skip
      have H := Lib.hid (show Nd.ptrB (pa, s) = false by rw [HP.out]; exact decide_eq_false (by omega))
      clear HP
      try clear h3
      go_enter Tryd.func23, Tryd.ntmps23
      go_wp2
      go_ret
      exact ⟨by rw [H.out]; rfl, (Below.refl _ _).alloc (Nat.le_refl _) _⟩
  · skip
    have H := Lib.hid (show Nd.ptrB (pa, s) = false by rw [HP.out]; exact decide_eq_false (by omega))
    clear HP
    try clear h3
    go_enter Tryd.func23, Tryd.ntmps23
    go_wp2
    go_ret
    exact ⟨by rw [H.out]; rfl, (Below.refl _ _).alloc (Nat.le_refl _) _⟩

set_option maxRecDepth 100000 in
set_option maxHeartbeats 2000000 in
theorem rpointer_any (n s : Nat) (w : World) (hn : n ≤ 2147483647) (hs : s < 4294967296) :
    Calls Tryd.prog 34 #[.agg #[.int .i64 (n : Int), .int .u32 (s : Int)]] w fun e w' => e = .returned (.string ⟨(Pk.be n 4 ++ Pk.be s 4).toArray⟩) ∧ Below w.heap.size w w' := by
  go_enter Tryd.func34, Tryd.ntmps34
  go_wp2_with fail
  have hk := Blk.new w 24 #[.int .i64 (n : Int), .int .u32 (s : Int)]
  have b0 := (Below.refl w.heap.size w).alloc (Nat.le_refl _) (.cells #[.int .i64 (n : Int), .int .u32 (s : Int)] 24)
  generalize hW : w.alloc (.cells #[.int .i64 (n : Int), .int .u32 (s : Int)] 24) = w0 at *
  clear hW
  have hG0 : Below w0.heap.size w0 w0.drew := (Below.refl _ _).drew
  refine wp_region_list 10 [(fun y_ _ => y_ = .pointer (some ⟨w.heap.size, 0, none⟩)),
    (fun y_ _ => y_ = .int .i64 (n : Int)),
    (fun y_ _ => y_ = .int .u64 (n : Int)),
    (fun y_ _ => y_ = .string ⟨(Pk.be n 4).toArray⟩),
    (fun y_ _ => y_ = .pointer (some ⟨w.heap.size, 1, none⟩)),
    (fun y_ _ => y_ = .int .u32 (s : Int)),
    (fun y_ _ => y_ = .int .u64 (s : Int)),
    (fun y_ _ => y_ = .string ⟨(Pk.be s 4).toArray⟩),
    (fun y_ _ => y_ = .string ⟨(Pk.be n 4 ++ Pk.be s 4).toArray⟩),
    (fun y_ _ => y_ = .string ⟨(Pk.be n 4 ++ Pk.be s 4).toArray⟩)]
    (fun x => Below w0.heap.size w0 x) (by kernel_rfl) rfl (by kernel_rfl) ?_ ?_ ?_ ?_
  · exact hG0
  · exact ⟨stab_eq _, stab_eq _, stab_eq _, stab_eq _, stab_eq _, stab_eq _, stab_eq _, stab_eq _, stab_eq _, stab_eq _, trivial⟩
  · refine ⟨?_, ?_, ?_, ?_, ?_, ?_, ?_, ?_, ?_, ?_, trivial⟩
    · intro a x hG hd hs K hK
      have h1 : a.tmps.getD 1 undef = .pointer (some ⟨w.heap.size, 0, none⟩) := hs 1 (by kernel_rfl)
      clear hd hs
      refine wpOp_plain rfl rfl ?_
      go_simp
      exact hK _ _ rfl hG (Below.refl _ _)
    · intro a x hG hd hs K hK
      have h3 : a.tmps.getD 3 undef = .pointer (some ⟨w.heap.size, 0, none⟩) := hd 0 3 (by kernel_rfl)
      clear hd hs
      refine wpOp_plain rfl rfl ?_
      have x0 := (hk.ext hG).cell 0
      simp only [List.getElem?_cons_zero] at x0
      go_simp
      exact hK _ _ rfl hG (Below.refl _ _)
    · intro a x hG hd hs K hK
      have h4 : a.tmps.getD 4 undef = .int .i64 (n : Int) := hd 1 4 (by kernel_rfl)
      clear hd hs
      refine wpOp_plain rfl rfl ?_
      have hwr : IntKind.u64.wrap (n : Int) = n := IntWalk.u64_in _ (by omega)
      go_simp
      exact hK _ _ rfl hG (Below.refl _ _)
    · intro a x hG hd hs K hK
      have h5 : a.tmps.getD 5 undef = .int .u64 (n : Int) := hd 2 5 (by kernel_rfl)
      clear hd hs
      refine wpOp_plain rfl rfl ?_
      go_simp
      refine (rof_eq n 4 _ _ rfl rfl _ (by omega) (by omega)).mono ?_
      rintro e w' ⟨rfl, hb⟩
      exact hK _ _ rfl (hG.trans (hb.mono hG.size)) hb
    · intro a x hG hd hs K hK
      have h1 : a.tmps.getD 1 undef = .pointer (some ⟨w.heap.size, 0, none⟩) := hs 1 (by kernel_rfl)
      clear hd hs
      refine wpOp_plain rfl rfl ?_
      go_simp
      exact hK _ _ rfl hG (Below.refl _ _)
    · intro a x hG hd hs K hK
      have h7 : a.tmps.getD 7 undef = .pointer (some ⟨w.heap.size, 1, none⟩) := hd 4 7 (by kernel_rfl)
      clear hd hs
      refine wpOp_plain rfl rfl ?_
      have x1 := (hk.ext hG).cell 1
      simp only [List.getElem?_cons_zero, List.getElem?_cons_succ] at x1
      go_simp
      exact hK _ _ rfl hG (Below.refl _ _)
    · intro a x hG hd hs K hK
      have h8 : a.tmps.getD 8 undef = .int .u32 (s : Int) := hd 5 8 (by kernel_rfl)
      clear hd hs
      refine wpOp_plain rfl rfl ?_
      have hwr : IntKind.u64.wrap (s : Int) = s := IntWalk.u64_in _ (by omega)
      go_simp
      exact hK _ _ rfl hG (Below.refl _ _)
    · intro a x hG hd hs K hK
      have h9 : a.tmps.getD 9 undef = .int .u64 (s : Int) := hd 6 9 (by kernel_rfl)
      clear hd hs
      refine wpOp_plain rfl rfl ?_
      go_simp
      refine (rof_eq s 4 _ _ rfl rfl _ (by omega) (by omega)).mono ?_
      rintro e w' ⟨rfl, hb⟩
      exact hK _ _ rfl (hG.trans (hb.mono hG.size)) hb
    · intro a x hG hd hs K hK
      have h6 : a.tmps.getD 6 undef = .string ⟨(Pk.be n 4).toArray⟩ := hd 3 6 (by kernel_rfl)
      have h10 : a.tmps.getD 10 undef = .string ⟨(Pk.be s 4).toArray⟩ := hd 7 10 (by kernel_rfl)
      clear hd hs
      refine wpOp_plain rfl rfl ?_
      have hcat := run_cat (Pk.be n 4) (Pk.be s 4) (by simp [Pk.length_be])
      go_simp
      exact hK _ _ rfl hG (Below.refl _ _)
    · intro a x hG hd hs K hK
      have h11 : a.tmps.getD 11 undef = .string ⟨(Pk.be n 4 ++ Pk.be s 4).toArray⟩ := hd 8 11 (by kernel_rfl)
      clear hd hs
      refine wpOp_plain rfl rfl ?_
      go_simp
      exact hK _ _ rfl hG (Below.refl _ _)
  · intro x hG
    rintro _ rfl _ rfl _ rfl _ rfl _ rfl _ rfl _ rfl _ rfl _ rfl _ rfl
    simp only [Act.put, List.setIfInBounds_toArray, List.set_cons_zero, List.set_cons_succ, REnd]
    try simp only [Exit.then]
    go_wp2
    go_ret
    exact ⟨rfl, b0.trans (hG.mono b0.size)⟩

set_option maxRecDepth 100000 in
set_option maxHeartbeats 2000000 in
theorem rnode_any (w : World) (v : Value) (B : Nat) (ps : List (Int × Nat)) (h : Ptrs w B v ps) (hB : B ≤ w.heap.size) (hl : ps.length = 15) (ha : ps.all Nd.ptrB = true) (hs : ∀ p ∈ ps, p.2 < 4294967296) :
    Calls Tryd.prog 24 #[v] w fun e w' => e = .returned (.string ⟨(Nd.ndE ps).toArray⟩) ∧ Below w.heap.size w w' := by
  have HE := Lib.hid (show Nd.ndE ps = Crc.sealed (Pk.recs (pN ps)) by unfold Nd.ndE pN; rw [hl])
  have HLN := Lib.hid (recs_pN_len ps)
  obtain ⟨A, c, rfl, hc, hm, hcell⟩ := h.open_
  clear h
  have hl1 : 15 ≤ ps.length := by omega
  have hl2 : ps.length ≤ 15 := by omega
  have HAL := Lib.hid ha
  clear ha hl
  go_enter Tryd.func24, Tryd.ntmps24
  go_wp2
  go_loopw [3, 4] (fun y i wr => ∃ k : Nat, k ≤ 15 ∧ i = .int .i64 k ∧ y = .string ⟨(Pk.recs (pN (ps.take k))).toArray⟩ ∧ Below w.heap.size w wr) (fun _ i _ => 15 - (intOf i).toNat)
  case atStart => exact ⟨0, by omega, rfl, rfl, Below.refl _ _⟩
  case round =>
    obtain ⟨k, hk, rfl, rfl, hbw⟩ := hrel
    by_cases hlt : k < 15
    · have hkl : k < ps.length := by omega
      obtain ⟨b, off, rfl, hb, hc1, hc2⟩ := hcell k hkl
      have hx1 := (hbw.cell (p := ⟨b, off + k * 2, none⟩) (Nat.lt_of_lt_of_le hb hB)).trans hc1
      have hx2 := (hbw.cell (p := ⟨b, off + k * 2 + 1, none⟩) (Nat.lt_of_lt_of_le hb hB)).trans hc2
      have HS := Lib.hid (recs_pN_snoc ps k hkl)
      have hb1 := hs _ (List.getElem_mem hkl)
      have hb2 := List.all_eq_true.1 HAL.out _ (List.getElem_mem hkl)
      have hlen : (Pk.recs (pN (ps.take k))).length ≤ 120 := by rw [recs_pN_len, List.length_take]; omega
      clear hc1 hc2 hcell
      generalize ps[k] = p at *
      obtain ⟨pa, s⟩ := p
      simp only at hx1 hx2 hb1
      unfold Nd.ptrB at hb2
      rw [decide_eq_true_iff] at hb2
      simp only at hb2
      obtain ⟨n, rfl⟩ := Int.eq_ofNat_of_zero_le hb2.1
      have hn2 : n ≤ 2147483647 := by omega
      clear hb2
      have HS2 := Lib.hid (show Pk.recs (pN (ps.take (k + 1))) = Pk.recs (pN (ps.take k)) ++ (Pk.be n 4 ++ Pk.be s 4) from HS.out)
      clear HS
      generalize Pk.recs (pN (ps.take k)) = R at *
      go_wp2_with fail
      refine (rpointer_any n s _ hn2 hb1).mono ?_
      rintro e w1 ⟨rfl, hb3⟩
      have hql : (Pk.be n 4 ++ Pk.be s 4).length = 8 := by rw [List.length_append, Pk.length_be, Pk.length_be]
      generalize Pk.be n 4 ++ Pk.be s 4 = Q at *
      have hno : ¬ 9223372036854775807 < R.length + Q.length := by omega
      clear hql
      go_wp2
      go_roundw
      case rel => exact ⟨k + 1, by omega, by go_num, by rw [HS2.out, ba_append], hbw.trans (hb3.mono hbw.size)⟩
      case measure => simp [intOf]; omega
    · obtain rfl : k = 15 := by omega
      rw [List.take_of_length_le (by omega)]
      clear hcell
      go_wp2_with fail
      refine (rseal_any _ (Pk.recs (pN ps)) (by rw [HLN.out]; omega)).mono ?_
      rintro e w1 ⟨rfl, hb3⟩
      go_wp2
      go_ret
      exact ⟨by rw [HE.out]; rfl, hbw.trans (hb3.mono hbw.size)⟩
end Go.Proofs.YtmabdbleakolbaaDoor
