/-
  The walks of inode.Node, ReadNode, To and Points. By an AI agent.
-/
import Derived.Test.YtmabdbleakolbaaDoorInodeY
namespace Go.Proofs.YtmabdbleakolbaaDoor
open Go.RowKit Go.ChangeShapes Go.WideShapes Go.ChangeAt

set_option maxHeartbeats 400000 in
theorem node_no (w : World) (v : Value) (B : Nat) (ps : List (Int × Nat)) (h : Ptrs w B v ps) (hB : B ≤ w.heap.size) (hn : (decide (ps.length = 15) && ps.all Nd.ptrB) = false) :
    Calls Tryd.prog 16 #[v] w fun e w' => e = .returned (.tuple #[.slice none 0 0, .int .i64 1]) ∧ Below w.heap.size w w' := by
  have hh := h
  obtain ⟨A, c, rfl, hc, hm, _⟩ := h.open_
  by_cases hl : ps.length = 15
  · have hl' : (((ps.length : Nat) : Int) != 15) = false := by rw [bne_eq_false_iff_eq]; omega
    rw [decide_eq_true hl, Bool.true_and] at hn
    clear hl
    go_enter Tryd.func16, Tryd.ntmps16
    go_wp2_with fail
    refine (all_any _ _ _ ps hh hB).mono ?_
    rintro e w1 ⟨rfl, hb1⟩
    rw [hn]
    go_wp2
    go_ret2
    exact ⟨rfl, hb1⟩
  · have hl' : (((ps.length : Nat) : Int) != 15) = true := by rw [bne_iff_ne]; omega
    clear hl hn
    go_enter Tryd.func16, Tryd.ntmps16
    go_wp2
    go_ret2
    exact ⟨rfl, Below.refl _ _⟩

set_option maxHeartbeats 400000 in
theorem node_yes (w : World) (v : Value) (B : Nat) (ps : List (Int × Nat)) (h : Ptrs w B v ps) (hB : B ≤ w.heap.size) (hl : ps.length = 15) (ha : ps.all Nd.ptrB = true) (hs : ∀ p ∈ ps, p.2 < 4294967296) (hH : Halves w) :
    Calls Tryd.prog 16 #[v] w (Made (Nd.ndE ps) w) := by
  have HH := Lib.hid h
  have HC := Lib.hid (Nd.nd_chk ps hl ha hs)
  have HLN := Lib.hid (Nd.ndE_len ps hl)
  have HE := Lib.hid (show Nd.ndE ps = Crc.sealed (Pk.recs (pN ps)) by unfold Nd.ndE pN; rw [hl])
  have HN := Lib.hid (show (Nd.pW 15).zip (Nd.pV ps) = pN ps by unfold pN; rw [hl])
  have hpl := pN_len ps
  rw [hl] at hpl
  have HPL := Lib.hid hpl
  obtain ⟨A, c, rfl, hc, hm, _⟩ := h.open_
  have hl' : (((ps.length : Nat) : Int) != 15) = false := by rw [bne_eq_false_iff_eq]; omega
  have hl2 : ps.length ≤ 15 := by omega
  clear h hl hpl
  go_enter Tryd.func16, Tryd.ntmps16
  go_wp2_with fail
  refine (all_any _ _ _ ps HH.out hB).mono ?_
  rintro e w1 ⟨rfl, hb1⟩
  rw [ha]
  go_wp2_with fail
  refine (numbers_any _ _ _ ps (Rds.ext HH.out hB hb1) (Nat.le_trans hB hb1.size) (by omega) ha hs).mono ?_
  rintro e w2 ⟨u, rfl, hown, hb2⟩
  have hna : Nums w2 w2.heap.size u (pN ps) := Nums.of_own hown
  have c2 := hb1.trans (hb2.mono hb1.size)
  go_wp2_with fail
  refine (sealN_any _ _ _ (hH.ext c2) hna (by rw [HPL.out]; omega) (by rw [← HN.out]; exact HC.out) (by rw [← HN.out, HLN.out]; omega)).mono ?_
  rintro e w3 ⟨q, rfl, hbs, hb3⟩
  rw [← HE.out] at hbs
  go_wp2
  go_ret2
  exact ⟨_, rfl, hbs, c2.trans (hb3.mono c2.size)⟩

/-! ### To and Points -/
def toB (at_ : Int) (l : List UInt8) : Bool := decide (1 ≤ at_ ∧ at_ ≤ 2147483647 ∧ l.length = 128)
def ptB (a : Int) (s : Nat) (l : List UInt8) : Bool := decide (0 < a ∧ l.length = 128 ∧ Crc.sum l = s)
set_option maxHeartbeats 400000 in
theorem to_no (w : World) (at_ : Int) (v : Value) (B : Nat) (l : List UInt8) (h : Bs w B v l) (hn : toB at_ l = false) :
    Calls Tryd.prog 18 #[.int .i64 at_, v] w fun e w' => e = .returned (.tuple #[.agg #[.int .i64 0, .int .u32 0], .int .i64 1]) ∧ Below w.heap.size w w' := by
  obtain ⟨A, c, rfl, hc, hm, _⟩ := h.openD
  clear h
  unfold toB at hn
  rw [decide_eq_false_iff_not] at hn
  by_cases h1 : at_ < 1
  · clear hn
    go_enter Tryd.func18, Tryd.ntmps18
    go_wp2
    exact bodyPost_ret (v := .tuple #[.agg #[.int .i64 0, .int .u32 0], .int .i64 1]) (by simp [results, Tryd.results18, go_sem]) rfl ⟨rfl, (Below.refl _ _).alloc (Nat.le_refl _) _⟩
  · by_cases h2 : 2147483647 < at_
    · clear hn
      go_enter Tryd.func18, Tryd.ntmps18
      go_wp2
      exact bodyPost_ret (v := .tuple #[.agg #[.int .i64 0, .int .u32 0], .int .i64 1]) (by simp [results, Tryd.results18, go_sem]) rfl ⟨rfl, (Below.refl _ _).alloc (Nat.le_refl _) _⟩
    · have hl : (((l.length : Nat) : Int) != 128) = true := by rw [bne_iff_ne]; omega
      clear hn
      go_enter Tryd.func18, Tryd.ntmps18
      go_wp2
      exact bodyPost_ret (v := .tuple #[.agg #[.int .i64 0, .int .u32 0], .int .i64 1]) (by simp [results, Tryd.results18, go_sem]) rfl ⟨rfl, (Below.refl _ _).alloc (Nat.le_refl _) _⟩
set_option maxHeartbeats 400000 in
theorem to_yes (w : World) (at_ : Int) (v : Value) (B : Nat) (l : List UInt8) (hH : Halves w) (h : Bs w B v l) (hB : B ≤ w.heap.size) (hn : toB at_ l = true) :
    Calls Tryd.prog 18 #[.int .i64 at_, v] w fun e w' => e = .returned (.tuple #[.agg #[.int .i64 at_, .int .u32 (Crc.sum l : Nat)], .int .i64 0]) ∧ Below w.heap.size w w' := by
  have HB := Lib.hid h
  obtain ⟨A, c, rfl, hc, hm, _⟩ := h.openD
  clear h
  unfold toB at hn
  rw [decide_eq_true_iff] at hn
  obtain ⟨h1, h2, h3⟩ := hn
  have hl : (((l.length : Nat) : Int) != 128) = false := by rw [bne_eq_false_iff_eq]; omega
  clear h3
  go_enter Tryd.func18, Tryd.ntmps18
  go_wp2_with fail
  have hb := (HB.out.ext hB ((Below.refl w.heap.size w).alloc (Nat.le_refl _) (.cells #[.int .i64 0, .int .u32 0] 24))).more (B' := (w.alloc (.cells #[.int .i64 0, .int .u32 0] 24)).heap.size) (by simp; omega)
  refine (sum_any _ _ _ [l] ((hH.alloc _).alloc _) (Bss.lit1' _ hb (by simp))).mono ?_
  rintro e w' ⟨rfl, rfl⟩
  simp only [List.flatten_cons, List.flatten_nil, List.append_nil]
  generalize hSS : Crc.sum l = SS
  have HS := Lib.hid hSS
  clear hSS
  go_wp2
  refine bodyPost_ret (v := .tuple #[.agg #[.int .i64 at_, .int .u32 (SS : Int)], .int .i64 0]) (by simp [results, Tryd.results18, go_sem]) rfl ⟨by rw [HS.out], ?_⟩
  exact ((Below.refl _ _).alloc (Nat.le_refl _) _).alloc (by simp) _
set_option maxRecDepth 100000 in
set_option maxHeartbeats 4000000 in
theorem points_any (w : World) (pa : Int) (s : Nat) (v : Value) (B : Nat) (l : List UInt8) (hH : Halves w) (h : Bs w B v l) (hB : B ≤ w.heap.size) :
    Calls Tryd.prog 20 #[.agg #[.int .i64 pa, .int .u32 (s : Int)], v] w fun e w' => e = .returned (.bool (ptB pa s l)) ∧ Below w.heap.size w w' := by
  have HB := Lib.hid h
  obtain ⟨A, c, rfl, hc, hm, _⟩ := h.openD
  clear h
  have HS0 := Lib.hid (show ptB pa s l = decide (0 < pa ∧ l.length = 128 ∧ Crc.sum l = s) from rfl)
  generalize hSS : Crc.sum l = SS at *
  have HS := Lib.hid hSS
  clear hSS
  go_enter Tryd.func20, Tryd.ntmps20
  go_wp2_with fail
  have hk := Blk.new w 24 #[.int .i64 pa, .int .u32 (s : Int)]
  have hb0 := (Below.refl w.heap.size w).alloc (Nat.le_refl _) (.cells #[.int .i64 pa, .int .u32 (s : Int)] 24)
  change Blk _ _ _ [.int .i64 pa, .int .u32 (s : Int)] at hk
  generalize w.alloc (.cells #[.int .i64 pa, .int .u32 (s : Int)] 24) = W0 at *
  have hbs := (HB.out.ext hB hb0).more (B' := W0.heap.size) (Nat.le_trans hB hb0.size)
  have hH0 := hH.ext hb0
  clear HB hH
  generalize w.heap.size = gq at hk ⊢
  have hG0 : Below W0.heap.size W0 W0.drew := (Below.refl _ _).drew
  by_cases h1 : 0 < pa
  · by_cases h2 : l.length = 128
    · have hl : (((l.length : Nat) : Int) == 128) = true := by rw [beq_iff_eq]; omega
      have HD := Lib.hid (show ptB pa s l = ((SS : Int) == (s : Int)) by rw [HS0.out, Bool.eq_iff_iff]; simp [h1, h2]; omega)
      clear h2 HS0
      refine wp_region_list 17 [(fun y_ _ => y_ = .pointer (some ⟨gq, 0, none⟩)),
        (fun y_ _ => y_ = .int .i64 pa),
        (fun y_ _ => y_ = .bool true),
        (fun y_ _ => y_ = .bool true),
        (fun y_ _ => y_ = .slice A l.length c),
        (fun y_ _ => y_ = .int .i64 (l.length : Int)),
        (fun y_ _ => y_ = .bool true),
        (fun y_ _ => y_ = .bool true),
        (fun y_ _ => y_ = .bool true),
        (fun y_ _ => y_ = .slice A l.length c),
        (fun u q => ∃ g, u = .slice (some ⟨g, 0, none⟩) 1 1 ∧ g + 1 ≤ q.heap.size ∧ Bss q (g + 1) u [l]),
        (fun y_ _ => y_ = .int .u32 (SS : Int)),
        (fun y_ _ => y_ = .pointer (some ⟨gq, 1, none⟩)),
        (fun y_ _ => y_ = .int .u32 (s : Int)),
        (fun y_ _ => y_ = .bool ((SS : Int) == (s : Int))),
        (fun y_ _ => y_ = .bool ((SS : Int) == (s : Int))),
        (fun y_ _ => y_ = .bool ((SS : Int) == (s : Int)))]
        (fun x => Below W0.heap.size W0 x) (by kernel_rfl) rfl (by kernel_rfl) ?_ ?_ ?_ ?_
      · exact hG0
      · exact ⟨stab_eq _, stab_eq _, stab_eq _, stab_eq _, stab_eq _, stab_eq _, stab_eq _, stab_eq _, stab_eq _, stab_eq _, fun _ _ _ ⟨g, h1, h2, h3⟩ hb => ⟨g, h1, Nat.le_trans h2 hb.size, h3.ext h2 hb⟩, stab_eq _, stab_eq _, stab_eq _, stab_eq _, stab_eq _, stab_eq _, trivial⟩
      · refine ⟨?_, ?_, ?_, ?_, ?_, ?_, ?_, ?_, ?_, ?_, ?_, ?_, ?_, ?_, ?_, ?_, ?_, trivial⟩
        · intro a x hG hd hs K hK
          have h2 : a.tmps.getD 2 undef = .pointer (some ⟨gq, 0, none⟩) := hs 2 (by kernel_rfl)
          clear hd hs
          refine wpOp_plain rfl rfl ?_
          go_simp
          exact hK _ _ rfl hG (Below.refl _ _)
        · intro a x hG hd hs K hK
          have h5 : a.tmps.getD 5 undef = .pointer (some ⟨gq, 0, none⟩) := hd 0 5 (by kernel_rfl)
          clear hd hs
          refine wpOp_plain rfl rfl ?_
          have hc := (hG.cell (p := ⟨gq, 0, none⟩) hk.lt).trans (hk.cell 0)
          simp only [List.getElem?_cons_zero] at hc
          go_simp
          exact hK _ _ rfl hG (Below.refl _ _)
        · intro a x hG hd hs K hK
          have h6 : a.tmps.getD 6 undef = .int .i64 pa := hd 1 6 (by kernel_rfl)
          clear hd hs
          refine wpOp_plain rfl rfl ?_
          go_simp
          exact hK _ _ rfl hG (Below.refl _ _)
        · intro a x hG hd hs K hK
          have h7 : a.tmps.getD 7 undef = .bool true := hd 2 7 (by kernel_rfl)
          clear hd hs
          refine wpOp_plain rfl rfl ?_
          go_simp
          exact hK _ _ rfl hG (Below.refl _ _)
        · intro a x hG hd hs K hK
          have h1 : a.tmps.getD 1 undef = .slice A l.length c := hs 1 (by kernel_rfl)
          have h8 : a.tmps.getD 8 undef = .bool true := hd 3 8 (by kernel_rfl)
          clear hd hs
          refine wpOp_yes rfl rfl rfl h8 ?_
          go_simp
          exact hK _ _ rfl hG (Below.refl _ _)
        · intro a x hG hd hs K hK
          have h9 : a.tmps.getD 9 undef = .slice A l.length c := hd 4 9 (by kernel_rfl)
          have h8 : a.tmps.getD 8 undef = .bool true := hd 3 8 (by kernel_rfl)
          clear hd hs
          refine wpOp_yes rfl rfl rfl h8 ?_
          go_simp
          exact hK _ _ rfl hG (Below.refl _ _)
        · intro a x hG hd hs K hK
          have h10 : a.tmps.getD 10 undef = .int .i64 (l.length : Int) := hd 5 10 (by kernel_rfl)
          have h8 : a.tmps.getD 8 undef = .bool true := hd 3 8 (by kernel_rfl)
          clear hd hs
          refine wpOp_yes rfl rfl rfl h8 ?_
          go_simp
          exact hK _ _ rfl hG (Below.refl _ _)
        · intro a x hG hd hs K hK
          have h8 : a.tmps.getD 8 undef = .bool true := hd 3 8 (by kernel_rfl)
          have h11 : a.tmps.getD 11 undef = .bool true := hd 6 11 (by kernel_rfl)
          clear hd hs
          refine wpOp_plain rfl rfl ?_
          go_simp
          exact hK _ _ rfl hG (Below.refl _ _)
        · intro a x hG hd hs K hK
          have h12 : a.tmps.getD 12 undef = .bool true := hd 7 12 (by kernel_rfl)
          clear hd hs
          refine wpOp_plain rfl rfl ?_
          go_simp
          exact hK _ _ rfl hG (Below.refl _ _)
        · intro a x hG hd hs K hK
          have h1 : a.tmps.getD 1 undef = .slice A l.length c := hs 1 (by kernel_rfl)
          have h13 : a.tmps.getD 13 undef = .bool true := hd 8 13 (by kernel_rfl)
          clear hd hs
          refine wpOp_yes rfl rfl rfl h13 ?_
          go_simp
          exact hK _ _ rfl hG (Below.refl _ _)
        · intro a x hG hd hs K hK
          have h14 : a.tmps.getD 14 undef = .slice A l.length c := hd 9 14 (by kernel_rfl)
          have h14o := getD_opt h14
          have h13 : a.tmps.getD 13 undef = .bool true := hd 8 13 (by kernel_rfl)
          have h13o := getD_opt h13
          clear hd hs
          refine wpOp_yes rfl rfl rfl h13 ?_
          go_simp
          exact hK _ _ ⟨x.heap.size, rfl, by simp, Bss.lit1 _ ((hbs.ext (Nat.le_refl _) hG).more hG.size)⟩ (hG.alloc hG.size _) ((Below.refl _ _).alloc (Nat.le_refl _) _)
        · intro a x hG hd hs K hK
          have h15 : (fun u q => ∃ g, u = .slice (some ⟨g, 0, none⟩) 1 1 ∧ g + 1 ≤ q.heap.size ∧ Bss q (g + 1) u [l]) (a.tmps.getD 15 undef) x := hd 10 15 (by kernel_rfl)
          have h13 : a.tmps.getD 13 undef = .bool true := hd 8 13 (by kernel_rfl)
          clear hd hs
          refine wpOp_yes rfl rfl rfl h13 ?_
          obtain ⟨g, hgv, _, hg⟩ := h15
          rw [hgv] at hg
          go_simp
          refine (sum_any _ _ _ [l] (hH0.ext hG) hg).mono ?_
          rintro e w' ⟨rfl, rfl⟩
          simp only [List.flatten_cons, List.flatten_nil, List.append_nil]
          rw [HS.out]
          exact hK _ _ rfl hG (Below.refl _ _)
        · intro a x hG hd hs K hK
          have h2 : a.tmps.getD 2 undef = .pointer (some ⟨gq, 0, none⟩) := hs 2 (by kernel_rfl)
          have h13 : a.tmps.getD 13 undef = .bool true := hd 8 13 (by kernel_rfl)
          clear hd hs
          refine wpOp_yes rfl rfl rfl h13 ?_
          go_simp
          exact hK _ _ rfl hG (Below.refl _ _)
        · intro a x hG hd hs K hK
          have h17 : a.tmps.getD 17 undef = .pointer (some ⟨gq, 1, none⟩) := hd 12 17 (by kernel_rfl)
          have h13 : a.tmps.getD 13 undef = .bool true := hd 8 13 (by kernel_rfl)
          clear hd hs
          refine wpOp_yes rfl rfl rfl h13 ?_
          have hc := (hG.cell (p := ⟨gq, 1, none⟩) hk.lt).trans (hk.cell 1)
          simp only [List.getElem?_cons_zero, List.getElem?_cons_succ] at hc
          go_simp
          exact hK _ _ rfl hG (Below.refl _ _)
        · intro a x hG hd hs K hK
          have h16 : a.tmps.getD 16 undef = .int .u32 (SS : Int) := hd 11 16 (by kernel_rfl)
          have h18 : a.tmps.getD 18 undef = .int .u32 (s : Int) := hd 13 18 (by kernel_rfl)
          have h13 : a.tmps.getD 13 undef = .bool true := hd 8 13 (by kernel_rfl)
          clear hd hs
          refine wpOp_yes rfl rfl rfl h13 ?_
          go_simp
          exact hK _ _ rfl hG (Below.refl _ _)
        · intro a x hG hd hs K hK
          have h13 : a.tmps.getD 13 undef = .bool true := hd 8 13 (by kernel_rfl)
          have h19 : a.tmps.getD 19 undef = .bool ((SS : Int) == (s : Int)) := hd 14 19 (by kernel_rfl)
          clear hd hs
          refine wpOp_plain rfl rfl ?_
          go_simp
          exact hK _ _ rfl hG (Below.refl _ _)
        · intro a x hG hd hs K hK
          have h20 : a.tmps.getD 20 undef = .bool ((SS : Int) == (s : Int)) := hd 15 20 (by kernel_rfl)
          clear hd hs
          refine wpOp_plain rfl rfl ?_
          go_simp
          exact hK _ _ rfl hG (Below.refl _ _)
      · intro x hG
        rintro _ rfl _ rfl _ rfl _ rfl _ rfl _ rfl _ rfl _ rfl _ rfl _ rfl v10 hv10 _ rfl _ rfl _ rfl _ rfl _ rfl _ rfl
        simp only [Act.put, List.setIfInBounds_toArray, List.set_cons_zero, List.set_cons_succ, REnd]
        try simp only [Exit.then]
        go_wp2
        go_ret
        exact ⟨by rw [HD.out]; rfl, hb0.trans (hG.mono hb0.size)⟩
    · have hl : (((l.length : Nat) : Int) == 128) = false := by rw [beq_eq_false_iff_ne]; omega
      have HD := Lib.hid (show ptB pa s l = false by rw [HS0.out]; simp [h2])
      clear h2 HS0
      refine wp_region_list 17 [(fun y_ _ => y_ = .pointer (some ⟨gq, 0, none⟩)),
        (fun y_ _ => y_ = .int .i64 pa),
        (fun y_ _ => y_ = .bool true),
        (fun y_ _ => y_ = .bool true),
        (fun y_ _ => y_ = .slice A l.length c),
        (fun y_ _ => y_ = .int .i64 (l.length : Int)),
        (fun y_ _ => y_ = .bool false),
        (fun y_ _ => y_ = .bool false),
        (fun y_ _ => y_ = .bool false),
        (fun y_ _ => y_ = undef),
        (fun y_ _ => y_ = undef),
        (fun y_ _ => y_ = undef),
        (fun y_ _ => y_ = undef),
        (fun y_ _ => y_ = undef),
        (fun y_ _ => y_ = undef),
        (fun y_ _ => y_ = .bool false),
        (fun y_ _ => y_ = .bool false)]
        (fun x => Below W0.heap.size W0 x) (by kernel_rfl) rfl (by kernel_rfl) ?_ ?_ ?_ ?_
      · exact hG0
      · exact ⟨stab_eq _, stab_eq _, stab_eq _, stab_eq _, stab_eq _, stab_eq _, stab_eq _, stab_eq _, stab_eq _, stab_eq _, stab_eq _, stab_eq _, stab_eq _, stab_eq _, stab_eq _, stab_eq _, stab_eq _, trivial⟩
      · refine ⟨?_, ?_, ?_, ?_, ?_, ?_, ?_, ?_, ?_, ?_, ?_, ?_, ?_, ?_, ?_, ?_, ?_, trivial⟩
        · intro a x hG hd hs K hK
          have h2 : a.tmps.getD 2 undef = .pointer (some ⟨gq, 0, none⟩) := hs 2 (by kernel_rfl)
          clear hd hs
          refine wpOp_plain rfl rfl ?_
          go_simp
          exact hK _ _ rfl hG (Below.refl _ _)
        · intro a x hG hd hs K hK
          have h5 : a.tmps.getD 5 undef = .pointer (some ⟨gq, 0, none⟩) := hd 0 5 (by kernel_rfl)
          clear hd hs
          refine wpOp_plain rfl rfl ?_
          have hc := (hG.cell (p := ⟨gq, 0, none⟩) hk.lt).trans (hk.cell 0)
          simp only [List.getElem?_cons_zero] at hc
          go_simp
          exact hK _ _ rfl hG (Below.refl _ _)
        · intro a x hG hd hs K hK
          have h6 : a.tmps.getD 6 undef = .int .i64 pa := hd 1 6 (by kernel_rfl)
          clear hd hs
          refine wpOp_plain rfl rfl ?_
          go_simp
          exact hK _ _ rfl hG (Below.refl _ _)
        · intro a x hG hd hs K hK
          have h7 : a.tmps.getD 7 undef = .bool true := hd 2 7 (by kernel_rfl)
          clear hd hs
          refine wpOp_plain rfl rfl ?_
          go_simp
          exact hK _ _ rfl hG (Below.refl _ _)
        · intro a x hG hd hs K hK
          have h1 : a.tmps.getD 1 undef = .slice A l.length c := hs 1 (by kernel_rfl)
          have h8 : a.tmps.getD 8 undef = .bool true := hd 3 8 (by kernel_rfl)
          clear hd hs
          refine wpOp_yes rfl rfl rfl h8 ?_
          go_simp
          exact hK _ _ rfl hG (Below.refl _ _)
        · intro a x hG hd hs K hK
          have h9 : a.tmps.getD 9 undef = .slice A l.length c := hd 4 9 (by kernel_rfl)
          have h8 : a.tmps.getD 8 undef = .bool true := hd 3 8 (by kernel_rfl)
          clear hd hs
          refine wpOp_yes rfl rfl rfl h8 ?_
          go_simp
          exact hK _ _ rfl hG (Below.refl _ _)
        · intro a x hG hd hs K hK
          have h10 : a.tmps.getD 10 undef = .int .i64 (l.length : Int) := hd 5 10 (by kernel_rfl)
          have h8 : a.tmps.getD 8 undef = .bool true := hd 3 8 (by kernel_rfl)
          clear hd hs
          refine wpOp_yes rfl rfl rfl h8 ?_
          go_simp
          exact hK _ _ rfl hG (Below.refl _ _)
        · intro a x hG hd hs K hK
          have h8 : a.tmps.getD 8 undef = .bool true := hd 3 8 (by kernel_rfl)
          have h11 : a.tmps.getD 11 undef = .bool false := hd 6 11 (by kernel_rfl)
          clear hd hs
          refine wpOp_plain rfl rfl ?_
          go_simp
          exact hK _ _ rfl hG (Below.refl _ _)
        · intro a x hG hd hs K hK
          have h12 : a.tmps.getD 12 undef = .bool false := hd 7 12 (by kernel_rfl)
          clear hd hs
          refine wpOp_plain rfl rfl ?_
          go_simp
          exact hK _ _ rfl hG (Below.refl _ _)
        · intro a x hG hd hs K hK
          have h1 : a.tmps.getD 1 undef = .slice A l.length c := hs 1 (by kernel_rfl)
          have h13 : a.tmps.getD 13 undef = .bool false := hd 8 13 (by kernel_rfl)
          clear hd hs
          refine wpOp_no rfl rfl rfl h13 ?_
          exact hK _ _ rfl hG (Below.refl _ _)
        · intro a x hG hd hs K hK
          have h14 : a.tmps.getD 14 undef = undef := hd 9 14 (by kernel_rfl)
          have h14o := getD_opt h14
          have h13 : a.tmps.getD 13 undef = .bool false := hd 8 13 (by kernel_rfl)
          have h13o := getD_opt h13
          clear hd hs
          refine wpOp_no rfl rfl rfl h13 ?_
          exact hK _ _ rfl hG (Below.refl _ _)
        · intro a x hG hd hs K hK
          have h15 : a.tmps.getD 15 undef = undef := hd 10 15 (by kernel_rfl)
          have h13 : a.tmps.getD 13 undef = .bool false := hd 8 13 (by kernel_rfl)
          clear hd hs
          refine wpOp_no rfl rfl rfl h13 ?_
          exact hK _ _ rfl hG (Below.refl _ _)
        · intro a x hG hd hs K hK
          have h2 : a.tmps.getD 2 undef = .pointer (some ⟨gq, 0, none⟩) := hs 2 (by kernel_rfl)
          have h13 : a.tmps.getD 13 undef = .bool false := hd 8 13 (by kernel_rfl)
          clear hd hs
          refine wpOp_no rfl rfl rfl h13 ?_
          exact hK _ _ rfl hG (Below.refl _ _)
        · intro a x hG hd hs K hK
          have h17 : a.tmps.getD 17 undef = undef := hd 12 17 (by kernel_rfl)
          have h13 : a.tmps.getD 13 undef = .bool false := hd 8 13 (by kernel_rfl)
          clear hd hs
          refine wpOp_no rfl rfl rfl h13 ?_
          exact hK _ _ rfl hG (Below.refl _ _)
        · intro a x hG hd hs K hK
          have h16 : a.tmps.getD 16 undef = undef := hd 11 16 (by kernel_rfl)
          have h18 : a.tmps.getD 18 undef = undef := hd 13 18 (by kernel_rfl)
          have h13 : a.tmps.getD 13 undef = .bool false := hd 8 13 (by kernel_rfl)
          clear hd hs
          refine wpOp_no rfl rfl rfl h13 ?_
          exact hK _ _ rfl hG (Below.refl _ _)
        · intro a x hG hd hs K hK
          have h13 : a.tmps.getD 13 undef = .bool false := hd 8 13 (by kernel_rfl)
          have h19 : a.tmps.getD 19 undef = undef := hd 14 19 (by kernel_rfl)
          clear hd hs
          refine wpOp_plain rfl rfl ?_
          go_simp
          exact hK _ _ rfl hG (Below.refl _ _)
        · intro a x hG hd hs K hK
          have h20 : a.tmps.getD 20 undef = .bool false := hd 15 20 (by kernel_rfl)
          clear hd hs
          refine wpOp_plain rfl rfl ?_
          go_simp
          exact hK _ _ rfl hG (Below.refl _ _)
      · intro x hG
        rintro _ rfl _ rfl _ rfl _ rfl _ rfl _ rfl _ rfl _ rfl _ rfl _ rfl _ rfl _ rfl _ rfl _ rfl _ rfl _ rfl _ rfl
        simp only [Act.put, List.setIfInBounds_toArray, List.set_cons_zero, List.set_cons_succ, REnd]
        try simp only [Exit.then]
        go_wp2
        go_ret
        exact ⟨by rw [HD.out]; rfl, hb0.trans (hG.mono hb0.size)⟩
  · have HD := Lib.hid (show ptB pa s l = false by rw [HS0.out]; simp [h1])
    clear HS0
    refine wp_region_list 17 [(fun y_ _ => y_ = .pointer (some ⟨gq, 0, none⟩)),
      (fun y_ _ => y_ = .int .i64 pa),
      (fun y_ _ => y_ = .bool false),
      (fun y_ _ => y_ = .bool false),
      (fun y_ _ => y_ = undef),
      (fun y_ _ => y_ = undef),
      (fun y_ _ => y_ = undef),
      (fun y_ _ => y_ = .bool false),
      (fun y_ _ => y_ = .bool false),
      (fun y_ _ => y_ = undef),
      (fun y_ _ => y_ = undef),
      (fun y_ _ => y_ = undef),
      (fun y_ _ => y_ = undef),
      (fun y_ _ => y_ = undef),
      (fun y_ _ => y_ = undef),
      (fun y_ _ => y_ = .bool false),
      (fun y_ _ => y_ = .bool false)]
      (fun x => Below W0.heap.size W0 x) (by kernel_rfl) rfl (by kernel_rfl) ?_ ?_ ?_ ?_
    · exact hG0
    · exact ⟨stab_eq _, stab_eq _, stab_eq _, stab_eq _, stab_eq _, stab_eq _, stab_eq _, stab_eq _, stab_eq _, stab_eq _, stab_eq _, stab_eq _, stab_eq _, stab_eq _, stab_eq _, stab_eq _, stab_eq _, trivial⟩
    · refine ⟨?_, ?_, ?_, ?_, ?_, ?_, ?_, ?_, ?_, ?_, ?_, ?_, ?_, ?_, ?_, ?_, ?_, trivial⟩
      · intro a x hG hd hs K hK
        have h2 : a.tmps.getD 2 undef = .pointer (some ⟨gq, 0, none⟩) := hs 2 (by kernel_rfl)
        clear hd hs
        refine wpOp_plain rfl rfl ?_
        go_simp
        exact hK _ _ rfl hG (Below.refl _ _)
      · intro a x hG hd hs K hK
        have h5 : a.tmps.getD 5 undef = .pointer (some ⟨gq, 0, none⟩) := hd 0 5 (by kernel_rfl)
        clear hd hs
        refine wpOp_plain rfl rfl ?_
        have hc := (hG.cell (p := ⟨gq, 0, none⟩) hk.lt).trans (hk.cell 0)
        simp only [List.getElem?_cons_zero] at hc
        go_simp
        exact hK _ _ rfl hG (Below.refl _ _)
      · intro a x hG hd hs K hK
        have h6 : a.tmps.getD 6 undef = .int .i64 pa := hd 1 6 (by kernel_rfl)
        clear hd hs
        refine wpOp_plain rfl rfl ?_
        go_simp
        exact hK _ _ rfl hG (Below.refl _ _)
      · intro a x hG hd hs K hK
        have h7 : a.tmps.getD 7 undef = .bool false := hd 2 7 (by kernel_rfl)
        clear hd hs
        refine wpOp_plain rfl rfl ?_
        go_simp
        exact hK _ _ rfl hG (Below.refl _ _)
      · intro a x hG hd hs K hK
        have h1 : a.tmps.getD 1 undef = .slice A l.length c := hs 1 (by kernel_rfl)
        have h8 : a.tmps.getD 8 undef = .bool false := hd 3 8 (by kernel_rfl)
        clear hd hs
        refine wpOp_no rfl rfl rfl h8 ?_
        exact hK _ _ rfl hG (Below.refl _ _)
      · intro a x hG hd hs K hK
        have h9 : a.tmps.getD 9 undef = undef := hd 4 9 (by kernel_rfl)
        have h8 : a.tmps.getD 8 undef = .bool false := hd 3 8 (by kernel_rfl)
        clear hd hs
        refine wpOp_no rfl rfl rfl h8 ?_
        exact hK _ _ rfl hG (Below.refl _ _)
      · intro a x hG hd hs K hK
        have h10 : a.tmps.getD 10 undef = undef := hd 5 10 (by kernel_rfl)
        have h8 : a.tmps.getD 8 undef = .bool false := hd 3 8 (by kernel_rfl)
        clear hd hs
        refine wpOp_no rfl rfl rfl h8 ?_
        exact hK _ _ rfl hG (Below.refl _ _)
      · intro a x hG hd hs K hK
        have h8 : a.tmps.getD 8 undef = .bool false := hd 3 8 (by kernel_rfl)
        have h11 : a.tmps.getD 11 undef = undef := hd 6 11 (by kernel_rfl)
        clear hd hs
        refine wpOp_plain rfl rfl ?_
        go_simp
        exact hK _ _ rfl hG (Below.refl _ _)
      · intro a x hG hd hs K hK
        have h12 : a.tmps.getD 12 undef = .bool false := hd 7 12 (by kernel_rfl)
        clear hd hs
        refine wpOp_plain rfl rfl ?_
        go_simp
        exact hK _ _ rfl hG (Below.refl _ _)
      · intro a x hG hd hs K hK
        have h1 : a.tmps.getD 1 undef = .slice A l.length c := hs 1 (by kernel_rfl)
        have h13 : a.tmps.getD 13 undef = .bool false := hd 8 13 (by kernel_rfl)
        clear hd hs
        refine wpOp_no rfl rfl rfl h13 ?_
        exact hK _ _ rfl hG (Below.refl _ _)
      · intro a x hG hd hs K hK
        have h14 : a.tmps.getD 14 undef = undef := hd 9 14 (by kernel_rfl)
        have h14o := getD_opt h14
        have h13 : a.tmps.getD 13 undef = .bool false := hd 8 13 (by kernel_rfl)
        have h13o := getD_opt h13
        clear hd hs
        refine wpOp_no rfl rfl rfl h13 ?_
        exact hK _ _ rfl hG (Below.refl _ _)
      · intro a x hG hd hs K hK
        have h15 : a.tmps.getD 15 undef = undef := hd 10 15 (by kernel_rfl)
        have h13 : a.tmps.getD 13 undef = .bool false := hd 8 13 (by kernel_rfl)
        clear hd hs
        refine wpOp_no rfl rfl rfl h13 ?_
        exact hK _ _ rfl hG (Below.refl _ _)
      · intro a x hG hd hs K hK
        have h2 : a.tmps.getD 2 undef = .pointer (some ⟨gq, 0, none⟩) := hs 2 (by kernel_rfl)
        have h13 : a.tmps.getD 13 undef = .bool false := hd 8 13 (by kernel_rfl)
        clear hd hs
        refine wpOp_no rfl rfl rfl h13 ?_
        exact hK _ _ rfl hG (Below.refl _ _)
      · intro a x hG hd hs K hK
        have h17 : a.tmps.getD 17 undef = undef := hd 12 17 (by kernel_rfl)
        have h13 : a.tmps.getD 13 undef = .bool false := hd 8 13 (by kernel_rfl)
        clear hd hs
        refine wpOp_no rfl rfl rfl h13 ?_
        exact hK _ _ rfl hG (Below.refl _ _)
      · intro a x hG hd hs K hK
        have h16 : a.tmps.getD 16 undef = undef := hd 11 16 (by kernel_rfl)
        have h18 : a.tmps.getD 18 undef = undef := hd 13 18 (by kernel_rfl)
        have h13 : a.tmps.getD 13 undef = .bool false := hd 8 13 (by kernel_rfl)
        clear hd hs
        refine wpOp_no rfl rfl rfl h13 ?_
        exact hK _ _ rfl hG (Below.refl _ _)
      · intro a x hG hd hs K hK
        have h13 : a.tmps.getD 13 undef = .bool false := hd 8 13 (by kernel_rfl)
        have h19 : a.tmps.getD 19 undef = undef := hd 14 19 (by kernel_rfl)
        clear hd hs
        refine wpOp_plain rfl rfl ?_
        go_simp
        exact hK _ _ rfl hG (Below.refl _ _)
      · intro a x hG hd hs K hK
        have h20 : a.tmps.getD 20 undef = .bool false := hd 15 20 (by kernel_rfl)
        clear hd hs
        refine wpOp_plain rfl rfl ?_
        go_simp
        exact hK _ _ rfl hG (Below.refl _ _)
    · intro x hG
      rintro _ rfl _ rfl _ rfl _ rfl _ rfl _ rfl _ rfl _ rfl _ rfl _ rfl _ rfl _ rfl _ rfl _ rfl _ rfl _ rfl _ rfl
      simp only [Act.put, List.setIfInBounds_toArray, List.set_cons_zero, List.set_cons_succ, REnd]
      try simp only [Exit.then]
      go_wp2
      go_ret
      exact ⟨by rw [HD.out]; rfl, hb0.trans (hG.mono hb0.size)⟩
end Go.Proofs.YtmabdbleakolbaaDoor
