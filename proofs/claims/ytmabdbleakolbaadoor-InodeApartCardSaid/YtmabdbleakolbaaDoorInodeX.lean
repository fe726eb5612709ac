/-
  The walks of inode.May, Encode, Node, To, Points. By an AI agent.
-/
import Derived.Test.YtmabdbleakolbaaDoorInodeW
import Derived.Test.YtmabdbleakolbaaDoorMid
namespace Go.Proofs.YtmabdbleakolbaaDoor
open Go.RowKit

/-- An inode in memory. -/
def icells (x : Nd.In) : List Value := .int .i64 x.t :: .int .i64 x.l :: .int .i64 x.v :: .int .i64 x.s :: .int .i64 x.k :: pcells x.ps
def iagg (x : Nd.In) : Value := .agg (icells x).toArray
theorem icells_len (x : Nd.In) (h : x.ps.length = 9) : (icells x).length = 23 := by unfold icells; simp only [List.length_cons, pcells_len, h]
theorem Blk.ptrs {w : World} {g : Nat} {x : Nd.In} (h : Blk w g 27 (icells x)) (hp : x.ps.length = 9) : Ptrs w w.heap.size (.slice (some ⟨g, 5, none⟩) 9 9) x.ps := by
  have := (h.rds 5 9 9 2 (by rw [icells_len x hp]; omega) (Nat.le_refl _) (by simp [maxLen])).more (B' := w.heap.size) h.lt
  unfold Ptrs
  rw [hp]
  have e : ((icells x).drop 5).take (9 * 2) = pcells x.ps := by
    unfold icells
    simp only [List.drop_succ_cons, List.drop_zero]
    rw [List.take_of_length_le (by rw [pcells_len, hp]; omega)]
  rw [e] at this
  exact this
set_option maxHeartbeats 1000000 in
theorem may_any (x : Nd.In) (w : World) (hp : x.ps.length = 9) :
    Calls Tryd.prog 9 #[iagg x] w fun e w' => e = .returned (.bool (Nd.mayB x)) ∧ Below w.heap.size w w' := by
  have HM := Lib.hid (show Nd.mayB x = (Nd.headB x.t x.l x.v x.s x.k && x.ps.all Nd.ptrB) from rfl)
  unfold iagg
  go_enter Tryd.func9, Tryd.ntmps9
  go_upto_region 1 with (fail)
  have hk := Blk.new w 27 (icells x).toArray
  have hb := (Below.refl w.heap.size w).alloc (Nat.le_refl _) (.cells (icells x).toArray 27)
  change Blk _ _ _ (icells x) at hk
  generalize w.alloc (.cells (icells x).toArray 27) = w0 at *
  generalize w.heap.size = gq at hk ⊢
  have hps := hk.ptrs hp
  obtain ⟨t, l, v, s, k, ps⟩ := x
  simp only at HM hps
  have c0 := hk.cell 0
  have c1 := hk.cell 1
  have c2 := hk.cell 2
  have c3 := hk.cell 3
  have c4 := hk.cell 4
  unfold icells at c0 c1 c2 c3 c4
  simp only [List.getElem?_cons_zero, List.getElem?_cons_succ] at c0 c1 c2 c3 c4
  clear hk
  have HH := Lib.hid (show Nd.headB t l v s k = decide ((t = 1 ∨ t = 2) ∧ 0 ≤ l ∧ l ≤ 200 ∧ 0 ≤ v ∧ v ≤ 2147483647 ∧ 0 ≤ s ∧ s ≤ 1099511627776 ∧ 0 ≤ k ∧ k ≤ 2147483647) from rfl)
  by_cases t1 : t = 1 ∨ t = 2
  · rcases t1 with rfl | rfl
    all_goals
      by_cases l1 : l < 0
      · rw [HH.out, decide_eq_false (by omega), Bool.false_and] at HM
        go_wp2
        go_ret
        exact ⟨by rw [HM.out]; rfl, hb⟩
      by_cases l2 : 200 < l
      · rw [HH.out, decide_eq_false (by omega), Bool.false_and] at HM
        go_wp2
        go_ret
        exact ⟨by rw [HM.out]; rfl, hb⟩
      by_cases v1 : v < 0
      · rw [HH.out, decide_eq_false (by omega), Bool.false_and] at HM
        go_wp2
        go_ret
        exact ⟨by rw [HM.out]; rfl, hb⟩
      by_cases v2 : 2147483647 < v
      · rw [HH.out, decide_eq_false (by omega), Bool.false_and] at HM
        go_wp2
        go_ret
        exact ⟨by rw [HM.out]; rfl, hb⟩
      by_cases s1 : s < 0
      · rw [HH.out, decide_eq_false (by omega), Bool.false_and] at HM
        go_wp2
        go_ret
        exact ⟨by rw [HM.out]; rfl, hb⟩
      by_cases s2 : 1099511627776 < s
      · rw [HH.out, decide_eq_false (by omega), Bool.false_and] at HM
        go_wp2
        go_ret
        exact ⟨by rw [HM.out]; rfl, hb⟩
      by_cases k1 : k < 0
      · rw [HH.out, decide_eq_false (by omega), Bool.false_and] at HM
        go_wp2
        go_ret
        exact ⟨by rw [HM.out]; rfl, hb⟩
      by_cases k2 : 2147483647 < k
      · rw [HH.out, decide_eq_false (by omega), Bool.false_and] at HM
        go_wp2
        go_ret
        exact ⟨by rw [HM.out]; rfl, hb⟩
      rw [HH.out, decide_eq_true (by omega), Bool.true_and] at HM
      go_wp2_with fail
      refine (all_any _ _ _ ps hps (Nat.le_refl _)).mono ?_
      rintro e w1 ⟨rfl, hb1⟩
      go_wp2
      go_ret
      exact ⟨by rw [HM.out]; rfl, hb.trans (hb1.mono hb.size)⟩
  · have t2 : (t != 1) = true := by rw [bne_iff_ne]; omega
    have t3 : (t != 2) = true := by rw [bne_iff_ne]; omega
    rw [HH.out, decide_eq_false (by omega), Bool.false_and] at HM
    clear t1
    go_wp2
    go_ret
    exact ⟨by rw [HM.out]; rfl, hb⟩

theorem infoI (x : Nd.In) (hp : x.ps.length = 9) : (Tryd.prog.info? 27).map (·.size) = some (icells x).length := by
  rw [icells_len x hp]; kernel_rfl
theorem ncells_one (l : List (Int × Nat)) : ∀ u ∈ ncells l, u.oneCell' = true := by
  intro u hu
  unfold ncells at hu
  obtain ⟨p, _, hp⟩ := List.mem_flatMap.1 hu
  simp only [List.mem_cons, List.not_mem_nil, or_false] at hp
  rcases hp with rfl | rfl <;> rfl
def hN (i : Nat) (x : Nd.In) : List (Int × Nat) := [(4, 1768845156), (1, i), (1, x.t.toNat), (1, x.l.toNat), (4, x.v.toNat), (6, x.s.toNat), (4, x.k.toNat)]
theorem inN_eq (i : Nat) (x : Nd.In) (hp : x.ps.length = 9) : Nd.inW.zip (Nd.inV i x) = hN i x ++ pN x.ps := by
  unfold Nd.inW Nd.inV pN
  rw [Nd.zip_app _ _ _ _ rfl, hp]
  rfl
set_option maxHeartbeats 400000 in
theorem encode_no (i : Int) (x : Nd.In) (w : World) (hp : x.ps.length = 9) (hn : (Nd.inoB i && Nd.mayB x) = false) :
    Calls Tryd.prog 8 #[.int .i64 i, iagg x] w fun e w' => e = .returned (.tuple #[.slice none 0 0, .int .i64 1]) ∧ Below w.heap.size w w' := by
  unfold iagg
  go_enter Tryd.func8, Tryd.ntmps8
  go_wp2_with fail
  have hk := Blk.new w 27 (icells x).toArray
  have hb := (Below.refl w.heap.size w).alloc (Nat.le_refl _) (.cells (icells x).toArray 27)
  change Blk _ _ _ (icells x) at hk
  generalize w.alloc (.cells (icells x).toArray 27) = w0 at *
  generalize w.heap.size = gq at hk ⊢
  refine (isIno_any i _).mono ?_
  rintro e w' ⟨rfl, rfl⟩
  have hrg := hk.range
  have hin := infoI x hp
  cases hi : Nd.inoB i with
  | false =>
    clear hn
    go_wp2
    go_ret2
    exact ⟨rfl, hb⟩
  | true =>
    rw [hi, Bool.true_and] at hn
    go_wp2_with (refine wpList_load_at 27 (.tmp 3) rfl rfl gq 0 rfl (icells x) _ hrg Tryd.underlying27 rfl hin ?_)
    refine (may_any x _ hp).mono ?_
    rintro e w1 ⟨rfl, hb1⟩
    rw [hn]
    go_wp2
    go_ret2
    exact ⟨rfl, hb.trans (hb1.mono hb.size)⟩

set_option maxRecDepth 100000 in
set_option maxHeartbeats 4000000 in
theorem encode_yes (i : Nat) (iv : Nd.In) (w : World) (hg : Nd.Good iv) (hi : Nd.inoB i = true) (hm : Nd.mayB iv = true) (hH : Halves w) :
    Calls Tryd.prog 8 #[.int .i64 (i : Int), iagg iv] w (Made (Nd.inE i iv) w) := by
  have hp := hg.1
  have HC := Lib.hid (Nd.in_chk i iv hi hm hg)
  have HL := Lib.hid (Nd.inE_len i iv hg)
  rw [inN_eq i iv hp] at HC HL
  have HE := Lib.hid (show Nd.inE i iv = Crc.sealed (Pk.recs (hN i iv ++ pN iv.ps)) by rw [← inN_eq i iv hp]; rfl)
  have hall : iv.ps.all Nd.ptrB = true := by unfold Nd.mayB at hm; rw [Bool.and_eq_true] at hm; exact hm.2
  have hnum : i ≤ 39 ∧ 0 ≤ iv.t ∧ iv.t ≤ 2 ∧ 0 ≤ iv.l ∧ iv.l ≤ 200 ∧ 0 ≤ iv.v ∧ iv.v ≤ 2147483647 ∧ 0 ≤ iv.s ∧ iv.s ≤ 1099511627776 ∧ 0 ≤ iv.k ∧ iv.k ≤ 2147483647 := by
    unfold Nd.mayB Nd.headB at hm
    unfold Nd.inoB at hi
    rw [Bool.and_eq_true, decide_eq_true_iff] at hm
    rw [decide_eq_true_iff] at hi
    omega
  obtain ⟨n0, n1, n2, n3, n4, n5, n6, n7, n8, n9, n10⟩ := hnum
  obtain ⟨tn, ht⟩ := Int.eq_ofNat_of_zero_le n1
  obtain ⟨ln, hl⟩ := Int.eq_ofNat_of_zero_le n3
  obtain ⟨vn, hv⟩ := Int.eq_ofNat_of_zero_le n5
  obtain ⟨sn, hs⟩ := Int.eq_ofNat_of_zero_le n7
  obtain ⟨kn, hkq⟩ := Int.eq_ofNat_of_zero_le n9
  have HNE := Lib.hid (show ncells (hN i iv) = [.int .i64 4, .int .u64 1768845156, .int .i64 1, .int .u64 (i : Int), .int .i64 1, .int .u64 (tn : Int), .int .i64 1, .int .u64 (ln : Int), .int .i64 4, .int .u64 (vn : Int), .int .i64 6, .int .u64 (sn : Int), .int .i64 4, .int .u64 (kn : Int)] by
    unfold ncells hN
    rw [ht, hl, hv, hs, hkq]
    rfl)
  unfold iagg
  go_enter Tryd.func8, Tryd.ntmps8
  go_wp2_with fail
  have hk := Blk.new w 27 (icells iv).toArray
  have hb := (Below.refl w.heap.size w).alloc (Nat.le_refl _) (.cells (icells iv).toArray 27)
  change Blk _ _ _ (icells iv) at hk
  generalize w.alloc (.cells (icells iv).toArray 27) = w0 at *
  generalize w.heap.size = gq at hk ⊢
  refine (isIno_any i _).mono ?_
  rintro e w' ⟨rfl, rfl⟩
  have hrg := hk.range
  have hin := infoI iv hp
  rw [hi]
  go_wp2_with (refine wpList_load_at 27 (.tmp 3) rfl rfl gq 0 rfl (icells iv) _ hrg Tryd.underlying27 rfl hin ?_)
  refine (may_any iv _ hp).mono ?_
  rintro e w1 ⟨rfl, hb1⟩
  rw [hm]
  have hk1 := hk.ext hb1
  have hw1 := hb.trans (hb1.mono hb.size)
  clear hrg hk hb1 hb hi hm
  go_wp2_with fail
  have hG0 : Below w1.heap.size w1 w1.drew := (Below.refl _ _).drew
  refine wp_region_list 20 [(fun y_ _ => y_ = .agg #[.int .i64 4, .int .u64 ((1768845156 : Nat) : Int)]),
    (fun y_ _ => y_ = .int .i64 (i : Int)),
    (fun y_ _ => y_ = .agg #[.int .i64 1, .int .u64 (i : Int)]),
    (fun y_ _ => y_ = .pointer (some ⟨gq, 0, none⟩)),
    (fun y_ _ => y_ = .int .i64 (tn : Int)),
    (fun y_ _ => y_ = .agg #[.int .i64 1, .int .u64 (tn : Int)]),
    (fun y_ _ => y_ = .pointer (some ⟨gq, 1, none⟩)),
    (fun y_ _ => y_ = .int .i64 (ln : Int)),
    (fun y_ _ => y_ = .agg #[.int .i64 1, .int .u64 (ln : Int)]),
    (fun y_ _ => y_ = .pointer (some ⟨gq, 2, none⟩)),
    (fun y_ _ => y_ = .int .i64 (vn : Int)),
    (fun y_ _ => y_ = .agg #[.int .i64 4, .int .u64 (vn : Int)]),
    (fun y_ _ => y_ = .pointer (some ⟨gq, 3, none⟩)),
    (fun y_ _ => y_ = .int .i64 (sn : Int)),
    (fun y_ _ => y_ = .agg #[.int .i64 6, .int .u64 (sn : Int)]),
    (fun y_ _ => y_ = .pointer (some ⟨gq, 4, none⟩)),
    (fun y_ _ => y_ = .int .i64 (kn : Int)),
    (fun y_ _ => y_ = .agg #[.int .i64 4, .int .u64 (kn : Int)]),
    (fun u q => ∃ g, u = .slice (some ⟨g, 0, none⟩) 7 7 ∧ Blk q g 63 (ncells (hN i iv)) ∧ w1.heap.size ≤ g),
    (fun u q => ∃ g, u = .slice (some ⟨g, 0, none⟩) 7 7 ∧ Blk q g 63 (ncells (hN i iv)) ∧ w1.heap.size ≤ g)]
    (fun q => Below w1.heap.size w1 q) (by kernel_rfl) rfl (by kernel_rfl) ?_ ?_ ?_ ?_
  · exact hG0
  · exact ⟨stab_eq _, stab_eq _, stab_eq _, stab_eq _, stab_eq _, stab_eq _, stab_eq _, stab_eq _, stab_eq _, stab_eq _, stab_eq _, stab_eq _, stab_eq _, stab_eq _, stab_eq _, stab_eq _, stab_eq _, stab_eq _, fun _ _ _ ⟨g, h1, h2, h3⟩ hb => ⟨g, h1, h2.ext hb, h3⟩, fun _ _ _ ⟨g, h1, h2, h3⟩ hb => ⟨g, h1, h2.ext hb, h3⟩, trivial⟩
  · refine ⟨?_, ?_, ?_, ?_, ?_, ?_, ?_, ?_, ?_, ?_, ?_, ?_, ?_, ?_, ?_, ?_, ?_, ?_, ?_, ?_, trivial⟩
    · intro a x hG hd hs K hK
      clear hd hs
      refine wpOp_plain rfl rfl ?_
      go_simp
      refine (numN_eq 4 _ 1768845156 (by omega) _ (by omega)).mono ?_
      rintro e w' ⟨rfl, hb⟩
      exact hK _ _ rfl (hG.trans (hb.mono hG.size)) hb
    · intro a x hG hd hs K hK
      have h0 : a.tmps.getD 0 undef = .int .i64 (i : Int) := hs 0 (by kernel_rfl)
      clear hd hs
      refine wpOp_plain rfl rfl ?_
      go_simp
      exact hK _ _ rfl hG (Below.refl _ _)
    · intro a x hG hd hs K hK
      have h16 : a.tmps.getD 16 undef = .int .i64 (i : Int) := hd 1 16 (by kernel_rfl)
      clear hd hs
      refine wpOp_plain rfl rfl ?_
      go_simp
      refine (numN_eq 1 _ i (by omega) _ (by omega)).mono ?_
      rintro e w' ⟨rfl, hb⟩
      exact hK _ _ rfl (hG.trans (hb.mono hG.size)) hb
    · intro a x hG hd hs K hK
      have h3 : a.tmps.getD 3 undef = .pointer (some ⟨gq, 0, none⟩) := hs 3 (by kernel_rfl)
      clear hd hs
      refine wpOp_plain rfl rfl ?_
      go_simp
      exact hK _ _ rfl hG (Below.refl _ _)
    · intro a x hG hd hs K hK
      have h18 : a.tmps.getD 18 undef = .pointer (some ⟨gq, 0, none⟩) := hd 3 18 (by kernel_rfl)
      clear hd hs
      refine wpOp_plain rfl rfl ?_
      have hc : x.cell? ⟨gq, 0, none⟩ = some (.int .i64 (tn : Int)) := by rw [← ht]; exact (hG.cell (p := ⟨gq, 0, none⟩) hk1.lt).trans (hk1.cell 0)
      go_simp
      exact hK _ _ rfl hG (Below.refl _ _)
    · intro a x hG hd hs K hK
      have h19 : a.tmps.getD 19 undef = .int .i64 (tn : Int) := hd 4 19 (by kernel_rfl)
      clear hd hs
      refine wpOp_plain rfl rfl ?_
      go_simp
      refine (numN_eq 1 _ tn (by omega) _ (by omega)).mono ?_
      rintro e w' ⟨rfl, hb⟩
      exact hK _ _ rfl (hG.trans (hb.mono hG.size)) hb
    · intro a x hG hd hs K hK
      have h3 : a.tmps.getD 3 undef = .pointer (some ⟨gq, 0, none⟩) := hs 3 (by kernel_rfl)
      clear hd hs
      refine wpOp_plain rfl rfl ?_
      go_simp
      exact hK _ _ rfl hG (Below.refl _ _)
    · intro a x hG hd hs K hK
      have h21 : a.tmps.getD 21 undef = .pointer (some ⟨gq, 1, none⟩) := hd 6 21 (by kernel_rfl)
      clear hd hs
      refine wpOp_plain rfl rfl ?_
      have hc : x.cell? ⟨gq, 1, none⟩ = some (.int .i64 (ln : Int)) := by rw [← hl]; exact (hG.cell (p := ⟨gq, 1, none⟩) hk1.lt).trans (hk1.cell 1)
      go_simp
      exact hK _ _ rfl hG (Below.refl _ _)
    · intro a x hG hd hs K hK
      have h22 : a.tmps.getD 22 undef = .int .i64 (ln : Int) := hd 7 22 (by kernel_rfl)
      clear hd hs
      refine wpOp_plain rfl rfl ?_
      go_simp
      refine (numN_eq 1 _ ln (by omega) _ (by omega)).mono ?_
      rintro e w' ⟨rfl, hb⟩
      exact hK _ _ rfl (hG.trans (hb.mono hG.size)) hb
    · intro a x hG hd hs K hK
      have h3 : a.tmps.getD 3 undef = .pointer (some ⟨gq, 0, none⟩) := hs 3 (by kernel_rfl)
      clear hd hs
      refine wpOp_plain rfl rfl ?_
      go_simp
      exact hK _ _ rfl hG (Below.refl _ _)
    · intro a x hG hd hs K hK
      have h24 : a.tmps.getD 24 undef = .pointer (some ⟨gq, 2, none⟩) := hd 9 24 (by kernel_rfl)
      clear hd hs
      refine wpOp_plain rfl rfl ?_
      have hc : x.cell? ⟨gq, 2, none⟩ = some (.int .i64 (vn : Int)) := by rw [← hv]; exact (hG.cell (p := ⟨gq, 2, none⟩) hk1.lt).trans (hk1.cell 2)
      go_simp
      exact hK _ _ rfl hG (Below.refl _ _)
    · intro a x hG hd hs K hK
      have h25 : a.tmps.getD 25 undef = .int .i64 (vn : Int) := hd 10 25 (by kernel_rfl)
      clear hd hs
      refine wpOp_plain rfl rfl ?_
      go_simp
      refine (numN_eq 4 _ vn (by omega) _ (by omega)).mono ?_
      rintro e w' ⟨rfl, hb⟩
      exact hK _ _ rfl (hG.trans (hb.mono hG.size)) hb
    · intro a x hG hd hs K hK
      have h3 : a.tmps.getD 3 undef = .pointer (some ⟨gq, 0, none⟩) := hs 3 (by kernel_rfl)
      clear hd hs
      refine wpOp_plain rfl rfl ?_
      go_simp
      exact hK _ _ rfl hG (Below.refl _ _)
    · intro a x hG hd hs K hK
      have h27 : a.tmps.getD 27 undef = .pointer (some ⟨gq, 3, none⟩) := hd 12 27 (by kernel_rfl)
      clear hd hs
      refine wpOp_plain rfl rfl ?_
      have hc : x.cell? ⟨gq, 3, none⟩ = some (.int .i64 (sn : Int)) := by rw [← hs]; exact (hG.cell (p := ⟨gq, 3, none⟩) hk1.lt).trans (hk1.cell 3)
      go_simp
      exact hK _ _ rfl hG (Below.refl _ _)
    · intro a x hG hd hs K hK
      have h28 : a.tmps.getD 28 undef = .int .i64 (sn : Int) := hd 13 28 (by kernel_rfl)
      clear hd hs
      refine wpOp_plain rfl rfl ?_
      go_simp
      refine (numN_eq 6 _ sn (by omega) _ (by omega)).mono ?_
      rintro e w' ⟨rfl, hb⟩
      exact hK _ _ rfl (hG.trans (hb.mono hG.size)) hb
    · intro a x hG hd hs K hK
      have h3 : a.tmps.getD 3 undef = .pointer (some ⟨gq, 0, none⟩) := hs 3 (by kernel_rfl)
      clear hd hs
      refine wpOp_plain rfl rfl ?_
      go_simp
      exact hK _ _ rfl hG (Below.refl _ _)
    · intro a x hG hd hs K hK
      have h30 : a.tmps.getD 30 undef = .pointer (some ⟨gq, 4, none⟩) := hd 15 30 (by kernel_rfl)
      clear hd hs
      refine wpOp_plain rfl rfl ?_
      have hc : x.cell? ⟨gq, 4, none⟩ = some (.int .i64 (kn : Int)) := by rw [← hkq]; exact (hG.cell (p := ⟨gq, 4, none⟩) hk1.lt).trans (hk1.cell 4)
      go_simp
      exact hK _ _ rfl hG (Below.refl _ _)
    · intro a x hG hd hs K hK
      have h31 : a.tmps.getD 31 undef = .int .i64 (kn : Int) := hd 16 31 (by kernel_rfl)
      clear hd hs
      refine wpOp_plain rfl rfl ?_
      go_simp
      refine (numN_eq 4 _ kn (by omega) _ (by omega)).mono ?_
      rintro e w' ⟨rfl, hb⟩
      exact hK _ _ rfl (hG.trans (hb.mono hG.size)) hb
    · intro a x hG hd hs K hK
      have h15 : a.tmps.getD 15 undef = .agg #[.int .i64 4, .int .u64 ((1768845156 : Nat) : Int)] := hd 0 15 (by kernel_rfl)
      have h15o := getD_opt h15
      have h17 : a.tmps.getD 17 undef = .agg #[.int .i64 1, .int .u64 (i : Int)] := hd 2 17 (by kernel_rfl)
      have h17o := getD_opt h17
      have h20 : a.tmps.getD 20 undef = .agg #[.int .i64 1, .int .u64 (tn : Int)] := hd 5 20 (by kernel_rfl)
      have h20o := getD_opt h20
      have h23 : a.tmps.getD 23 undef = .agg #[.int .i64 1, .int .u64 (ln : Int)] := hd 8 23 (by kernel_rfl)
      have h23o := getD_opt h23
      have h26 : a.tmps.getD 26 undef = .agg #[.int .i64 4, .int .u64 (vn : Int)] := hd 11 26 (by kernel_rfl)
      have h26o := getD_opt h26
      have h29 : a.tmps.getD 29 undef = .agg #[.int .i64 6, .int .u64 (sn : Int)] := hd 14 29 (by kernel_rfl)
      have h29o := getD_opt h29
      have h32 : a.tmps.getD 32 undef = .agg #[.int .i64 4, .int .u64 (kn : Int)] := hd 17 32 (by kernel_rfl)
      have h32o := getD_opt h32
      clear hd hs
      refine wpOp_plain rfl rfl ?_
      go_simp
      exact hK _ _ ⟨x.heap.size, rfl, by rw [HNE.out]; exact Blk.new x _ _, hG.size⟩ (hG.alloc hG.size _) ((Below.refl _ _).alloc (Nat.le_refl _) _)
    · intro a x hG hd hs K hK
      have h33 : (fun u q => ∃ g, u = .slice (some ⟨g, 0, none⟩) 7 7 ∧ Blk q g 63 (ncells (hN i iv)) ∧ w1.heap.size ≤ g) (a.tmps.getD 33 undef) x := hd 18 33 (by kernel_rfl)
      clear hd hs
      refine wpOp_plain rfl rfl ?_
      obtain ⟨uu, huu⟩ : ∃ uu, a.tmps.getD 33 undef = uu := ⟨_, rfl⟩
      rw [huu] at h33
      go_simp
      exact hK _ _ h33 hG (Below.refl _ _)
  · intro x hG
    rintro _ rfl _ rfl _ rfl _ rfl _ rfl _ rfl _ rfl _ rfl _ rfl _ rfl _ rfl _ rfl _ rfl _ rfl _ rfl _ rfl _ rfl _ rfl v18 hv18 v19 hv19
    simp only [Act.put, List.setIfInBounds_toArray, List.set_cons_zero, List.set_cons_succ, REnd]
    try simp only [Exit.then]
    obtain ⟨g, rfl, hkn, hgl⟩ := hv19
    have hk2 := hk1.ext hG
    have hps := hk2.ptrs hp
    have hw2 := hw1.trans (hG.mono hw1.size)
    go_wp2_with fail
    refine (numbers_any _ _ _ iv.ps hps (Nat.le_refl _) (by omega) hall hg.2).mono ?_
    rintro e w3 ⟨u, rfl, hown, hb3⟩
    have hkn3 := hkn.ext hb3
    have hw3 := hw2.trans (hb3.mono hw2.size)
    have hr := Nums.of_own hown
    have hpl : (pN iv.ps).length = 18 := by rw [pN_len, hp]
    obtain ⟨A, c, rfl, hc, hcm, _⟩ := hr.open_
    have howl := hkn3.own (base := w.heap.size) (Nat.le_trans hw1.size hgl) 7 7 2 (by rw [HNE.out]; rfl) (Nat.le_refl _) (by simp [maxLen])
    rw [List.take_of_length_le (by rw [HNE.out]; simp)] at howl
    go_wp2_with (at_builtin; refine stop_ ?_)
    obtain ⟨ua, wa, hruna, howna, hgra, _⟩ := run_append_rds (P := Tryd.prog) (ty := 65) Tryd.underlying65 infoNum rfl (by decide) howl hr (ncells_one _) (by rw [maxLen_eq]; omega) (by omega) hw3.size
    have hwa := hw3.grown hgra hw3.size (fun g hg => (howl.lt g hg).1)
    have hna : Nums wa wa.heap.size ua (hN i iv ++ pN iv.ps) := Nums.of_own (base := w.heap.size) (e := 63) (by rw [List.length_append, ncells_app]; exact howna)
    have hll : (hN i iv ++ pN iv.ps).length = 25 := by rw [List.length_append, hpl]; rfl
    rw [hpl] at hruna
    refine wpList_append_run (v := .slice (some ⟨g, 0, none⟩) 7 7) (u := .slice A 18 c) rfl (.tmp 34) (.tmp 37) 65 rfl rfl rfl hruna ?_
    clear howna hgra howl hr hown hkn3 hkn hps hk2 hruna
    go_wp2_with fail
    refine (sealN_any _ _ _ (hH.ext hwa) hna (by omega) HC.out (by rw [HL.out]; omega)).mono ?_
    rintro e w4 ⟨q, rfl, hbs, hb4⟩
    rw [← HE.out] at hbs
    go_wp2
    go_ret2
    exact ⟨_, rfl, hbs, hwa.trans (hb4.mono hwa.size)⟩
end Go.Proofs.YtmabdbleakolbaaDoor
