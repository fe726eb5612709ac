/-
  The reference of chapter 06: May, Same. By an AI agent.
-/
import Derived.Test.YtieajlpkiheebaaDoorSumD
import Derived.Test.YtieajlpkiheebaaDoorCodeR
namespace Go.Proofs.YtieajlpkiheebaaDoor
open Go.RowKit Go.ChangeShapes Go.WideShapes Go.ChangeAt

theorem all_takeS {α : Type} {f : α → Bool} {ps : List α} {k : Nat} (hlt : k < ps.length) (h : (ps.take k).all f = true) (h2 : f ps[k] = true) : (ps.take (k + 1)).all f = true := by
  rw [List.take_succ_eq_append_getElem hlt, List.all_append, h]
  simp [h2]
theorem all_noS {α : Type} {f : α → Bool} {ps : List α} {k : Nat} (hlt : k < ps.length) (h2 : f ps[k] = false) : ps.all f = false := by
  cases h : ps.all f with
  | false => rfl
  | true => rw [List.all_eq_true.1 h _ (List.getElem_mem hlt)] at h2; cases h2

set_option maxRecDepth 100000 in
set_option maxHeartbeats 4000000 in
theorem rmayS_any (s n : Int) (e : Bool) (vl : Value) (l : List Sm.En) (w : World) (hl : Ents w w.heap.size vl l) :
    Calls Tryd.prog 11 #[.agg #[.int .i64 s, .int .i64 n, .bool e, vl]] w fun r w' => r = .returned (.bool (Sm.mayB ⟨s, n, e, l⟩)) ∧ Below w.heap.size w w' := by
  obtain ⟨A, c, rfl, hlc, hcm, hE⟩ := hl.open_
  have HM := Lib.hid (show Sm.mayB ⟨s, n, e, l⟩ = (Sm.hdB s n l.length && l.all Sm.enB) from rfl)
  have HE := Lib.hid hE
  clear hl hE
  go_enter Tryd.func11, Tryd.ntmps11
  go_upto_region 1 with (fail)
  have hk := Blk.new w 24 #[.int .i64 s, .int .i64 n, .bool e, .slice A l.length c]
  have hb := (Below.refl w.heap.size w).alloc (Nat.le_refl _) (.cells #[.int .i64 s, .int .i64 n, .bool e, .slice A l.length c] 24)
  obtain ⟨w0, hw0⟩ : ∃ w0, w.alloc (.cells #[.int .i64 s, .int .i64 n, .bool e, .slice A l.length c] 24) = w0 := ⟨_, rfl⟩
  rw [hw0] at hk hb ⊢
  clear hw0
  obtain ⟨gq, hgq⟩ : ∃ gq, w.heap.size = gq := ⟨_, rfl⟩
  rw [hgq] at hk ⊢
  clear hgq
  go_wp2
  go_loopw [3] (fun i wr => ∃ k : Nat, k ≤ l.length ∧ i = .int .i64 k ∧ (l.take k).all Sm.enB = true ∧ Below w0.heap.size w0 wr) (fun i _ => l.length - (intOf i).toNat)
  case atStart => exact ⟨0, Nat.zero_le _, rfl, by simp, Below.refl _ _⟩
  case round =>
    obtain ⟨k, hk9, rfl, hall, hbr⟩ := hrel
    have hkr := hk.ext hbr
    have hbw := hb.trans (hbr.mono hb.size)
    have c3 := hkr.cell 3
    by_cases hlt : k < l.length
    · obtain ⟨b, off, rfl, hbB, h0, h1, h2, h3⟩ := (HE.out.below hbw) k hlt
      have HY := Lib.hid (fun h => all_takeS hlt hall h)
      have HN := Lib.hid (fun h => all_noS (f := Sm.enB) hlt h)
      have HP := Lib.hid (show Sm.enB l[k] = decide (1 ≤ l[k].k ∧ l[k].k ≤ 4 ∧ 0 ≤ l[k].i ∧ l[k].i ≤ 255 ∧ 0 ≤ l[k].x ∧ l[k].x ≤ 65535) from rfl)
      generalize l[k] = y at *
      obtain ⟨yk, yi, yx, ys⟩ := y
      dsimp only at h0 h1 h2 h3 HP
      clear hall hk
      have hfin : ∀ o, Below w.heap.size w (wr.alloc o) := fun o => hbw.alloc hbw.size o
      have hfin2 : ∀ o, Below w0.heap.size w0 (wr.alloc o) := fun o => hbr.alloc hbr.size o
      have HF := Lib.hid hfin
      have HF2 := Lib.hid hfin2
      clear hfin hfin2
      by_cases hx : 1 ≤ yk ∧ yk ≤ 4 ∧ 0 ≤ yi ∧ yi ≤ 255 ∧ 0 ≤ yx ∧ yx ≤ 65535
      · have H := Lib.hid (HY.out (by rw [HP.out]; exact decide_eq_true hx))
        obtain ⟨x1, x2, x3, x4, x5, x6⟩ := hx
        clear HN HY HP
        go_wp2
        go_roundw
        case rel => exact ⟨k + 1, by omega, by go_num, H.out, HF2.out _⟩
        case measure => simp [intOf]; omega
      · have H := Lib.hid (HN.out (by rw [HP.out]; exact decide_eq_false hx))
        clear HN HY HP
        go_wp2
        all_goals
          go_ret
          exact ⟨by rw [HM.out, H.out, Bool.and_false]; rfl, HF.out _⟩
    · obtain rfl : k = l.length := by omega
      rw [List.take_length] at hall
      rw [hall, Bool.and_true] at HM
      have HH := Lib.hid (show Sm.hdB s n l.length = decide (1 ≤ s ∧ s ≤ 281474976710655 ∧ 0 ≤ n ∧ n ≤ 2147483647 ∧ 1 ≤ l.length ∧ l.length ≤ 13) from rfl)
      have c0 := hkr.cell 0
      have c1 := hkr.cell 1
      clear hall
      by_cases s1 : 1 ≤ s
      rotate_left
      · skip
        rw [HH.out, decide_eq_false (by omega)] at HM
        go_wp2
        go_ret
        exact ⟨by rw [HM.out]; rfl, hbw⟩
      by_cases s2 : s ≤ 281474976710655
      rotate_left
      · skip
        rw [HH.out, decide_eq_false (by omega)] at HM
        go_wp2
        go_ret
        exact ⟨by rw [HM.out]; rfl, hbw⟩
      by_cases s3 : 0 ≤ n
      rotate_left
      · skip
        rw [HH.out, decide_eq_false (by omega)] at HM
        go_wp2
        go_ret
        exact ⟨by rw [HM.out]; rfl, hbw⟩
      by_cases s4 : n ≤ 2147483647
      rotate_left
      · skip
        rw [HH.out, decide_eq_false (by omega)] at HM
        go_wp2
        go_ret
        exact ⟨by rw [HM.out]; rfl, hbw⟩
      by_cases s5 : 1 ≤ l.length
      rotate_left
      · skip
        have s5' : ¬ 1 ≤ (l.length : Int) := by omega
        rw [HH.out, decide_eq_false (by omega)] at HM
        go_wp2
        go_ret
        exact ⟨by rw [HM.out]; rfl, hbw⟩
      have s5' : 1 ≤ (l.length : Int) := by omega
      by_cases s6 : l.length ≤ 13
      rotate_left
      · skip
        have s6' : ¬ (l.length : Int) ≤ 13 := by omega
        rw [HH.out, decide_eq_false (by omega)] at HM
        go_wp2
        go_ret
        exact ⟨by rw [HM.out]; rfl, hbw⟩
      have s6' : (l.length : Int) ≤ 13 := by omega
      rw [HH.out, decide_eq_true (by omega)] at HM
      go_wp2
      go_ret
      exact ⟨by rw [HM.out]; rfl, hbw⟩

/-- The same parts. -/
def sameB (p q : Sm.Pt) : Bool := decide (p = q)
theorem run_neq_ents (y z : Sm.En) (w : World) : (binOp .neq 62 (.agg #[.int .i64 y.k, .int .i64 y.i, .int .i64 y.x, .int .u32 (y.s : Int)]) (.agg #[.int .i64 z.k, .int .i64 z.i, .int .i64 z.x, .int .u32 (z.s : Int)])).run Tryd.prog w = .ok (.bool (!decide (y = z))) w := by
  refine (run_eql_cells 4 (by kernel_rfl) (by decide) (by kernel_rfl) [.int .i64 y.k, .int .i64 y.i, .int .i64 y.x, .int .u32 (y.s : Int)] [.int .i64 z.k, .int .i64 z.i, .int .i64 z.x, .int .u32 (z.s : Int)] (by rw [show Tryd.prog.cellsOf 62 = 4 by kernel_rfl]; rfl) (by rw [show Tryd.prog.cellsOf 62 = 4 by kernel_rfl]; rfl) ?_ w (decide (y = z)) ?_).2
  · intro j a b ha hb
    match j, ha, hb with
    | 0, ha, hb => cases ha; cases hb; exact ⟨_, _, _, rfl, rfl⟩
    | 1, ha, hb => cases ha; cases hb; exact ⟨_, _, _, rfl, rfl⟩
    | 2, ha, hb => cases ha; cases hb; exact ⟨_, _, _, rfl, rfl⟩
    | 3, ha, hb => cases ha; cases hb; exact ⟨_, _, _, rfl, rfl⟩
    | j + 4, ha, _ => simp at ha
  · obtain ⟨a, b, c, d⟩ := y
    obtain ⟨a', b', c', d'⟩ := z
    constructor
    · intro h
      have := of_decide_eq_true h
      rw [Sm.En.mk.injEq] at this
      obtain ⟨rfl, rfl, rfl, rfl⟩ := this
      rfl
    · intro h
      simp at h
      refine decide_eq_true ?_
      rw [Sm.En.mk.injEq]
      omega
theorem take_eqS {α : Type} {l m : List α} {k : Nat} (h1 : k < l.length) (h2 : k < m.length) (h : l.take k = m.take k) (e : l[k] = m[k]) : l.take (k + 1) = m.take (k + 1) := by
  rw [List.take_succ_eq_append_getElem h1, List.take_succ_eq_append_getElem h2, h, e]
set_option maxRecDepth 100000 in
set_option maxHeartbeats 4000000 in
theorem rsameS_any (s n s2 n2 : Int) (e e2 : Bool) (vl vm : Value) (l m : List Sm.En) (w : World) (hl : Ents w w.heap.size vl l) (hm : Ents w w.heap.size vm m) :
    Calls Tryd.prog 15 #[.agg #[.int .i64 s, .int .i64 n, .bool e, vl], .agg #[.int .i64 s2, .int .i64 n2, .bool e2, vm]] w fun r w' => r = .returned (.bool (sameB ⟨s, n, e, l⟩ ⟨s2, n2, e2, m⟩)) ∧ Below w.heap.size w w' := by
  obtain ⟨A, c, rfl, hlc, hcm, hE⟩ := hl.open_
  obtain ⟨A2, c2, rfl, hlc2, hcm2, hE2⟩ := hm.open_
  have HS := Lib.hid (show sameB ⟨s, n, e, l⟩ ⟨s2, n2, e2, m⟩ = decide (s = s2 ∧ n = n2 ∧ e = e2 ∧ l = m) by unfold sameB; simp)
  have HE := Lib.hid hE
  have HE2 := Lib.hid hE2
  clear hl hE hm hE2
  have hk : Blk ((w.alloc (.cells #[.int .i64 s, .int .i64 n, .bool e, .slice A l.length c] 24)).alloc (.cells #[.int .i64 s2, .int .i64 n2, .bool e2, .slice A2 m.length c2] 24)) w.heap.size 24 [.int .i64 s, .int .i64 n, .bool e, .slice A l.length c] := (Blk.new w 24 _).alloc _
  have hk2 := Blk.new (w.alloc (.cells #[.int .i64 s, .int .i64 n, .bool e, .slice A l.length c] 24)) 24 #[.int .i64 s2, .int .i64 n2, .bool e2, .slice A2 m.length c2]
  rw [World.size_alloc] at hk2
  have hb := ((Below.refl w.heap.size w).alloc (Nat.le_refl _) (.cells #[.int .i64 s, .int .i64 n, .bool e, .slice A l.length c] 24)).alloc (by simp) (.cells #[.int .i64 s2, .int .i64 n2, .bool e2, .slice A2 m.length c2] 24)
  go_enter Tryd.func15, Tryd.ntmps15
  go_upto_region 1 with (fail)
  obtain ⟨w0, hw0⟩ : ∃ w0, (w.alloc (.cells #[.int .i64 s, .int .i64 n, .bool e, .slice A l.length c] 24)).alloc (.cells #[.int .i64 s2, .int .i64 n2, .bool e2, .slice A2 m.length c2] 24) = w0 := ⟨_, rfl⟩
  rw [hw0] at hk hk2 hb ⊢
  clear hw0
  obtain ⟨gq, hgq⟩ : ∃ gq, w.heap.size = gq := ⟨_, rfl⟩
  rw [hgq] at hk hk2 ⊢
  clear hgq
  have a0 := hk.cell 0
  have a1 := hk.cell 1
  have a2 := hk.cell 2
  have a3 := hk.cell 3
  have b0 := hk2.cell 0
  have b1 := hk2.cell 1
  have b2 := hk2.cell 2
  have b3 := hk2.cell 3
  by_cases q1 : s = s2
  rotate_left
  · skip
    have h1 : (s != s2) = true := bne_iff_ne.2 q1
    rw [decide_eq_false (fun h => q1 h.1)] at HS
    clear q1
    go_wp2
    go_ret
    exact ⟨by rw [HS.out]; rfl, hb⟩
  have h1 : (s != s2) = false := by rw [bne_eq_false_iff_eq]; exact q1
  by_cases q2 : n = n2
  rotate_left
  · skip
    have h2 : (n != n2) = true := bne_iff_ne.2 q2
    rw [decide_eq_false (fun h => q2 h.2.1)] at HS
    clear q1 q2
    go_wp2
    go_ret
    exact ⟨by rw [HS.out]; rfl, hb⟩
  have h2 : (n != n2) = false := by rw [bne_eq_false_iff_eq]; exact q2
  by_cases q3 : e = e2
  rotate_left
  · skip
    rw [decide_eq_false (fun h => q3 h.2.2.1)] at HS
    clear q1 q2
    cases e <;> cases e2 <;> first | exact absurd rfl q3 | skip
    all_goals
      clear q3
      go_wp2
      go_ret
      exact ⟨by rw [HS.out]; rfl, hb⟩
  subst q3
  by_cases q4 : l.length = m.length
  rotate_left
  · skip
    have h4 : ((l.length : Int) != (m.length : Int)) = true := bne_iff_ne.2 (by omega)
    rw [decide_eq_false (fun h => q4 (by rw [h.2.2.2]))] at HS
    clear q1 q2 q4
    go_wp2
    go_ret
    exact ⟨by rw [HS.out]; rfl, hb⟩
  have h4 : ((l.length : Int) != (m.length : Int)) = false := by rw [bne_eq_false_iff_eq]; omega
  have HS2 := Lib.hid (show sameB ⟨s, n, e, l⟩ ⟨s2, n2, e, m⟩ = decide (l = m) by rw [HS.out]; simp [q1, q2])
  have HQ := Lib.hid q4
  clear HS q1 q2 q4
  go_wp2
  clear h1 h2 h4 a0 a1 a2 b0 b1 b2
  go_loopw [5] (fun i wr => ∃ k : Nat, k ≤ l.length ∧ i = .int .i64 k ∧ Hid (l.take k = m.take k) ∧ Below w0.heap.size w0 wr) (fun i _ => l.length - (intOf i).toNat)
  case atStart => exact ⟨0, Nat.zero_le _, rfl, Lib.hid (by simp), Below.refl _ _⟩
  case round =>
    obtain ⟨k, hk9, rfl, hall, hbr⟩ := hrel
    have hkr := hk.ext hbr
    have hkr2 := hk2.ext hbr
    have hbw := hb.trans (hbr.mono hb.size)
    clear a3 b3
    have a3 := hkr.cell 3
    by_cases hlt : k < l.length
    · have hlt2 : k < m.length := by have := HQ.out; omega
      obtain ⟨b, off, rfl, hbB, h0, h1, h2, h3⟩ := (HE.out.below hbw) k hlt
      obtain ⟨b2, off2, rfl, hbB2, g0, g1, g2, g3⟩ := (HE2.out.below hbw) k hlt2
      have HT := Lib.hid (fun h => take_eqS hlt hlt2 hall.out h)
      have HN := Lib.hid (show l[k] ≠ m[k] → l ≠ m from fun h e => h (by subst e; rfl))
      have hne := run_neq_ents l[k] m[k]
      generalize l[k] = y at *
      generalize m[k] = z at *
      go_upto_region 6 with fail
      have hG0 : Below wr.heap.size wr wr.drew := (Below.refl _ _).drew
      have hbWr : b < wr.heap.size := Nat.lt_of_lt_of_le hbB hbw.size
      have hbWr2 : b2 < wr.heap.size := Nat.lt_of_lt_of_le hbB2 hbw.size
      obtain ⟨bb, hbb⟩ : ∃ bb, decide (y = z) = bb := ⟨_, rfl⟩
      rw [hbb] at hne
      have HBB := Lib.hid hbb
      have HNE := Lib.hid hne
      clear hbb hne a3
      refine wp_region_list 11 [(fun y_ _ => y_ = .pointer (some ⟨gq, 3, none⟩)),
        (fun y_ _ => y_ = .slice (some ⟨b, off, none⟩) l.length c),
        (fun y_ _ => y_ = .int .i64 ((k : Nat) : Int)),
        (fun y_ _ => y_ = .pointer (some ⟨b, off + k * 4, none⟩)),
        (fun y_ _ => y_ = .agg #[.int .i64 y.k, .int .i64 y.i, .int .i64 y.x, .int .u32 (y.s : Int)]),
        (fun y_ _ => y_ = .pointer (some ⟨gq + 1, 3, none⟩)),
        (fun y_ _ => y_ = .slice (some ⟨b2, off2, none⟩) m.length c2),
        (fun y_ _ => y_ = .int .i64 ((k : Nat) : Int)),
        (fun y_ _ => y_ = .pointer (some ⟨b2, off2 + k * 4, none⟩)),
        (fun y_ _ => y_ = .agg #[.int .i64 z.k, .int .i64 z.i, .int .i64 z.x, .int .u32 (z.s : Int)]),
        (fun y_ _ => y_ = .bool (!bb))]
        (fun q => Below wr.heap.size wr q) (by kernel_rfl) rfl (by kernel_rfl) ?_ ?_ ?_ ?_
      · exact hG0
      · exact ⟨stab_eq _, stab_eq _, stab_eq _, stab_eq _, stab_eq _, stab_eq _, stab_eq _, stab_eq _, stab_eq _, stab_eq _, stab_eq _, trivial⟩
      · refine ⟨?_, ?_, ?_, ?_, ?_, ?_, ?_, ?_, ?_, ?_, ?_, trivial⟩
        · intro a x hG hd hs K hK
          have h2 : a.tmps.getD 2 undef = .pointer (some ⟨gq, 0, none⟩) := hs 2 (by kernel_rfl)
          clear hd hs
          refine wpOp_plain rfl rfl ?_
          go_simp
          exact hK _ _ rfl hG (Below.refl _ _)
        · intro a x hG hd hs K hK
          have h41 : a.tmps.getD 41 undef = .pointer (some ⟨gq, 3, none⟩) := hd 0 41 (by kernel_rfl)
          clear hd hs
          refine wpOp_plain rfl rfl ?_
          have hc : x.cell? ⟨gq, 3, none⟩ = some (.slice (some ⟨b, off, none⟩) l.length c) := (hkr.ext hG).cell 3
          go_simp
          exact hK _ _ rfl hG (Below.refl _ _)
        · intro a x hG hd hs K hK
          have h5 : a.tmps.getD 5 undef = .int .i64 ((k : Nat) : Int) := hs 5 (by kernel_rfl)
          clear hd hs
          refine wpOp_plain rfl rfl ?_
          go_simp
          exact hK _ _ rfl hG (Below.refl _ _)
        · intro a x hG hd hs K hK
          have h42 : a.tmps.getD 42 undef = .slice (some ⟨b, off, none⟩) l.length c := hd 1 42 (by kernel_rfl)
          have h43 : a.tmps.getD 43 undef = .int .i64 ((k : Nat) : Int) := hd 2 43 (by kernel_rfl)
          clear hd hs
          refine wpOp_plain rfl rfl ?_
          go_simp
          exact hK _ _ rfl hG (Below.refl _ _)
        · intro a x hG hd hs K hK
          have h44 : a.tmps.getD 44 undef = .pointer (some ⟨b, off + k * 4, none⟩) := hd 3 44 (by kernel_rfl)
          clear hd hs
          refine wpOp_plain rfl rfl ?_
          have e0 := (hG.cell (p := ⟨b, off + k * 4, none⟩) hbWr).trans h0
          have e1 := (hG.cell (p := ⟨b, off + k * 4 + 1, none⟩) hbWr).trans h1
          have e2 := (hG.cell (p := ⟨b, off + k * 4 + 2, none⟩) hbWr).trans h2
          have e3 := (hG.cell (p := ⟨b, off + k * 4 + 3, none⟩) hbWr).trans h3
          go_simp
          exact hK _ _ rfl hG (Below.refl _ _)
        · intro a x hG hd hs K hK
          have h3 : a.tmps.getD 3 undef = .pointer (some ⟨gq + 1, 0, none⟩) := hs 3 (by kernel_rfl)
          clear hd hs
          refine wpOp_plain rfl rfl ?_
          go_simp
          exact hK _ _ rfl hG (Below.refl _ _)
        · intro a x hG hd hs K hK
          have h46 : a.tmps.getD 46 undef = .pointer (some ⟨gq + 1, 3, none⟩) := hd 5 46 (by kernel_rfl)
          clear hd hs
          refine wpOp_plain rfl rfl ?_
          have hc : x.cell? ⟨gq + 1, 3, none⟩ = some (.slice (some ⟨b2, off2, none⟩) m.length c2) := (hkr2.ext hG).cell 3
          go_simp
          exact hK _ _ rfl hG (Below.refl _ _)
        · intro a x hG hd hs K hK
          have h5 : a.tmps.getD 5 undef = .int .i64 ((k : Nat) : Int) := hs 5 (by kernel_rfl)
          clear hd hs
          refine wpOp_plain rfl rfl ?_
          go_simp
          exact hK _ _ rfl hG (Below.refl _ _)
        · intro a x hG hd hs K hK
          have h47 : a.tmps.getD 47 undef = .slice (some ⟨b2, off2, none⟩) m.length c2 := hd 6 47 (by kernel_rfl)
          have h48 : a.tmps.getD 48 undef = .int .i64 ((k : Nat) : Int) := hd 7 48 (by kernel_rfl)
          clear hd hs
          refine wpOp_plain rfl rfl ?_
          go_simp
          exact hK _ _ rfl hG (Below.refl _ _)
        · intro a x hG hd hs K hK
          have h49 : a.tmps.getD 49 undef = .pointer (some ⟨b2, off2 + k * 4, none⟩) := hd 8 49 (by kernel_rfl)
          clear hd hs
          refine wpOp_plain rfl rfl ?_
          have e0 := (hG.cell (p := ⟨b2, off2 + k * 4, none⟩) hbWr2).trans g0
          have e1 := (hG.cell (p := ⟨b2, off2 + k * 4 + 1, none⟩) hbWr2).trans g1
          have e2 := (hG.cell (p := ⟨b2, off2 + k * 4 + 2, none⟩) hbWr2).trans g2
          have e3 := (hG.cell (p := ⟨b2, off2 + k * 4 + 3, none⟩) hbWr2).trans g3
          go_simp
          exact hK _ _ rfl hG (Below.refl _ _)
        · intro a x hG hd hs K hK
          have h45 : a.tmps.getD 45 undef = .agg #[.int .i64 y.k, .int .i64 y.i, .int .i64 y.x, .int .u32 (y.s : Int)] := hd 4 45 (by kernel_rfl)
          have h50 : a.tmps.getD 50 undef = .agg #[.int .i64 z.k, .int .i64 z.i, .int .i64 z.x, .int .u32 (z.s : Int)] := hd 9 50 (by kernel_rfl)
          clear hd hs
          refine wpOp_plain rfl rfl ?_
          refine wp_binop .neq 62 62 (.tmp 45) (.tmp 50) rfl h45 h50 eqGuardE (HNE.out _) ?_
          exact hK _ _ rfl hG (Below.refl _ _)
      · intro x hG
        rintro _ rfl _ rfl _ rfl _ rfl _ rfl _ rfl _ rfl _ rfl _ rfl _ rfl _ rfl
        simp only [Act.put, List.setIfInBounds_toArray, List.set_cons_zero, List.set_cons_succ, REnd]
        try simp only [Exit.then]
        have hb9 := hbr.trans (hG.mono hbr.size)
        have hb8 := hbw.trans (hG.mono hbw.size)
        cases bb with
        | true =>
          have hyz := of_decide_eq_true HBB.out
          have H := Lib.hid (Lib.hid (HT.out hyz))
          clear hyz HBB HT HN
          go_wp2
          go_roundw
          case rel => exact ⟨k + 1, by omega, by go_num, H.out, hb9⟩
          case measure => simp [intOf]; omega
        | false =>
          have hyz := of_decide_eq_false HBB.out
          have H := Lib.hid (HN.out hyz)
          clear hyz HBB HT HN
          go_wp2
          go_ret
          exact ⟨by rw [HS2.out, decide_eq_false H.out]; rfl, hb8⟩
    · obtain rfl : k = l.length := by omega
      have hq : l = m := by
        have := hall.out
        rw [List.take_length, HQ.out, List.take_length] at this
        exact this
      have H := Lib.hid hq
      clear hq hall
      go_wp2
      go_ret
      exact ⟨by rw [HS2.out, decide_eq_true H.out]; rfl, hbw⟩
end Go.Proofs.YtieajlpkiheebaaDoor
