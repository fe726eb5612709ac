/-
  Whole of package summary. By an AI agent.
-/
import Derived.Test.YtieajlpkiheebaaDoorSumS
import Derived.Test.YtieajlpkiheebaaDoorEq
namespace Go.Proofs.YtieajlpkiheebaaDoor
open Go.RowKit

attribute [local go_sem] Oper.semAt_some

/-- An entry's block is whole. -/
def okE (bl : List (List UInt8)) (x : Nat × Sm.En) : Bool := (bl.getD x.1 []).length == 128 && Crc.sum (bl.getD x.1 []) == x.2.s
def allW (bl : List (List UInt8)) (pre : List (Nat × Sm.En)) : Bool := pre.all (okE bl)
theorem allW_snoc (bl : List (List UInt8)) (pre : List (Nat × Sm.En)) (x : Nat × Sm.En) : allW bl (pre ++ [x]) = (allW bl pre && okE bl x) := by
  unfold allW
  rw [List.all_append, List.all_cons, List.all_nil, Bool.and_true]
theorem idx_sub (l : List Sm.En) (k : Nat) (hk : k ≤ l.length) : ∀ x ∈ idx l k, x ∈ idx l l.length := by
  intro x hx
  unfold idx at hx ⊢
  obtain ⟨j, hj, rfl⟩ := List.mem_map.1 hx
  exact List.mem_map.2 ⟨j, List.mem_range.2 (Nat.lt_of_lt_of_le (List.mem_range.1 hj) hk), rfl⟩
def whB (p : Sm.Pt) (bl : List (List UInt8)) : Bool := Sm.mayB p && (bl.length == p.l.length) && allW bl (idx p.l p.l.length)

theorem eqGuardE : Tryd.prog.eqGuardType Tryd.prog.depth 62 = false := by kernel_rfl
theorem run_neq_ent (y : Sm.En) (s : Nat) (w : World) : (binOp .neq 62 (.agg #[.int .i64 y.k, .int .i64 y.i, .int .i64 y.x, .int .u32 (s : Int)]) (.agg #[.int .i64 y.k, .int .i64 y.i, .int .i64 y.x, .int .u32 (y.s : Int)])).run Tryd.prog w = .ok (.bool (!(s == y.s))) w := by
  refine (run_eql_cells 4 (by kernel_rfl) (by decide) (by kernel_rfl) [.int .i64 y.k, .int .i64 y.i, .int .i64 y.x, .int .u32 (s : Int)] [.int .i64 y.k, .int .i64 y.i, .int .i64 y.x, .int .u32 (y.s : Int)] (by rw [show Tryd.prog.cellsOf 62 = 4 by kernel_rfl]; rfl) (by rw [show Tryd.prog.cellsOf 62 = 4 by kernel_rfl]; rfl) ?_ w (s == y.s) ?_).2
  · intro j a b ha hb
    match j, ha, hb with
    | 0, ha, hb => cases ha; cases hb; exact ⟨_, _, _, rfl, rfl⟩
    | 1, ha, hb => cases ha; cases hb; exact ⟨_, _, _, rfl, rfl⟩
    | 2, ha, hb => cases ha; cases hb; exact ⟨_, _, _, rfl, rfl⟩
    | 3, ha, hb => cases ha; cases hb; exact ⟨_, _, _, rfl, rfl⟩
    | j + 4, ha, _ => simp at ha
  · constructor
    · intro h; rw [beq_iff_eq.1 h]
    · intro h; simp at h; exact beq_iff_eq.2 (by omega)

set_option maxRecDepth 100000 in
set_option maxHeartbeats 4000000 in
theorem whole_in (s n : Int) (e : Bool) (vl vb : Value) (l : List Sm.En) (bl : List (List UInt8)) (w : World) (hl : Ents w w.heap.size vl l) (hb : Bss w w.heap.size vb bl) (hH : Halves w) :
    CallsIn Fence.wide 9 Tryd.prog 18 #[.agg #[.int .i64 s, .int .i64 n, .bool e, vl], vb] w fun r w' => r = .returned (.bool (whB ⟨s, n, e, l⟩ bl)) ∧ Below w.heap.size w w' := by
  obtain ⟨A, c, rfl, hlc, hcm, _⟩ := hl.open_
  obtain ⟨Ab, cb, rfl, hbc, hbm, _⟩ := hb.open_
  have HW := Lib.hid (show whB ⟨s, n, e, l⟩ bl = (Sm.mayB ⟨s, n, e, l⟩ && (bl.length == l.length) && allW bl (idx l l.length)) from rfl)
  refine callsIn_of_wp_marks Tryd.func18 rfl trivial ?_ rfl
  simp only [Tryd.ntmps18, List.size_toArray, List.length_cons, List.length_nil, Nat.reduceAdd, Nat.reduceSub, Array.replicate_succ, Array.replicate_zero, List.push_toArray, List.append_toArray, List.nil_append, List.cons_append]
  have k2 := ((Blk.new w 24 #[.int .i64 s, .int .i64 n, .bool e, .slice A l.length c]).alloc (.cells #[.slice Ab bl.length cb] 39)).alloc (.cells #[.bool false] 4)
  have k3 := (Blk.new (w.alloc (.cells #[.int .i64 s, .int .i64 n, .bool e, .slice A l.length c] 24)) 39 #[.slice Ab bl.length cb]).alloc (.cells #[.bool false] 4)
  have k4 := Blk.new ((w.alloc (.cells #[.int .i64 s, .int .i64 n, .bool e, .slice A l.length c] 24)).alloc (.cells #[.slice Ab bl.length cb] 39)) 4 #[.bool false]
  have hb0 := (((Below.refl w.heap.size w).alloc (Nat.le_refl _) (.cells #[.int .i64 s, .int .i64 n, .bool e, .slice A l.length c] 24)).alloc (by simp) (.cells #[.slice Ab bl.length cb] 39)).alloc (by simp; omega) (.cells #[.bool false] 4)
  simp only [World.size_alloc] at k3 k4
  gi_upto_region 1 with fail
  obtain ⟨w0, hw0⟩ : ∃ w0, ((w.alloc (.cells #[.int .i64 s, .int .i64 n, .bool e, .slice A l.length c] 24)).alloc (.cells #[.slice Ab bl.length cb] 39)).alloc (.cells #[.bool false] 4) = w0 := ⟨_, rfl⟩
  rw [hw0] at k2 k3 k4 hb0 ⊢
  clear hw0
  have hl0 : Ents w0 w0.heap.size (.slice A l.length c) l := (hl.below hb0).more hb0.size
  have c0 := k2.cell 0
  have c1 := k2.cell 1
  have c2 := k2.cell 2
  have c3 := k2.cell 3
  gi_wp2_with fail
  refine ⟨trivial, ?_⟩
  refine (callsIn_wide.2 (mayS_any s n e _ l w0 hl0)).mono ?_
  rintro e9 w1 ⟨rfl, hb1⟩
  replace k2 := k2.ext hb1
  replace k3 := k3.ext hb1
  replace k4 := k4.ext hb1
  have hw1 := hb0.trans (hb1.mono hb0.size)
  clear c0 c1 c2 c3 hl0 hb1 hb0
  have c3 := k2.cell 3
  have cb3 := k3.cell 0
  have c4 := k4.cell 0
  have f4 := k4.frozen 0
  have k5 := k4.set_ 0 (.bool false)
  have c5 := k5.cell 0
  have hw5 := hw1.setCell (p := ⟨w.heap.size + 1 + 1, 0, none⟩) (by simp; omega) (.bool false)
  cases hm : Sm.mayB ⟨s, n, e, l⟩ with
  | false =>
    rw [hm, Bool.false_and, Bool.false_and] at HW
    gi_wp2
    exact ⟨.bool false, by simp [results, Tryd.results18, go_sem, c5], by rw [HW.out], hw5⟩
  | true =>
    rw [hm, Bool.true_and] at HW
    by_cases hlen : bl.length = l.length
    · have hbw := hb.ext (Nat.le_refl _) hw1
      clear k5 c5 hw5
      rw [show (bl.length == l.length) = true from beq_iff_eq.2 hlen, Bool.true_and] at HW
      have hlz : ((bl.length : Int) != (l.length : Int)) = false := by rw [hlen]; simp
      have HLEN := Lib.hid hlen
      clear hlen
      gi_wp2_with (refine ⟨trivial, ?_⟩; gi_at_call 23; refine (callsIn_wide.2 (entries_any _ _ _ _)).mono ?_; rintro e w' ⟨rfl, rfl⟩)
      have k6 := Blk.new w1 22 #[.slice A l.length c]
      replace k3 := k3.alloc (.cells #[.slice A l.length c] 22)
      replace k4 := k4.alloc (.cells #[.slice A l.length c] 22)
      replace hw1 := hw1.alloc hw1.size (.cells #[.slice A l.length c] 22)
      have hsz : w1.heap.size < (w1.alloc (.cells #[.slice A l.length c] 22)).heap.size := by simp
      obtain ⟨W0, hW0⟩ : ∃ W0, w1.alloc (.cells #[.slice A l.length c] 22) = W0 := ⟨_, rfl⟩
      rw [hW0] at k3 k4 k6 hw1 hsz ⊢
      clear hW0 k2 c3 cb3 c4 f4 hbw
      generalize w1.heap.size = g6 at *
      clear w1
      have hg4 := k4.lt
      generalize hT : Act.mk _ _ = a0
      refine wpIn_rangeFunc_ownH rfl (by decide) (gf := 35) (lb := #[.pointer (some ⟨g6, 0, none⟩)]) (by subst hT; rfl) trivial (enters_of Tryd.func35 (by kernel_rfl) rfl)
        (entries_stops 8 (by decide) g6 w.heap.size _ l W0 hsz hw1.size (k6.cell 0) (hl.below hw1)) belowK_t (belowK_b hw1.size) (Below.refl _ _) (fun _ => rfl)
        (fun pre W => ((Blk W (w.heap.size + 1 + 1) 4 [.bool false] ∧ Blk W (w.heap.size + 1) 39 [.slice Ab bl.length cb]) ∧ allW bl (pre.map (·.1)) = true) ∧ Below w.heap.size w W)
        (fun c pre W => ((c = .ret ∧ allW bl (pre.map (·.1)) = false) ∧ Blk W (w.heap.size + 1 + 1) 4 [.bool false]) ∧ Below w.heap.size w W)
        (OwnFrom.and (OwnFrom.and (OwnFrom.and (ownFrom_blk _ _ _ _) (ownFrom_blk _ _ _ _)) (ownFrom_pure _ _)) (ownFrom_below (Nat.le_refl _) hw1.size))
        (fun c => OwnFrom.and (OwnFrom.and (ownFrom_pure _ _) (ownFrom_blk _ _ _ _)) (ownFrom_below (Nat.le_refl _) hw1.size))
        ⟨⟨⟨k4, k3⟩, rfl⟩, hw1⟩
        (fun x a' W => ∃ B, w.heap.size + 1 + 1 < B ∧ Blk W B 62 [.int .i64 x.1.2.k, .int .i64 x.1.2.i, .int .i64 x.1.2.x, .int .u32 (x.1.2.s : Int)] ∧
          a' = { tmps := (((a0.tmps.setIfInBounds 22 (.int .i64 (x.1.1 : Int))).setIfInBounds 23 (.agg #[.int .i64 x.1.2.k, .int .i64 x.1.2.i, .int .i64 x.1.2.x, .int .u32 (x.1.2.s : Int)])).setIfInBounds 5 (.int .i64 (x.1.1 : Int))).setIfInBounds 6 (.pointer (some ⟨B, 0, none⟩)), defers := [] })
        (fun x a' => by
          intro _ A1 A2 row hs hg hr
          obtain ⟨B, hB, hk, ha⟩ := hs
          exact ⟨B, hB, ownFrom_blk W0.heap.size B _ (fun (_ : Unit) => _) () A1 A2 row hk hg hr, ha⟩)
        ?assign ?body ?done ?stop
      case assign =>
        rintro l9 pre ⟨x, hx9⟩ W K ⟨⟨⟨k21, k22⟩, hpre⟩, hB1⟩ hK
        subst hT
        unfold encE at *
        dsimp only at *
        gi_wp2
        exact hK _ _ ((KeepsOthers.alloc _ _).from _) ((Below.refl _ W).alloc hB1.size _) ⟨⟨⟨k21.alloc _, k22.alloc _⟩, hpre⟩, hB1.alloc hB1.size _⟩ ⟨W.heap.size, k21.lt, Blk.new W _ _, rfl⟩
      case body =>
        rintro l9 pre ⟨⟨ix, y⟩, hx9⟩ a' W hl9 ⟨r9, hr9⟩ ⟨⟨⟨k21, k22⟩, hpre⟩, hB1⟩ ⟨Bx, hBx, bX, rfl⟩ hlt
        subst hT
        dsimp only at bX
        simp only [List.setIfInBounds_toArray, List.set_cons_succ, List.set_cons_zero]
        have hix : ix < bl.length := by
          have := (List.getElem?_eq_some_iff.1 hx9).1
          dsimp only at this
          have := HLEN.out
          omega
        have hpx : allW bl ((pre ++ [(⟨(ix, y), hx9⟩ : EntOf l)]).map (·.1)) = (allW bl (pre.map (·.1)) && okE bl (ix, y)) := by rw [List.map_append]; exact allW_snoc _ _ _
        generalize pre ++ [(⟨(ix, y), hx9⟩ : EntOf l)] = px at *
        clear hx9 hl9 hr9
        have hbb := hb.ext (Nat.le_refl _) hB1
        obtain ⟨A2, c2, hA2, _, _, hcell⟩ := hbb.open_
        obtain ⟨b, off, u, hAe, hbl, hcu, hbs⟩ := hcell ix hix
        have hgd : bl.getD ix [] = bl[ix] := by rw [List.getD_eq_getElem?_getD, List.getElem?_eq_getElem hix]; rfl
        have HO := Lib.hid (show okE bl (ix, y) = (bl[ix].length == 128 && Crc.sum bl[ix] == y.s) by unfold okE; rw [hgd])
        injection hA2 with e1 e2 e3
        subst e1 e3
        clear hcell e2
        generalize bl[ix] = bi at *
        obtain ⟨Au, cu, rfl, _, _, _⟩ := hbs.open_
        have hbs2 := hbs.more hB1.size
        have c22 := k22.cell 0
        have c21 := k21.cell 0
        have f21 := k21.frozen 0
        subst hAe
        clear hgd hbs hbb
        gi_upto_region 7 with fail
        by_cases h128 : bi.length = 128
        · cases hbe : (Crc.sum bi == y.s) with
          | true =>
            have hok : (bi.length == 128 && Crc.sum bi == y.s) = true := by rw [hbe, h128]; rfl
            have H128 := Lib.hid h128
            clear h128
            have hG0 : Below W.heap.size W W.drew := (Below.refl _ _).drew
            refine wpIn_region_list (by rintro ⟨_, _, h⟩; exact h) (by kernel_rfl) 10 [(fun y_ _ => y_ = .slice Au bi.length cu),
              (fun y_ _ => y_ = .int .i64 ((bi.length : Nat) : Int)),
              (fun y_ _ => y_ = .bool false),
              (fun y_ _ => y_ = .bool false),
              (fun y_ _ => y_ = .agg #[.int .i64 y.k, .int .i64 y.i, .int .i64 y.x, .int .u32 (y.s : Int)]),
              (fun y_ _ => y_ = .slice Au bi.length cu),
              (fun y_ _ => y_ = .agg #[.int .i64 y.k, .int .i64 y.i, .int .i64 y.x, .int .u32 (Crc.sum bi : Int)]),
              (fun y_ _ => y_ = .agg #[.int .i64 y.k, .int .i64 y.i, .int .i64 y.x, .int .u32 (y.s : Int)]),
              (fun y_ _ => y_ = .bool false),
              (fun y_ _ => y_ = .bool false)]
              (fun q => Below W.heap.size W q) (by kernel_rfl) rfl (by kernel_rfl) ?_ ?_ ?_ ?_
            · exact hG0
            · exact ⟨stab_eq _, stab_eq _, stab_eq _, stab_eq _, stab_eq _, stab_eq _, stab_eq _, stab_eq _, stab_eq _, stab_eq _, trivial⟩
            · refine ⟨?_, ?_, ?_, ?_, ?_, ?_, ?_, ?_, ?_, ?_, trivial⟩
              · intro a x hG hd hs K hK
                have h7 : a.tmps.getD 7 undef = .slice Au bi.length cu := hs 7 (by kernel_rfl)
                clear hd hs
                refine wpOp_plain rfl rfl ?_
                go_simp
                exact hK _ _ rfl hG (Below.refl _ _)
              · intro a x hG hd hs K hK
                have h28 : a.tmps.getD 28 undef = .slice Au bi.length cu := hd 0 28 (by kernel_rfl)
                clear hd hs
                refine wpOp_plain rfl rfl ?_
                go_simp
                exact hK _ _ rfl hG (Below.refl _ _)
              · intro a x hG hd hs K hK
                have h29 : a.tmps.getD 29 undef = .int .i64 ((bi.length : Nat) : Int) := hd 1 29 (by kernel_rfl)
                clear hd hs
                refine wpOp_plain rfl rfl ?_
                have hz : (bi.length : Int) = 128 := by have := H128.out; omega
                go_simp
                exact hK _ _ rfl hG (Below.refl _ _)
              · intro a x hG hd hs K hK
                have h30 : a.tmps.getD 30 undef = .bool false := hd 2 30 (by kernel_rfl)
                clear hd hs
                refine wpOp_plain rfl rfl ?_
                go_simp
                exact hK _ _ rfl hG (Below.refl _ _)
              · intro a x hG hd hs K hK
                have h6 : a.tmps.getD 6 undef = .pointer (some ⟨Bx, 0, none⟩) := hs 6 (by kernel_rfl)
                have h31 : a.tmps.getD 31 undef = .bool false := hd 3 31 (by kernel_rfl)
                clear hd hs
                refine wpOp_yes rfl rfl rfl h31 ?_
                refine wp_load_mid 62 (.tmp 6) rfl Bx 0 h6 [.int .i64 y.k, .int .i64 y.i, .int .i64 y.x, .int .u32 (y.s : Int)] _ (Blk.ext bX hG).range Tryd.underlying62 rfl (by kernel_rfl) ?_
                exact hK _ _ rfl hG (Below.refl _ _)
              · intro a x hG hd hs K hK
                have h7 : a.tmps.getD 7 undef = .slice Au bi.length cu := hs 7 (by kernel_rfl)
                have h31 : a.tmps.getD 31 undef = .bool false := hd 3 31 (by kernel_rfl)
                clear hd hs
                refine wpOp_yes rfl rfl rfl h31 ?_
                go_simp
                exact hK _ _ rfl hG (Below.refl _ _)
              · intro a x hG hd hs K hK
                have h32 : a.tmps.getD 32 undef = .agg #[.int .i64 y.k, .int .i64 y.i, .int .i64 y.x, .int .u32 (y.s : Int)] := hd 4 32 (by kernel_rfl)
                have h33 : a.tmps.getD 33 undef = .slice Au bi.length cu := hd 5 33 (by kernel_rfl)
                have h31 : a.tmps.getD 31 undef = .bool false := hd 3 31 (by kernel_rfl)
                clear hd hs
                refine wpOp_yes rfl rfl rfl h31 ?_
                go_simp
                refine (summed_any y _ bi _ ((hbs2.ext (Nat.le_refl _) hG).more hG.size) (hH.ext (hB1.trans (hG.mono hB1.size)))).mono ?_
                rintro e w' ⟨rfl, hb⟩
                exact hK _ _ rfl (hG.trans (hb.mono hG.size)) hb
              · intro a x hG hd hs K hK
                have h6 : a.tmps.getD 6 undef = .pointer (some ⟨Bx, 0, none⟩) := hs 6 (by kernel_rfl)
                have h31 : a.tmps.getD 31 undef = .bool false := hd 3 31 (by kernel_rfl)
                clear hd hs
                refine wpOp_yes rfl rfl rfl h31 ?_
                refine wp_load_mid 62 (.tmp 6) rfl Bx 0 h6 [.int .i64 y.k, .int .i64 y.i, .int .i64 y.x, .int .u32 (y.s : Int)] _ (Blk.ext bX hG).range Tryd.underlying62 rfl (by kernel_rfl) ?_
                exact hK _ _ rfl hG (Below.refl _ _)
              · intro a x hG hd hs K hK
                have h34 : a.tmps.getD 34 undef = .agg #[.int .i64 y.k, .int .i64 y.i, .int .i64 y.x, .int .u32 (Crc.sum bi : Int)] := hd 6 34 (by kernel_rfl)
                have h35 : a.tmps.getD 35 undef = .agg #[.int .i64 y.k, .int .i64 y.i, .int .i64 y.x, .int .u32 (y.s : Int)] := hd 7 35 (by kernel_rfl)
                have h31 : a.tmps.getD 31 undef = .bool false := hd 3 31 (by kernel_rfl)
                clear hd hs
                refine wpOp_yes rfl rfl rfl h31 ?_
                have hne := run_neq_ent y (Crc.sum bi) x
                rw [hbe] at hne
                refine wp_binop .neq 62 62 (.tmp 34) (.tmp 35) rfl h34 h35 eqGuardE hne ?_
                exact hK _ _ rfl hG (Below.refl _ _)
              · intro a x hG hd hs K hK
                have h31 : a.tmps.getD 31 undef = .bool false := hd 3 31 (by kernel_rfl)
                have h36 : a.tmps.getD 36 undef = .bool false := hd 8 36 (by kernel_rfl)
                clear hd hs
                refine wpOp_plain rfl rfl ?_
                go_simp
                exact hK _ _ rfl hG (Below.refl _ _)
            · intro x hG
              rintro _ rfl _ rfl _ rfl _ rfl _ rfl _ rfl _ rfl _ rfl _ rfl _ rfl
              simp only [Act.put, List.setIfInBounds_toArray, List.set_cons_zero, List.set_cons_succ, REnd]
              try simp only [Exit.then]
              gi_wp2
              exact ⟨(KeepsOthers.of_grownBy (grown_of_below hG none) (fun j o e => by cases e)).from _, hG.mono hB1.size, ⟨⟨k21.ext hG, k22.ext hG⟩, by rw [hpx, HO.out, hok, hpre]; rfl⟩, hB1.trans (hG.mono hB1.size)⟩
          | false =>
            have hok : (bi.length == 128 && Crc.sum bi == y.s) = false := by rw [hbe, Bool.and_false]
            have H128 := Lib.hid h128
            clear h128
            have hG0 : Below W.heap.size W W.drew := (Below.refl _ _).drew
            refine wpIn_region_list (by rintro ⟨_, _, h⟩; exact h) (by kernel_rfl) 10 [(fun y_ _ => y_ = .slice Au bi.length cu),
              (fun y_ _ => y_ = .int .i64 ((bi.length : Nat) : Int)),
              (fun y_ _ => y_ = .bool false),
              (fun y_ _ => y_ = .bool false),
              (fun y_ _ => y_ = .agg #[.int .i64 y.k, .int .i64 y.i, .int .i64 y.x, .int .u32 (y.s : Int)]),
              (fun y_ _ => y_ = .slice Au bi.length cu),
              (fun y_ _ => y_ = .agg #[.int .i64 y.k, .int .i64 y.i, .int .i64 y.x, .int .u32 (Crc.sum bi : Int)]),
              (fun y_ _ => y_ = .agg #[.int .i64 y.k, .int .i64 y.i, .int .i64 y.x, .int .u32 (y.s : Int)]),
              (fun y_ _ => y_ = .bool true),
              (fun y_ _ => y_ = .bool true)]
              (fun q => Below W.heap.size W q) (by kernel_rfl) rfl (by kernel_rfl) ?_ ?_ ?_ ?_
            · exact hG0
            · exact ⟨stab_eq _, stab_eq _, stab_eq _, stab_eq _, stab_eq _, stab_eq _, stab_eq _, stab_eq _, stab_eq _, stab_eq _, trivial⟩
            · refine ⟨?_, ?_, ?_, ?_, ?_, ?_, ?_, ?_, ?_, ?_, trivial⟩
              · intro a x hG hd hs K hK
                have h7 : a.tmps.getD 7 undef = .slice Au bi.length cu := hs 7 (by kernel_rfl)
                clear hd hs
                refine wpOp_plain rfl rfl ?_
                go_simp
                exact hK _ _ rfl hG (Below.refl _ _)
              · intro a x hG hd hs K hK
                have h28 : a.tmps.getD 28 undef = .slice Au bi.length cu := hd 0 28 (by kernel_rfl)
                clear hd hs
                refine wpOp_plain rfl rfl ?_
                go_simp
                exact hK _ _ rfl hG (Below.refl _ _)
              · intro a x hG hd hs K hK
                have h29 : a.tmps.getD 29 undef = .int .i64 ((bi.length : Nat) : Int) := hd 1 29 (by kernel_rfl)
                clear hd hs
                refine wpOp_plain rfl rfl ?_
                have hz : (bi.length : Int) = 128 := by have := H128.out; omega
                go_simp
                exact hK _ _ rfl hG (Below.refl _ _)
              · intro a x hG hd hs K hK
                have h30 : a.tmps.getD 30 undef = .bool false := hd 2 30 (by kernel_rfl)
                clear hd hs
                refine wpOp_plain rfl rfl ?_
                go_simp
                exact hK _ _ rfl hG (Below.refl _ _)
              · intro a x hG hd hs K hK
                have h6 : a.tmps.getD 6 undef = .pointer (some ⟨Bx, 0, none⟩) := hs 6 (by kernel_rfl)
                have h31 : a.tmps.getD 31 undef = .bool false := hd 3 31 (by kernel_rfl)
                clear hd hs
                refine wpOp_yes rfl rfl rfl h31 ?_
                refine wp_load_mid 62 (.tmp 6) rfl Bx 0 h6 [.int .i64 y.k, .int .i64 y.i, .int .i64 y.x, .int .u32 (y.s : Int)] _ (Blk.ext bX hG).range Tryd.underlying62 rfl (by kernel_rfl) ?_
                exact hK _ _ rfl hG (Below.refl _ _)
              · intro a x hG hd hs K hK
                have h7 : a.tmps.getD 7 undef = .slice Au bi.length cu := hs 7 (by kernel_rfl)
                have h31 : a.tmps.getD 31 undef = .bool false := hd 3 31 (by kernel_rfl)
                clear hd hs
                refine wpOp_yes rfl rfl rfl h31 ?_
                go_simp
                exact hK _ _ rfl hG (Below.refl _ _)
              · intro a x hG hd hs K hK
                have h32 : a.tmps.getD 32 undef = .agg #[.int .i64 y.k, .int .i64 y.i, .int .i64 y.x, .int .u32 (y.s : Int)] := hd 4 32 (by kernel_rfl)
                have h33 : a.tmps.getD 33 undef = .slice Au bi.length cu := hd 5 33 (by kernel_rfl)
                have h31 : a.tmps.getD 31 undef = .bool false := hd 3 31 (by kernel_rfl)
                clear hd hs
                refine wpOp_yes rfl rfl rfl h31 ?_
                go_simp
                refine (summed_any y _ bi _ ((hbs2.ext (Nat.le_refl _) hG).more hG.size) (hH.ext (hB1.trans (hG.mono hB1.size)))).mono ?_
                rintro e w' ⟨rfl, hb⟩
                exact hK _ _ rfl (hG.trans (hb.mono hG.size)) hb
              · intro a x hG hd hs K hK
                have h6 : a.tmps.getD 6 undef = .pointer (some ⟨Bx, 0, none⟩) := hs 6 (by kernel_rfl)
                have h31 : a.tmps.getD 31 undef = .bool false := hd 3 31 (by kernel_rfl)
                clear hd hs
                refine wpOp_yes rfl rfl rfl h31 ?_
                refine wp_load_mid 62 (.tmp 6) rfl Bx 0 h6 [.int .i64 y.k, .int .i64 y.i, .int .i64 y.x, .int .u32 (y.s : Int)] _ (Blk.ext bX hG).range Tryd.underlying62 rfl (by kernel_rfl) ?_
                exact hK _ _ rfl hG (Below.refl _ _)
              · intro a x hG hd hs K hK
                have h34 : a.tmps.getD 34 undef = .agg #[.int .i64 y.k, .int .i64 y.i, .int .i64 y.x, .int .u32 (Crc.sum bi : Int)] := hd 6 34 (by kernel_rfl)
                have h35 : a.tmps.getD 35 undef = .agg #[.int .i64 y.k, .int .i64 y.i, .int .i64 y.x, .int .u32 (y.s : Int)] := hd 7 35 (by kernel_rfl)
                have h31 : a.tmps.getD 31 undef = .bool false := hd 3 31 (by kernel_rfl)
                clear hd hs
                refine wpOp_yes rfl rfl rfl h31 ?_
                have hne := run_neq_ent y (Crc.sum bi) x
                rw [hbe] at hne
                refine wp_binop .neq 62 62 (.tmp 34) (.tmp 35) rfl h34 h35 eqGuardE hne ?_
                exact hK _ _ rfl hG (Below.refl _ _)
              · intro a x hG hd hs K hK
                have h31 : a.tmps.getD 31 undef = .bool false := hd 3 31 (by kernel_rfl)
                have h36 : a.tmps.getD 36 undef = .bool true := hd 8 36 (by kernel_rfl)
                clear hd hs
                refine wpOp_plain rfl rfl ?_
                go_simp
                exact hK _ _ rfl hG (Below.refl _ _)
            · intro x hG
              rintro _ rfl _ rfl _ rfl _ rfl _ rfl _ rfl _ rfl _ rfl _ rfl _ rfl
              simp only [Act.put, List.setIfInBounds_toArray, List.set_cons_zero, List.set_cons_succ, REnd]
              try simp only [Exit.then]
              have k2x := k21.ext hG
              have cx := k2x.cell 0
              have fx := k2x.frozen 0
              gi_wp2
              exact ⟨((KeepsOthers.of_grownBy (grown_of_below hG none) (fun j o e => by cases e)).trans (KeepsOthers.setCell _ _ _)).from _, ⟨⟨rfl, by rw [hpx, HO.out, hok, Bool.and_false]⟩, k2x.set_ 0 _⟩, (hB1.trans (hG.mono hB1.size)).setCell (p := ⟨w.heap.size + 1 + 1, 0, none⟩) (by simp; omega) _⟩
        · have hok : (bi.length == 128 && Crc.sum bi == y.s) = false := by rw [beq_eq_false_iff_ne.2 h128, Bool.false_and]
          have hG0 : Below W.heap.size W W.drew := (Below.refl _ _).drew
          refine wpIn_region_list (by rintro ⟨_, _, h⟩; exact h) (by kernel_rfl) 10 [(fun y_ _ => y_ = .slice Au bi.length cu),
            (fun y_ _ => y_ = .int .i64 ((bi.length : Nat) : Int)),
            (fun y_ _ => y_ = .bool true),
            (fun y_ _ => y_ = .bool true),
            (fun y_ _ => y_ = undef),
            (fun y_ _ => y_ = undef),
            (fun y_ _ => y_ = undef),
            (fun y_ _ => y_ = undef),
            (fun y_ _ => y_ = undef),
            (fun y_ _ => y_ = .bool true)]
            (fun q => Below W.heap.size W q) (by kernel_rfl) rfl (by kernel_rfl) ?_ ?_ ?_ ?_
          · exact hG0
          · exact ⟨stab_eq _, stab_eq _, stab_eq _, stab_eq _, stab_eq _, stab_eq _, stab_eq _, stab_eq _, stab_eq _, stab_eq _, trivial⟩
          · refine ⟨?_, ?_, ?_, ?_, ?_, ?_, ?_, ?_, ?_, ?_, trivial⟩
            · intro a x hG hd hs K hK
              have h7 : a.tmps.getD 7 undef = .slice Au bi.length cu := hs 7 (by kernel_rfl)
              clear hd hs
              refine wpOp_plain rfl rfl ?_
              go_simp
              exact hK _ _ rfl hG (Below.refl _ _)
            · intro a x hG hd hs K hK
              have h28 : a.tmps.getD 28 undef = .slice Au bi.length cu := hd 0 28 (by kernel_rfl)
              clear hd hs
              refine wpOp_plain rfl rfl ?_
              go_simp
              exact hK _ _ rfl hG (Below.refl _ _)
            · intro a x hG hd hs K hK
              have h29 : a.tmps.getD 29 undef = .int .i64 ((bi.length : Nat) : Int) := hd 1 29 (by kernel_rfl)
              clear hd hs
              refine wpOp_plain rfl rfl ?_
              have hz : ((bi.length : Int) != 128) = true := bne_iff_ne.2 (by omega)
              go_simp
              exact hK _ _ rfl hG (Below.refl _ _)
            · intro a x hG hd hs K hK
              have h30 : a.tmps.getD 30 undef = .bool true := hd 2 30 (by kernel_rfl)
              clear hd hs
              refine wpOp_plain rfl rfl ?_
              go_simp
              exact hK _ _ rfl hG (Below.refl _ _)
            · intro a x hG hd hs K hK
              have h6 : a.tmps.getD 6 undef = .pointer (some ⟨Bx, 0, none⟩) := hs 6 (by kernel_rfl)
              have h31 : a.tmps.getD 31 undef = .bool true := hd 3 31 (by kernel_rfl)
              clear hd hs
              refine wpOp_no rfl rfl rfl h31 ?_
              exact hK _ _ rfl hG (Below.refl _ _)
            · intro a x hG hd hs K hK
              have h7 : a.tmps.getD 7 undef = .slice Au bi.length cu := hs 7 (by kernel_rfl)
              have h31 : a.tmps.getD 31 undef = .bool true := hd 3 31 (by kernel_rfl)
              clear hd hs
              refine wpOp_no rfl rfl rfl h31 ?_
              exact hK _ _ rfl hG (Below.refl _ _)
            · intro a x hG hd hs K hK
              have h32 : a.tmps.getD 32 undef = undef := hd 4 32 (by kernel_rfl)
              have h33 : a.tmps.getD 33 undef = undef := hd 5 33 (by kernel_rfl)
              have h31 : a.tmps.getD 31 undef = .bool true := hd 3 31 (by kernel_rfl)
              clear hd hs
              refine wpOp_no rfl rfl rfl h31 ?_
              exact hK _ _ rfl hG (Below.refl _ _)
            · intro a x hG hd hs K hK
              have h6 : a.tmps.getD 6 undef = .pointer (some ⟨Bx, 0, none⟩) := hs 6 (by kernel_rfl)
              have h31 : a.tmps.getD 31 undef = .bool true := hd 3 31 (by kernel_rfl)
              clear hd hs
              refine wpOp_no rfl rfl rfl h31 ?_
              exact hK _ _ rfl hG (Below.refl _ _)
            · intro a x hG hd hs K hK
              have h34 : a.tmps.getD 34 undef = undef := hd 6 34 (by kernel_rfl)
              have h35 : a.tmps.getD 35 undef = undef := hd 7 35 (by kernel_rfl)
              have h31 : a.tmps.getD 31 undef = .bool true := hd 3 31 (by kernel_rfl)
              clear hd hs
              refine wpOp_no rfl rfl rfl h31 ?_
              exact hK _ _ rfl hG (Below.refl _ _)
            · intro a x hG hd hs K hK
              have h31 : a.tmps.getD 31 undef = .bool true := hd 3 31 (by kernel_rfl)
              have h36 : a.tmps.getD 36 undef = undef := hd 8 36 (by kernel_rfl)
              clear hd hs
              refine wpOp_plain rfl rfl ?_
              go_simp
              exact hK _ _ rfl hG (Below.refl _ _)
          · intro x hG
            rintro _ rfl _ rfl _ rfl _ rfl _ rfl _ rfl _ rfl _ rfl _ rfl _ rfl
            simp only [Act.put, List.setIfInBounds_toArray, List.set_cons_zero, List.set_cons_succ, REnd]
            try simp only [Exit.then]
            have k2x := k21.ext hG
            have cx := k2x.cell 0
            have fx := k2x.frozen 0
            gi_wp2
            exact ⟨((KeepsOthers.of_grownBy (grown_of_below hG none) (fun j o e => by cases e)).trans (KeepsOthers.setCell _ _ _)).from _, ⟨⟨rfl, by rw [hpx, HO.out, hok, Bool.and_false]⟩, k2x.set_ 0 _⟩, (hB1.trans (hG.mono hB1.size)).setCell (p := ⟨w.heap.size + 1 + 1, 0, none⟩) (by simp; omega) _⟩
      case done =>
        rintro D ys W hD hys ⟨⟨⟨k21, k22⟩, hpre⟩, hB1⟩ hK
        subst hT
        have cS := k21.cell 0
        have fS := k21.frozen 0
        gi_wp2
        have hK' := (KeepsOthers.setCell W ⟨w.heap.size + 1 + 1, 0, none⟩ (.bool true)).same D _ hK rfl
        refine ⟨by simp, .inl ⟨_, _, rfl, run_takeDeferred hK', ?_⟩⟩
        have k23 := (k21.set_ 0 (.bool true)).grown (grownBy_putObj' _ D (.deferred none)) (fun e => by injection e with e; omega)
        have hc5 := k23.cell 0
        rw [hys] at hpre
        exact ⟨.bool true, by simp [results, Tryd.results18, go_sem, hc5], by rw [HW.out, hpre], (hB1.setCell (p := ⟨w.heap.size + 1 + 1, 0, none⟩) (by simp; omega) _).trans (belowK_b (w := w) (Nat.le_refl _) _ D _ _ (Nat.le_trans hw1.size hD) hK' rfl rfl)⟩
      case stop =>
        rintro D c9 pre W hD ⟨k, hk, hys⟩ ⟨⟨⟨rfl, hpre⟩, k21⟩, hB1⟩ hK
        subst hT
        gi_wp2
        refine ⟨by simp, .inl ⟨_, _, rfl, run_takeDeferred hK, ?_⟩⟩
        have k23 := k21.grown (grownBy_putObj' _ D (.deferred none)) (fun e => by injection e with e; omega)
        have hc5 := k23.cell 0
        rw [hys] at hpre
        have hall : allW bl (idx l l.length) = false := by
          cases h : allW bl (idx l l.length) with
          | false => rfl
          | true =>
            unfold allW at h hpre
            rw [List.all_eq_true.2 fun y hy => List.all_eq_true.1 h y (idx_sub l k hk y hy)] at hpre
            cases hpre
        exact ⟨.bool false, by simp [results, Tryd.results18, go_sem, hc5], by rw [HW.out, hall], hB1.trans (belowK_b (w := w) (Nat.le_refl _) _ D _ _ (Nat.le_trans hw1.size hD) hK rfl rfl)⟩
    · rw [show (bl.length == l.length) = false from beq_eq_false_iff_ne.2 hlen, Bool.false_and] at HW
      have hlz : ((bl.length : Int) = (l.length : Int)) = False := by simp; omega
      gi_wp2
      exact ⟨.bool false, by simp [results, Tryd.results18, go_sem, c5], by rw [HW.out], hw5⟩
theorem whole_any (s n : Int) (e : Bool) (vl vb : Value) (l : List Sm.En) (bl : List (List UInt8)) (w : World) (hl : Ents w w.heap.size vl l) (hb : Bss w w.heap.size vb bl) (hH : Halves w) :
    Calls Tryd.prog 18 #[.agg #[.int .i64 s, .int .i64 n, .bool e, vl], vb] w fun r w' => r = .returned (.bool (whB ⟨s, n, e, l⟩ bl)) ∧ Below w.heap.size w w' :=
  callsIn_wide.1 (whole_in s n e vl vb l bl w hl hb hH)
end Go.Proofs.YtieajlpkiheebaaDoor
