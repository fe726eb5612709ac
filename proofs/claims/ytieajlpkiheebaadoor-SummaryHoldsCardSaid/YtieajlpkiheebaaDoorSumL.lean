/-
  The helpers of the statements of layer 06: arguments, few, blocks, awake. By an AI agent.
-/
import Derived.Test.YtieajlpkiheebaaDoorSumY
import Derived.Test.YtieajlpkiheebaaDoorArgs
import Derived.Test.YtieajlpkiheebaaDoorSumE
import Derived.Test.YtieajlpkiheebaaDoorDoor
namespace Go.Proofs.YtieajlpkiheebaaDoor
open Go.ChangeShapes Go.WideShapes Go.ChangeAt Go.RowKit

/-! ### An argument that is a part -/
section
variable {H : Type} {enc : TypeId × Value → H} {W : World} {base b0 : Nat} {r : Reach}
theorem ecell_len (y : Sm.En) : (ecell y).length = 4 := rfl
theorem ents_of_cs {fuel : Nat} {v : Value} {x : DataW H × List MemPlace} (h : DataW.trod enc Tryd.prog W base (fun _ => true) true fuel 22 [v] = some x) :
    ∃ l : List Sm.En, Ents W W.heap.size v l ∧ ∀ y ∈ l, y.s < 4294967296 :=
  rds_of_cs ecell (fun y => y.s < 4294967296) Tryd.underlying22 (k := 4) (by kernel_rfl) (by decide) ecell_len (fun n cs y hy hl => by
    obtain ⟨z0, h0, _⟩ := leaf_int (d := 1) hy (j := 0) (ty := 3) (k := .i64) (by decide +kernel) Tryd.underlying3
    obtain ⟨z1, h1, _⟩ := leaf_int (d := 1) hy (j := 1) (ty := 3) (k := .i64) (by decide +kernel) Tryd.underlying3
    obtain ⟨z2, h2, _⟩ := leaf_int (d := 1) hy (j := 2) (ty := 3) (k := .i64) (by decide +kernel) Tryd.underlying3
    obtain ⟨z3, h3, w3⟩ := leaf_int (d := 1) hy (j := 3) (ty := 49) (k := .u32) (by decide +kernel) Tryd.underlying49
    have hw := wf_u32 w3
    match cs, hl with
    | [c0, c1, c2, c3], _ =>
      simp only [List.getElem?_cons_zero, List.getElem?_cons_succ, Option.some.injEq] at h0 h1 h2 h3
      refine ⟨⟨z0, z1, z2, z3.toNat⟩, ?_, ?_⟩
      · rw [h0, h1, h2, h3]
        unfold ecell
        rw [show ((z3.toNat : Nat) : Int) = z3 by omega]
      · show z3.toNat < _
        omega) h
theorem part_of_trod {v : Value} {d : DataW H} {ps : List MemPlace} (hv : Value.okWide Tryd.prog W r b0 24 v) (h : DataW.Trod enc Tryd.prog W base (fun _ => true) true 24 v d ps) :
    ∃ (s n : Int) (e : Bool) (vl : Value) (l : List Sm.En), v = .agg #[.int .i64 s, .int .i64 n, .bool e, vl] ∧ Ents W W.heap.size vl l ∧ ∀ y ∈ l, y.s < 4294967296 := by
  obtain ⟨va, vb, vc, vd, ya, yb, yc, yd, n, rfl, rfl, rfl, ta, tb, tc, td⟩ := Joins.open_agg4 Tryd.underlying24 (by kernel_rfl) (by kernel_rfl) hv h
  obtain ⟨za, hza, _, wfa⟩ := DataW.trod_int Tryd.underlying3 ta
  obtain ⟨zb, hzb, _, wfb⟩ := DataW.trod_int Tryd.underlying3 tb
  obtain ⟨zc, hzc, _⟩ := DataW.trod_bool Tryd.underlying4 tc
  obtain ⟨l, hl, hs⟩ := ents_of_cs td
  simp only [List.cons.injEq, and_true] at hza hzb hzc
  subst hza hzb hzc
  exact ⟨_, _, _, _, l, rfl, hl, hs⟩
end

/-! ### few, blocks -/
theorem ecells_take (l : List Sm.En) (k : Nat) (hk : k ≤ l.length) : ecells (l.take k) = (ecells l).take (k * 4) := by
  have hs : ecells l = ecells (l.take k) ++ ecells (l.drop k) := by rw [← ecells_app, List.take_append_drop]
  rw [hs, List.take_left' (by rw [ecells_len, List.length_take, Nat.min_eq_left hk])]
theorem Ents.head {w : World} {B k c : Nat} {A : Option Addr} {l : List Sm.En} (h : Ents w B (.slice A l.length c) l) (hk : k ≤ l.length) : Ents w B (.slice A k c) (l.take k) := by
  have := Rds.head h hk
  unfold Ents
  rw [List.length_take, Nat.min_eq_left hk, ecells_take l k hk]
  exact this
theorem fewS_any (w : World) (v : Value) (B : Nat) (l : List Sm.En) (h : Ents w B v l) :
    Calls Tryd.prog 8 #[v] w fun e w' => ∃ u, e = .returned u ∧ Ents w B u (l.take 20) ∧ w = w' := by
  obtain ⟨A, c, rfl, hc, hm, _⟩ := h.open_
  have H := Lib.hid h
  clear h
  by_cases h20 : 20 < l.length
  · have g1 : (20 : Int) < (l.length : Int) := by omega
    have g2 : (20 : Int) ≤ c := by omega
    have g3 : (20 : Nat) ≤ c := by omega
    go_enter Tryd.func8, Tryd.ntmps8
    go_wp2
    go_ret
    exact ⟨_, rfl, H.out.head (by omega), rfl⟩
  · have g1 : ¬ (20 : Int) < (l.length : Int) := by omega
    go_enter Tryd.func8, Tryd.ntmps8
    go_wp2
    go_ret
    exact ⟨_, rfl, by rw [List.take_of_length_le (by omega)]; exact H.out, rfl⟩
/-- Blocks, no more and no longer than are looked at. -/
def bk9 (bl : List (List UInt8)) : List (List UInt8) := (bl.take 20).map (·.take 130)
theorem infoBsl : (Tryd.prog.info? 26).map (fun i => (i.zero, i.size, i.bytes)) = some (some (.slice none 0 0), 1, 24) := by kernel_rfl
theorem infoStr : (Tryd.prog.info? 9).map (fun i => (i.zero, i.size, i.bytes)) = some (some (.string ⟨#[]⟩), 1, 16) := by kernel_rfl
theorem Bss.head {w : World} {B k c : Nat} {A : Option Addr} {ls : List (List UInt8)} (h : Bss w B (.slice A ls.length c) ls) (hk : k ≤ ls.length) : Bss w B (.slice A k c) (ls.take k) := by
  obtain ⟨us, hu, hr, hb⟩ := h
  refine ⟨us.take k, by rw [List.length_take, List.length_take, hu], ?_, fun j u l h1 h2 => ?_⟩
  · have := Rds.head hr hk
    rw [Nat.mul_one] at this
    rw [List.length_take, Nat.min_eq_left hk]
    exact this
  · rw [List.getElem?_take] at h1 h2
    split at h1
    · rename_i hj
      rw [if_pos hj] at h2
      exact hb j u l h1 h2
    · cases h1
set_option maxRecDepth 100000 in
set_option maxHeartbeats 4000000 in
theorem blocks_any (w : World) (v : Value) (bl : List (List UInt8)) (h : Bss w w.heap.size v bl) :
    Calls Tryd.prog 17 #[v] w fun e w' => ∃ u x, e = .returned (.tuple #[u, x]) ∧ Bss w' w'.heap.size u (bk9 bl) ∧ Strs w' w'.heap.size x (bk9 bl) ∧ Below w.heap.size w w' := by
  obtain ⟨A, c, rfl, hc, hm, _⟩ := h.open_
  have H := Lib.hid h
  clear h
  go_enter Tryd.func17, Tryd.ntmps17
  go_upto_if 10 with (fail)
  go_cut [0] (fun s wx => w = wx ∧ ∃ q : List (List UInt8), s = .slice A q.length c ∧ q.length ≤ 20 ∧ Hid (Bss w w.heap.size (.slice A q.length c) q ∧ q = bl.take 20))
  case first =>
    by_cases h20 : 20 < bl.length
    · have g1 : (20 : Int) < (bl.length : Int) := by omega
      have g2 : (20 : Int) ≤ c := by omega
      have g3 : (20 : Nat) ≤ c := by omega
      have HH := Lib.hid (H.out.head (k := 20) (by omega))
      have hl : (bl.take 20).length = 20 := by rw [List.length_take]; omega
      have HL := Lib.hid hl
      clear hl
      go_wp2
      go_meet
      exact ⟨rfl, bl.take 20, by rw [HL.out], by rw [HL.out]; omega, by rw [HL.out]; exact ⟨HH.out, rfl⟩⟩
    · have g1 : ¬ (20 : Int) < (bl.length : Int) := by omega
      go_wp2
      go_meet
      exact ⟨rfl, bl, rfl, by omega, ⟨H.out, by rw [List.take_of_length_le (by omega)]⟩⟩
  obtain ⟨rfl, q, rfl, hq20, HQ⟩ := hcut
  have HP := Lib.hid HQ.out.1
  have HE := Lib.hid (show bk9 bl = q.map (·.take 130) by unfold bk9; rw [HQ.out.2])
  clear HQ H
  obtain ⟨A', c', hA', hcq, _, hcell⟩ := HP.out.open_
  injection hA' with e1 e2 e3
  subst e1 e3
  clear e2
  have HC := Lib.hid hcell
  clear hcell
  go_wp2
  go_loopw [4, 5, 6] (fun t4 t5 t6 wr => ∃ k : Nat, k ≤ q.length ∧ t6 = .int .i64 k ∧ (∃ us : List Value, us.length = k ∧ Hid (∀ j u, us[j]? = some u → Bs w w.heap.size u ((q.getD j []).take 130)) ∧ wr.ownsRow w.heap.size 26 1 t4 k us) ∧ wr.ownsRow w.heap.size 9 1 t5 k ((q.take k).map fun l => sval (l.take 130)) ∧ Below w.heap.size w wr) (fun _ _ t6 _ => q.length - (intOf t6).toNat)
  case atStart => exact ⟨0, Nat.zero_le _, rfl, ⟨[], rfl, Lib.hid (fun j u hu => by simp at hu), World.ownsRow_nil _ _ _ _⟩, World.ownsRow_nil _ _ _ _, Below.refl _ _⟩
  case round =>
    obtain ⟨k, hk9, rfl, ⟨us, hus, hub, hown⟩, howns, hbr⟩ := hrel
    by_cases hlt : k < q.length
    · obtain ⟨b, off, u, rfl, hbB, hcu, hbs⟩ := HC.out k hlt
      obtain ⟨Au, cu, rfl, hcl, hcm2, _⟩ := hbs.open_
      have HQK := Lib.hid (show (q.take (k + 1)).map (fun l => sval (l.take 130)) = (q.take k).map (fun l => sval (l.take 130)) ++ [sval (q[k].take 130)] by rw [List.take_succ_eq_append_getElem hlt, List.map_append]; rfl)
      have HGD := Lib.hid (show q.getD k [] = q[k] by rw [List.getD_eq_getElem?_getD, List.getElem?_eq_getElem hlt]; rfl)
      replace hcu := (hbr.cell (p := ⟨b, off + k, none⟩) hbB).trans hcu
      generalize q[k] = qk at *
      have HUS := Lib.hid hus
      have HB1 : ∃ n, Hid (n = (qk.take 130).length) ∧ n ≤ 130 ∧ (130 < qk.length → n = 130) ∧ (¬ 130 < qk.length → n = qk.length) := ⟨(qk.take 130).length, Lib.hid rfl, by rw [List.length_take]; omega, fun h => by rw [List.length_take]; omega, fun h => by rw [List.length_take]; omega⟩
      obtain ⟨n, HN, hn1, hn2, hn3⟩ := HB1
      have hbs2 : Bs w w.heap.size (.slice Au n cu) (qk.take 130) := by
        by_cases h130 : 130 < qk.length
        · rw [hn2 h130]; exact hbs.head (by omega)
        · have := hn3 h130
          subst this
          rw [List.take_of_length_le (by omega)]; exact hbs
      have HBS := Lib.hid hbs2
      have hpart : (130 < qk.length ∧ n = 130) ∨ (¬ 130 < qk.length ∧ n = qk.length) := by
        by_cases h130 : 130 < qk.length
        · exact .inl ⟨h130, hn2 h130⟩
        · exact .inr ⟨h130, hn3 h130⟩
      clear hn2 hn3 hbs hbs2 hus
      go_upto_if 25 with (fail)
      go_cut [7] from 13 to 36 (fun s wx => wr = wx ∧ s = .slice Au n cu)
      case first =>
        rcases hpart with ⟨h130, rfl⟩ | ⟨h130, rfl⟩
        · have g1 : (130 : Int) < (qk.length : Int) := by omega
          have g2 : (130 : Int) ≤ cu := by omega
          have g3 : (130 : Nat) ≤ cu := by omega
          go_wp2
          go_meet
          exact ⟨rfl, rfl⟩
        · have g1 : ¬ (130 : Int) < (qk.length : Int) := by omega
          go_wp2
          go_meet
          exact ⟨rfl, rfl⟩
      obtain ⟨rfl, rfl⟩ := hcut
      clear hpart
      go_wp2_with (at_builtin; refine stop_ ?_)
      refine wpList_append_one rfl _ _ rfl rfl rfl rfl Tryd.underlying39 infoBsl rfl hown rfl (by rw [maxLen_eq]; omega) (by omega) hbr.size ?_
      intro v1 w2 hown' hgr
      have howns' := own_other howns hown (by decide) hgr
      have hb2 := hbr.grown hgr hbr.size (fun g hg => (hown.lt g hg).1)
      clear hgr hown howns hcu
      have hst := run_string_of (P := Tryd.prog) (l := qk.take 130) (v := .slice Au n cu) (w := w2) (by have h9 := HBS.out.below hb2; exact h9) 26 9 5 Tryd.underlying26 Tryd.underlying5 Tryd.underlying9
      go_wp2_with (at_builtin; refine stop_ ?_)
      refine wpList_append_one rfl _ _ rfl rfl rfl rfl Tryd.underlying40 infoStr rfl howns' rfl (by rw [maxLen_eq]; omega) (by omega) hb2.size ?_
      intro v2 w3 howns2 hgr
      have hown2 := own_other hown' howns' (by decide) hgr
      have hb3 := hb2.grown hgr hb2.size (fun g hg => (howns'.lt g hg).1)
      have HO2 := Lib.hid (show w3.ownsRow w.heap.size 9 1 v2 (k + 1) ((q.take (k + 1)).map fun l => sval (l.take 130)) by rw [HQK.out]; exact howns2)
      have HUB := Lib.hid (show ∀ j u, (us ++ [Value.slice Au n cu])[j]? = some u → Bs w w.heap.size u ((q.getD j []).take 130) from fun j u hu => by
        by_cases hj : j < us.length
        · rw [List.getElem?_append_left hj] at hu; exact hub.out j u hu
        · rw [List.getElem?_append_right (by omega)] at hu
          by_cases h0 : j - us.length = 0
          · rw [h0] at hu
            simp at hu
            subst hu
            rw [show j = k by have := HUS.out; omega, HGD.out]; exact HBS.out
          · rw [List.getElem?_eq_none (by simp; omega)] at hu; cases hu)
      clear hgr hown' howns' howns2 hb2 hst hbr
      go_wp2
      go_roundw
      case rel => exact ⟨k + 1, by omega, by go_num, ⟨_, by rw [List.length_append, HUS.out]; rfl, HUB, hown2⟩, HO2.out, hb3⟩
      case measure => simp [intOf]; omega
    · obtain rfl : k = q.length := by omega
      rw [List.take_length] at howns
      have HUS := Lib.hid hus
      clear hus
      go_wp2
      go_ret2
      refine ⟨_, _, rfl, ?_, ?_, hbr⟩
      · rw [HE.out]
        refine ⟨us, by rw [HUS.out, List.length_map], by rw [List.length_map]; exact Rds.of_own hown, fun j u m hu hm9 => ?_⟩
        have h9 := hub.out j u hu
        rw [List.getElem?_map] at hm9
        have hj : j < q.length := by have := (List.getElem?_eq_some_iff.1 hu).1; have := HUS.out; omega
        rw [List.getElem?_eq_getElem hj] at hm9
        injection hm9 with hm9
        subst hm9
        rw [List.getD_eq_getElem?_getD, List.getElem?_eq_getElem hj] at h9
        exact (h9.below hbr).more hbr.size
      · rw [HE.out]
        unfold Strs
        rw [List.length_map, List.map_map]
        exact Rds.of_own howns

/-! ### awake -/
def zer : List UInt8 := List.replicate 128 0
theorem smErr_zer : Sm.smErr zer = 5 := by decide +kernel
theorem infoU8c : (Tryd.prog.info? 5).map (fun i => (i.zero, i.size, i.bytes)) = some (some (.int .u8 0), 1, 1) := by kernel_rfl
def zcl : List Value := List.replicate 128 (.int .u8 0)
theorem made_zer : (madeCells #[.int .u8 0] (128 * 1)).toList = zcl := by kernel_rfl
theorem run_mk128 (W : World) : (Instr.makeSlice 26 (.int .i64 128) (.int .i64 128)).run Tryd.prog W = .ok (.slice (some ⟨W.heap.size, 0, none⟩) 128 128) (W.alloc (.cells (madeCells #[.int .u8 0] (128 * 1)) 5)) :=
  run_mk (P := Tryd.prog) Tryd.underlying26 infoU8c 128 128 (Nat.le_refl _) (by decide) (by decide) W
theorem bs_new (w : World) : Bs (w.alloc (.cells (madeCells #[.int .u8 0] (128 * 1)) 5)) (w.heap.size + 1) (.slice (some ⟨w.heap.size, 0, none⟩) 128 128) zer := by
  refine Bs.lit w 5 _ zer 128 ?_ rfl (by decide)
  rw [made_zer]
  unfold zcl zer
  rw [List.map_replicate]
  rfl
def pt9 : Sm.Pt := ⟨1, 0, true, [⟨1, 3, 0, 0⟩]⟩
theorem of_pt9 : ofB pt9 [zer] = true := by decide +kernel
theorem wh_pt9 : whB ⟨1, 0, true, ofL pt9.l [zer]⟩ [zer] = true := by decide +kernel
set_option maxRecDepth 100000 in
set_option maxHeartbeats 4000000 in
theorem awakeS_any (w : World) (hH : Halves w) :
    Calls Tryd.prog 12 #[] w fun e w' => e = .returned (.bool true) ∧ Below w.heap.size w w' := by
  have hmk := run_mk128
  go_enter Tryd.func12, Tryd.ntmps12
  go_wp2_with fail
  have bn := bs_new w
  have hs0 : (w.alloc (.cells (madeCells #[.int .u8 0] (128 * 1)) 5)).heap.size = w.heap.size + 1 := World.size_alloc _ _
  have b0 := (Below.refl w.heap.size w).alloc (Nat.le_refl _) (.cells (madeCells #[.int .u8 0] (128 * 1)) 5)
  change Calls _ _ _ (((w.alloc (.cells (madeCells #[.int .u8 0] (128 * 1)) 5)).alloc _).alloc _) _
  rw [← hs0] at bn ⊢
  obtain ⟨w1, hw1⟩ : ∃ w1, w.alloc (.cells (madeCells #[.int .u8 0] (128 * 1)) 5) = w1 := ⟨_, rfl⟩
  rw [hw1] at bn b0 ⊢
  have b1 : Bss (w1.alloc (.cells #[.slice (some ⟨w.heap.size, 0, none⟩) 128 128] 26)) (w1.heap.size + 1) (.slice (some ⟨w1.heap.size, 0, none⟩) 1 1) [zer] := Bss.lit1 26 bn
  have c1 := b0.alloc b0.size (.cells #[.slice (some ⟨w.heap.size, 0, none⟩) 128 128] 26)
  have hs1 : (w1.alloc (.cells #[.slice (some ⟨w.heap.size, 0, none⟩) 128 128] 26)).heap.size = w1.heap.size + 1 := World.size_alloc _ _
  rw [← hs1] at b1 ⊢
  obtain ⟨w2, hw2⟩ : ∃ w2, w1.alloc (.cells #[.slice (some ⟨w.heap.size, 0, none⟩) 128 128] 26) = w2 := ⟨_, rfl⟩
  rw [hw2] at b1 c1 hs1 ⊢
  have e1 : Ents (w2.alloc (.cells #[.int .i64 1, .int .i64 3, .int .i64 0, .int .u32 0] 62)) (w2.heap.size + 1) (.slice (some ⟨w2.heap.size, 0, none⟩) 1 1) pt9.l := (Blk.new w2 62 #[.int .i64 1, .int .i64 3, .int .i64 0, .int .u32 0]).rds 0 1 1 4 (by decide) (Nat.le_refl _) (by decide)
  have b2 := b1.ext (Nat.le_refl _) ((Below.refl w2.heap.size w2).alloc (Nat.le_refl _) (.cells #[.int .i64 1, .int .i64 3, .int .i64 0, .int .u32 0] 62))
  have c2 := c1.alloc c1.size (.cells #[.int .i64 1, .int .i64 3, .int .i64 0, .int .u32 0] 62)
  have hs2 : (w2.alloc (.cells #[.int .i64 1, .int .i64 3, .int .i64 0, .int .u32 0] 62)).heap.size = w2.heap.size + 1 := World.size_alloc _ _
  obtain ⟨w3, hw3⟩ : ∃ w3, w2.alloc (.cells #[.int .i64 1, .int .i64 3, .int .i64 0, .int .u32 0] 62) = w3 := ⟨_, rfl⟩
  rw [hw3] at e1 b2 c2 hs2 ⊢
  have b3 := b2.more (show w2.heap.size ≤ w3.heap.size by omega)
  refine (of_any 1 0 true _ _ pt9.l [zer] w3 (e1.more (by omega)) b3 (hH.ext c2)).mono ?_
  have HBB := Lib.hid b3
  have HOF := Lib.hid of_pt9
  generalize w1.heap.size = g1 at *
  generalize w2.heap.size = g2 at *
  generalize w.heap.size = g0 at c1 b0 b1 hw2
  clear bn b0 b1 b2 b3 c1 e1 hw1 hw2 hw3 hs0 hs1 hs2
  rintro e w4 (⟨u, er, rfl, -, rfl, hE4, b4⟩ | ⟨-, h9, -⟩)
  rotate_left
  · exact absurd (h9.symm.trans HOF.out) (by decide)
  replace c2 := c2.trans (b4.mono c2.size)
  have HB4 := Lib.hid ((HBB.out.ext (Nat.le_refl _) b4).more b4.size)
  obtain ⟨Au, cu, rfl, _⟩ := hE4.open_
  have HE4 := Lib.hid hE4
  clear HOF HBB b4 hE4
  go_wp2_with fail
  have kp := Blk.new w4 24 #[.int .i64 1, .int .i64 0, .bool true, .slice Au (ofL pt9.l [zer]).length cu]
  have x5 := (Below.refl w4.heap.size w4).alloc (Nat.le_refl _) (.cells #[.int .i64 1, .int .i64 0, .bool true, .slice Au (ofL pt9.l [zer]).length cu] 24)
  obtain ⟨w5, hw5⟩ : ∃ w5, w4.alloc (.cells #[.int .i64 1, .int .i64 0, .bool true, .slice Au (ofL pt9.l [zer]).length cu] 24) = w5 := ⟨_, rfl⟩
  rw [hw5] at kp x5 ⊢
  clear hw5
  replace c2 := c2.trans (x5.mono c2.size)
  refine (encodeS_no 1 0 false _ [] w5 (Rds.nil_ _ _ _) (by decide)).mono ?_
  rintro e w6 ⟨rfl, b6⟩
  replace kp := kp.ext b6
  replace x5 := x5.trans (b6.mono x5.size)
  replace c2 := c2.trans (b6.mono c2.size)
  clear b6 w5
  go_wp2_with fail
  have bn := bs_new w6
  have b7 := (Below.refl w6.heap.size w6).alloc (Nat.le_refl _) (.cells (madeCells #[.int .u8 0] (128 * 1)) 5)
  have hs7 : (w6.alloc (.cells (madeCells #[.int .u8 0] (128 * 1)) 5)).heap.size = w6.heap.size + 1 := World.size_alloc _ _
  change Calls _ _ _ (w6.alloc (.cells (madeCells #[.int .u8 0] (128 * 1)) 5)) _
  rw [← hs7] at bn
  obtain ⟨w7, hw7⟩ : ∃ w7, w6.alloc (.cells (madeCells #[.int .u8 0] (128 * 1)) 5) = w7 := ⟨_, rfl⟩
  rw [hw7] at bn b7 ⊢
  clear hw7 hs7
  replace kp := kp.ext b7
  replace x5 := x5.trans (b7.mono x5.size)
  replace c2 := c2.trans (b7.mono c2.size)
  refine (decodeS_any w7 _ zer (hH.ext c2) bn).mono ?_
  rintro e w8 ⟨u8, rfl, hE8, b8⟩
  rw [smErr_zer, show decP zer = Sm.Pt.zero by unfold decP; rw [smErr_zer]; rfl] at *
  obtain ⟨A8, cu8, rfl, _⟩ := hE8.open_
  replace kp := kp.ext b8
  replace x5 := x5.trans (b8.mono x5.size)
  replace c2 := c2.trans (b8.mono c2.size)
  clear b8 b7 bn hE8 w7 hmk
  have hgk := kp.lt
  have p0 := kp.cell 0
  have p1 := kp.cell 1
  have p2 := kp.cell 2
  have p3 := kp.cell 3
  obtain ⟨g4, hg4⟩ : ∃ g4, w4.heap.size = g4 := ⟨_, rfl⟩
  rw [hg4] at kp hgk p0 p1 p2 p3 ⊢
  clear hg4
  go_wp2_with fail
  have x9 := x5.alloc x5.size (.cells #[.int .i64 Sm.Pt.zero.s, .int .i64 Sm.Pt.zero.n, .bool Sm.Pt.zero.e, .slice A8 Sm.Pt.zero.l.length cu8] 24)
  have c9 := c2.alloc c2.size (.cells #[.int .i64 Sm.Pt.zero.s, .int .i64 Sm.Pt.zero.n, .bool Sm.Pt.zero.e, .slice A8 Sm.Pt.zero.l.length cu8] 24)
  refine (whole_any 1 0 true _ _ (ofL pt9.l [zer]) [zer] _ ((HE4.out.below x9).more x9.size) ((HB4.out.ext (Nat.le_refl _) x9).more x9.size) (hH.ext c9)).mono ?_
  rintro e w10 ⟨rfl, b10⟩
  rw [wh_pt9]
  go_wp2
  go_ret
  exact ⟨rfl, c9.trans (b10.mono c9.size)⟩
end Go.Proofs.YtieajlpkiheebaaDoor
