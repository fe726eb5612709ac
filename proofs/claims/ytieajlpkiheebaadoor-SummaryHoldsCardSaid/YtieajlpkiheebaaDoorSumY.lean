/-
  The reference of chapter 06: Of. By an AI agent.
-/
import Derived.Test.YtieajlpkiheebaaDoorSumZ
namespace Go.Proofs.YtieajlpkiheebaaDoor
open Go.RowKit Go.ChangeShapes Go.WideShapes Go.ChangeAt

theorem enB_sum (bl : List (List UInt8)) (x : Nat × Sm.En) : Sm.enB (sumE bl x) = Sm.enB x.2 := rfl
theorem ofL_len (l : List Sm.En) (bl : List (List UInt8)) : (ofL l bl).length = l.length := by unfold ofL; rw [List.length_map, idx_len]
theorem may_ofL (s n : Int) (e : Bool) (l : List Sm.En) (bl : List (List UInt8)) : Sm.mayB ⟨s, n, e, ofL l bl⟩ = Sm.mayB ⟨s, n, e, l⟩ := by
  unfold Sm.mayB
  simp only [ofL_len]
  congr 1
  unfold ofL
  rw [List.all_map, show (Sm.enB ∘ sumE bl) = fun x : Nat × Sm.En => Sm.enB x.2 from rfl]
  conv => rhs; rw [← List.take_length (l := l), ← idx_snd l l.length (Nat.le_refl _), List.all_map]
  rfl
set_option maxRecDepth 100000 in
set_option maxHeartbeats 4000000 in
theorem rofS_any (s n : Int) (e : Bool) (vl vb : Value) (l : List Sm.En) (bl : List (List UInt8)) (w : World) (hl : Ents w w.heap.size vl l) (hb : Strs w w.heap.size vb bl) (hsm : ∀ b ∈ bl, b.length ≤ 1000000) (hsl : l.length ≤ 1000000) :
    Calls Tryd.prog 21 #[.int .i64 s, .int .i64 n, .bool e, vl, vb] w fun r w' =>
      (∃ u, r = .returned (.tuple #[.agg #[.int .i64 s, .int .i64 n, .bool e, u], .bool true]) ∧ ofB ⟨s, n, e, l⟩ bl = true ∧ Ents w' w'.heap.size u (ofL l bl) ∧ Below w.heap.size w w') ∨
      (r = .returned (.tuple #[.agg #[.int .i64 0, .int .i64 0, .bool false, .slice none 0 0], .bool false]) ∧ ofB ⟨s, n, e, l⟩ bl = false ∧ Below w.heap.size w w') := by
  obtain ⟨A, c, rfl, hlc, hcm, hE⟩ := hl.open_
  obtain ⟨Ab, cb, rfl, hbc, hbm, hcellb⟩ := hb.open_
  have HW := Lib.hid (show ofB ⟨s, n, e, l⟩ bl = ((bl.length == l.length) && Sm.mayB ⟨s, n, e, l⟩ && allL bl (idx l l.length)) from rfl)
  have HE := Lib.hid hE
  have HCB := Lib.hid hcellb
  have HSM := Lib.hid hsm
  clear hl hE hb hcellb hsm
  go_enter Tryd.func21, Tryd.ntmps21
  go_upto_region 2 with (fail)
  have k10 := (Blk.new w 24 #[.int .i64 0, .int .i64 0, .bool false, .slice none 0 0]).alloc (.cells #[.int .i64 s, .int .i64 n, .bool e, .slice none 0 0] 24)
  have k12 := Blk.new (w.alloc (.cells #[.int .i64 0, .int .i64 0, .bool false, .slice none 0 0] 24)) 24 #[.int .i64 s, .int .i64 n, .bool e, .slice none 0 0]
  rw [World.size_alloc] at k12
  have b0 := ((Below.refl w.heap.size w).alloc (Nat.le_refl _) (.cells #[.int .i64 0, .int .i64 0, .bool false, .slice none 0 0] 24)).alloc (by simp) (.cells #[.int .i64 s, .int .i64 n, .bool e, .slice none 0 0] 24)
  obtain ⟨w0, hw0⟩ : ∃ w0, (w.alloc (.cells #[.int .i64 0, .int .i64 0, .bool false, .slice none 0 0] 24)).alloc (.cells #[.int .i64 s, .int .i64 n, .bool e, .slice none 0 0] 24) = w0 := ⟨_, rfl⟩
  rw [hw0] at k10 k12 b0 ⊢
  clear hw0
  obtain ⟨g2, hgq⟩ : ∃ gq, w.heap.size = gq := ⟨_, rfl⟩
  have hg1 : w.heap.size ≤ g2 := by omega
  rw [hgq] at k10 k12 ⊢
  clear hgq
  have hg12 : w.heap.size ≤ g2 + 1 := by omega
  by_cases hlen : bl.length = l.length
  rotate_left
  · skip
    rw [show (bl.length == l.length) = false from beq_eq_false_iff_ne.2 hlen, Bool.false_and, Bool.false_and] at HW
    have hlz : ((l.length : Int) != (bl.length : Int)) = true := bne_iff_ne.2 (by omega)
    clear hlen
    have e0 := k10.cell 0
    have e1 := k10.cell 1
    have e2 := k10.cell 2
    have e3 := k10.cell 3
    have ef := k10.frozen
    go_wp2
    have hz := ((((k10.set_ 0 (.int .i64 0)).set_ 1 (.int .i64 0)).set_ 2 (.bool false)).set_ 3 (.slice none 0 0))
    have bz := ((((b0.setCell (p := ⟨g2, 0, none⟩) hg1 (.int .i64 0)).setCell (p := ⟨g2, 1, none⟩) hg1 (.int .i64 0)).setCell (p := ⟨g2, 2, none⟩) hg1 (.bool false)).setCell (p := ⟨g2, 3, none⟩) hg1 (.slice none 0 0))
    refine bodyPost_ret (v := .tuple #[.agg #[.int .i64 0, .int .i64 0, .bool false, .slice none 0 0], .bool false]) (res_cell2 [.int .i64 0, .int .i64 0, .bool false, .slice none 0 0] _ Tryd.results21 rfl hz.range Tryd.underlying24 rfl (by kernel_rfl) rfl) rfl ?_
    exact .inr ⟨rfl, HW.out, bz⟩
  rw [show (bl.length == l.length) = true from beq_iff_eq.2 hlen, Bool.true_and] at HW
  have hlz : ((l.length : Int) != (bl.length : Int)) = false := by rw [bne_eq_false_iff_eq]; omega
  have HLEN := Lib.hid hlen
  clear hlen
  go_wp2
  clear hlz
  go_loopw [13] (fun i wr => ∃ k : Nat, k ≤ l.length ∧ i = .int .i64 k ∧ Hid (allL bl (idx l k) = true) ∧ (∃ v, Blk wr (g2 + 1) 24 [.int .i64 s, .int .i64 n, .bool e, v] ∧ wr.ownsRow w.heap.size 62 4 v k (ecells ((idx l k).map (sumE bl)))) ∧ Blk wr g2 24 [.int .i64 0, .int .i64 0, .bool false, .slice none 0 0] ∧ Below w.heap.size w wr) (fun i _ => l.length - (intOf i).toNat)
  case atStart => exact ⟨0, Nat.zero_le _, rfl, Lib.hid rfl, ⟨_, k12, World.ownsRow_nil _ _ _ _⟩, k10, b0⟩
  case round =>
    obtain ⟨k, hk9, rfl, hall, ⟨v, bv, hown⟩, hkz, hbr⟩ := hrel
    clear k10 k12 b0
    by_cases hlt : k < l.length
    · have hltb : k < bl.length := by have := HLEN.out; omega
      obtain ⟨b, off, rfl, hbB, h0, h1, h2, h3⟩ := (HE.out.below hbr) k hlt
      obtain ⟨sb, so, rfl, hsb, hsc⟩ := HCB.out k hltb
      have hbl8 : (bl.getD k []).length ≤ 1000000 := HSM.out _ (by rw [List.getD_eq_getElem?_getD, List.getElem?_eq_getElem hltb]; exact List.getElem_mem hltb)
      have HO := Lib.hid (show lenE bl (k, l[k]) = ((bl.getD k []).length == 128) from rfl)
      have HN := Lib.hid (allL_all bl l k hlt)
      have HY := Lib.hid (fun h : lenE bl (k, l[k]) = true => show allL bl (idx l (k + 1)) = true by rw [idx_step l k hlt, allL_snoc, hall.out, h]; rfl)
      have HX := Lib.hid (show (idx l (k + 1)).map (sumE bl) = (idx l k).map (sumE bl) ++ [⟨l[k].k, l[k].i, l[k].x, Crc.sum (bl.getD k [])⟩] by rw [idx_step l k hlt, List.map_append]; rfl)
      clear hall
      generalize lenE bl (k, l[k]) = ok at *
      generalize l[k] = y at *
      obtain ⟨yk, yi, yx, ys⟩ := y
      dsimp only at h0 h1 h2 h3 HX
      generalize bl.getD k [] = bi at *
      replace hsc := (hbr.cell (p := ⟨sb, so + k, none⟩) hsb).trans hsc
      have hsbw : sb < wr.heap.size := Nat.lt_of_lt_of_le hsb hbr.size
      go_wp2_with fail
      refine (rsum_any _ bi (by omega)).mono ?_
      rintro e1 w' ⟨rfl, rfl⟩
      generalize Crc.sum bi = sm at *
      by_cases h128 : bi.length = 128
      · have hz : ((bi.length : Int) != 128) = false := by rw [bne_eq_false_iff_eq]; omega
        rw [show (bi.length == 128) = true from beq_iff_eq.2 h128] at HO
        have H := Lib.hid (HY.out HO.out)
        clear HN HY h128 h0 h1 h2 h3
        have hgv := bv.lt
        have hv3 : wr.cell? ⟨g2 + 1, 3, none⟩ = some v := bv.cell 3
        go_wp2_with (at_builtin; refine stop_ ?_)
        have hownA := hown.alloc (.cells #[.int .i64 yk, .int .i64 yi, .int .i64 yx, .int .u32 (sm : Int)] 62)
        have hbrA := hbr.alloc hbr.size (.cells #[.int .i64 yk, .int .i64 yi, .int .i64 yx, .int .u32 (sm : Int)] 62)
        have bvA := bv.alloc (.cells #[.int .i64 yk, .int .i64 yi, .int .i64 yx, .int .u32 (sm : Int)] 62)
        have hkzA := hkz.alloc (.cells #[.int .i64 yk, .int .i64 yi, .int .i64 yx, .int .u32 (sm : Int)] 62)
        refine wpList_append_elem rfl _ _ rfl rfl rfl (by simp) Tryd.underlying22 infoEnt rfl (by decide) hownA rfl (by simp [Value.oneCell']) (by rw [maxLen_eq]; omega) (by omega) hbrA.size ?_
        intro v' wa howna hgra
        have ba1 := bvA.grown hgra (own_blk_ne hownA bvA (by decide))
        have bz1 := hkzA.grown hgra (own_blk_ne hownA hkzA (by decide))
        have hblA := hbrA.grown hgra hbrA.size (fun g e => (hownA.lt g e).1)
        clear hgra hownA hbrA bvA hkzA hv3 bv hown hkz hbr
        obtain ⟨A', c', rfl⟩ := own_slice howna
        have cS : wa.cell? ⟨g2 + 1, 3, none⟩ = some v := ba1.cell 3
        have fS := ba1.frozen 3
        have hbl2 := hblA.setCell (p := ⟨g2 + 1, 3, none⟩) hg12 (.slice A' (k + 1) c')
        have hfin := own_far howna ba1 (by decide) 3 (.slice A' (k + 1) c')
        have hbf := ba1.set_ 3 (.slice A' (k + 1) c')
        replace bz1 := bz1.far (p := ⟨g2 + 1, 3, none⟩) (by show g2 ≠ g2 + 1; omega) (.slice A' (k + 1) c')
        have hfin2 : World.ownsRow (wa.setCell ⟨g2 + 1, 3, none⟩ (.slice A' (k + 1) c')) w.heap.size 62 4 (.slice A' (k + 1) c') (k + 1) (ecells ((idx l (k + 1)).map (sumE bl))) := by rw [HX.out, ecells_app]; exact hfin
        have HF := Lib.hid hfin2
        have HBF := Lib.hid hbf
        have HZ1 := Lib.hid bz1
        have HB2 := Lib.hid hbl2
        clear hfin hfin2 hbf bz1 hbl2 ba1 hblA howna
        go_wp2
        go_roundw
        case rel => exact ⟨k + 1, by omega, by go_num, Lib.hid H.out, ⟨_, HBF.out, HF.out⟩, HZ1.out, HB2.out⟩
        case measure => simp [intOf]; omega
      · have hz : ((bi.length : Int) != 128) = true := bne_iff_ne.2 (by omega)
        rw [show (bi.length == 128) = false from beq_eq_false_iff_ne.2 h128] at HO
        have H := Lib.hid (HN.out HO.out)
        clear HN HY h128 h0 h1 h2 h3
        have hgz := hkz.lt
        have e0 := hkz.cell 0
        have e1 := hkz.cell 1
        have e2 := hkz.cell 2
        have e3 := hkz.cell 3
        have ef := hkz.frozen
        go_wp2
        have hz := ((((hkz.set_ 0 (.int .i64 0)).set_ 1 (.int .i64 0)).set_ 2 (.bool false)).set_ 3 (.slice none 0 0)).alloc (.cells #[.int .i64 yk, .int .i64 yi, .int .i64 yx, .int .u32 (sm : Int)] 62)
        have bz := ((((hbr.setCell (p := ⟨g2, 0, none⟩) hg1 (.int .i64 0)).setCell (p := ⟨g2, 1, none⟩) hg1 (.int .i64 0)).setCell (p := ⟨g2, 2, none⟩) hg1 (.bool false)).setCell (p := ⟨g2, 3, none⟩) hg1 (.slice none 0 0)).alloc (by simp; exact hbr.size) (.cells #[.int .i64 yk, .int .i64 yi, .int .i64 yx, .int .u32 (sm : Int)] 62)
        refine bodyPost_ret (v := .tuple #[.agg #[.int .i64 0, .int .i64 0, .bool false, .slice none 0 0], .bool false]) (res_cell2 [.int .i64 0, .int .i64 0, .bool false, .slice none 0 0] _ Tryd.results21 rfl hz.range Tryd.underlying24 rfl (by kernel_rfl) rfl) rfl ?_
        exact .inr ⟨rfl, by rw [HW.out, H.out, Bool.and_false], bz⟩
    · obtain rfl : k = l.length := by omega
      have hv := hall.out
      rw [hv, Bool.and_true] at HW
      have hEn : Ents wr wr.heap.size v (ofL l bl) := Rds.of_own (n := (ofL l bl).length) (by rw [ofL_len]; exact hown)
      have HEn := Lib.hid hEn
      obtain ⟨Av, cv, rfl⟩ := own_slice hown
      have hgz := hkz.lt
      have hgv := bv.lt
      clear hv hEn hlt hall
      have p0 := bv.cell 0
      have p1 := bv.cell 1
      have p2 := bv.cell 2
      have p3 := bv.cell 3
      go_wp2_with fail
      refine (rmayS_any s n e _ (ofL l bl) wr HEn.out).mono ?_
      rintro e1 w5 ⟨rfl, b5⟩
      rw [may_ofL]
      replace bv := bv.ext b5
      replace hkz := hkz.ext b5
      replace hbr := hbr.trans (b5.mono hbr.size)
      have hown5 := own_ext hown b5
      clear p0 p1 p2 p3 b5 hown HEn hgz hgv
      cases hmy : Sm.mayB ⟨s, n, e, l⟩ with
      | false =>
        rw [hmy] at HW
        clear hmy
        have e0 := hkz.cell 0
        have e1 := hkz.cell 1
        have e2 := hkz.cell 2
        have e3 := hkz.cell 3
        have ef := hkz.frozen
        go_wp2
        have hz := ((((hkz.set_ 0 (.int .i64 0)).set_ 1 (.int .i64 0)).set_ 2 (.bool false)).set_ 3 (.slice none 0 0))
        have bz := ((((hbr.setCell (p := ⟨g2, 0, none⟩) hg1 (.int .i64 0)).setCell (p := ⟨g2, 1, none⟩) hg1 (.int .i64 0)).setCell (p := ⟨g2, 2, none⟩) hg1 (.bool false)).setCell (p := ⟨g2, 3, none⟩) hg1 (.slice none 0 0))
        refine bodyPost_ret (v := .tuple #[.agg #[.int .i64 0, .int .i64 0, .bool false, .slice none 0 0], .bool false]) (res_cell2 [.int .i64 0, .int .i64 0, .bool false, .slice none 0 0] _ Tryd.results21 rfl hz.range Tryd.underlying24 rfl (by kernel_rfl) rfl) rfl ?_
        exact .inr ⟨rfl, HW.out, bz⟩
      | true =>
        rw [hmy] at HW
        clear hmy
        have p0 := bv.cell 0
        have p1 := bv.cell 1
        have p2 := bv.cell 2
        have p3 := bv.cell 3
        have e0 := hkz.cell 0
        have e1 := hkz.cell 1
        have e2 := hkz.cell 2
        have e3 := hkz.cell 3
        have ef := hkz.frozen
        go_wp2
        have y1 := hkz.set_ 0 (.int .i64 s)
        have y2 := y1.set_ 1 (.int .i64 n)
        have y3 := y2.set_ 2 (.bool e)
        have y4 := y3.set_ 3 (.slice Av l.length cv)
        have zo := own_far (own_far (own_far (own_far hown5 hkz (by decide) 0 (.int .i64 s)) y1 (by decide) 1 (.int .i64 n)) y2 (by decide) 2 (.bool e)) y3 (by decide) 3 (.slice Av l.length cv)
        have bz := (((hbr.setCell (p := ⟨g2, 0, none⟩) hg1 (.int .i64 s)).setCell (p := ⟨g2, 1, none⟩) hg1 (.int .i64 n)).setCell (p := ⟨g2, 2, none⟩) hg1 (.bool e)).setCell (p := ⟨g2, 3, none⟩) hg1 (.slice Av l.length cv)
        have hfs : Ents _ _ (.slice Av l.length cv) (ofL l bl) := Rds.of_own (n := (ofL l bl).length) (by rw [ofL_len]; exact zo)
        refine bodyPost_ret (v := .tuple #[.agg #[.int .i64 s, .int .i64 n, .bool e, .slice Av l.length cv], .bool true]) (res_cell2 [.int .i64 s, .int .i64 n, .bool e, .slice Av l.length cv] _ Tryd.results21 rfl y4.range Tryd.underlying24 rfl (by kernel_rfl) rfl) rfl ?_
        exact .inl ⟨_, rfl, HW.out, hfs, bz⟩
end Go.Proofs.YtieajlpkiheebaaDoor
