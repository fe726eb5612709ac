/-
  EntryBack: what was added is found, and all others as before; taken away again all are as they were; what is taken away is not found. For every input.
-/
import Derived.Test.YtahkhieoabbaaaaEntO
namespace Go.Proofs.Ytahkhieoabbaaaa
open Go.ChangeShapes Go.WideShapes Go.ChangeAt Go.RowKit Go.Lib
open Et (E)

theorem may_short {l : List E} (h : Et.mayB l = true) : Short l := fun y hy => by
  have := (Et.ok_parts (((Et.may_iff l).1 h).2.1 y hy)).1
  omega
theorem World.size_le_alloc9 (w : World) (o : Obj) : w.heap.size ≤ (w.alloc o).heap.size := by simp

set_option maxRecDepth 100000 in
set_option maxHeartbeats 8000000 in
theorem entryBack_walk (w : World) (v : Value) (l0 : List E) (x0 : E) (hl0 : Ents w w.heap.size v l0) :
    Calls Try.prog 5 #[v, eagg x0] w fun e w' => e = .returned (.bool true) ∧ Below w.heap.size w w' := by
  obtain ⟨A, c, rfl, hlc, hcm, _⟩ := hl0.open_
  obtain ⟨xn0, xi, xt⟩ := x0
  unfold eagg
  dsimp only
  have HL := Lib.hid hl0
  clear hl0
  have k0 := Blk.new w 28 #[.string ⟨xn0.toArray⟩, .int .i64 xi, .int .i64 xt]
  have b0 := (Below.refl w.heap.size w).alloc (Nat.le_refl _) (.cells #[.string ⟨xn0.toArray⟩, .int .i64 xi, .int .i64 xt] 28)
  go_enter Try.func5, Try.ntmps5
  go_wp2_with fail
  obtain ⟨w0, hw0⟩ : ∃ w0, w.alloc (.cells #[.string ⟨xn0.toArray⟩, .int .i64 xi, .int .i64 xt] 28) = w0 := ⟨_, rfl⟩
  rw [hw0] at k0 b0 ⊢
  clear hw0
  obtain ⟨g, hg⟩ : ∃ g, w.heap.size = g := ⟨_, rfl⟩
  rw [hg] at k0 ⊢
  have hgg : w.heap.size ≤ g := by omega
  clear hg
  refine (Few_any _ l0 w0 ((HL.out.below b0).more b0.size)).mono ?_
  rintro e w1 ⟨u1, rfl, ho1, b1⟩
  have HSH := Lib.hid (few_short l0)
  have hlen := few_len l0
  generalize fewL l0 = l at *
  have hgl := k0.lt
  have k1 := k0.ext b1
  have c1' := b0.trans (b1.mono b0.size)
  clear b1 k0 b0 hlc hcm HL
  obtain ⟨A1, c1, rfl⟩ := own_slice ho1
  have p0 : w1.cell? ⟨g, 0, none⟩ = some (.string ⟨xn0.toArray⟩) := k1.cell 0
  go_wp2_with fail
  refine (few_any xn0 w1).mono ?_
  rintro e w1x ⟨rfl, rfl⟩
  have hxn : (xn0.take 60).length < 1099511627776 := by have := List.length_take_le 60 xn0; omega
  generalize xn0.take 60 = xn at *
  have ef := k1.frozen
  have k2 := k1.set_ 0 (.string ⟨xn.toArray⟩)
  have ho2 := ownsRow_setCell_below ho1 (a := ⟨g, 0, none⟩) hgl (.string ⟨xn.toArray⟩)
  have c2' := c1'.setCell (p := ⟨g, 0, none⟩) hgg (.string ⟨xn.toArray⟩)
  have q0 : (w1.setCell ⟨g, 0, none⟩ (.string ⟨xn.toArray⟩)).cell? ⟨g, 0, none⟩ = some (.string ⟨xn.toArray⟩) := k2.cell 0
  have q1 : (w1.setCell ⟨g, 0, none⟩ (.string ⟨xn.toArray⟩)).cell? ⟨g, 1, none⟩ = some (.int .i64 xi) := k2.cell 1
  have q2 : (w1.setCell ⟨g, 0, none⟩ (.string ⟨xn.toArray⟩)).cell? ⟨g, 2, none⟩ = some (.int .i64 xt) := k2.cell 2
  clear c1' ho1 k1
  go_wp2_with fail
  generalize w1.setCell ⟨g, 0, none⟩ (.string ⟨xn.toArray⟩) = w2 at *
  clear p0 q0 q1 q2 ef
  have hl2 : Ents w2 w2.heap.size (.slice A1 l.length c1) l := Ents.of_own ho2 rfl rfl
  have k2' : Blk w2 g 28 [.string ⟨xn.toArray⟩, .int .i64 xi, .int .i64 xt] := k2
  clear ho2 k2
  obtain ⟨_, _, hse, hlc, hcm, _⟩ := hl2.open_
  cases hse
  refine (add_any _ l xn xi xt w2 hl2 HSH.out hxn).mono ?_
  rintro e w3 ⟨u3, rfl, hm3, b3⟩
  have k3 := k2'.ext b3
  have hl3 := (hl2.below b3).more b3.size
  have c3' := c2'.trans (b3.mono c2'.size)
  clear b3 k2' hl2 c2'
  by_cases h0 : Et.addE l ⟨xn, xi, xt⟩ = 0
  rotate_left
  · obtain ⟨er, her⟩ : ∃ er, Et.addE l ⟨xn, xi, xt⟩ = er := ⟨_, rfl⟩
    rw [her] at h0 ⊢
    have h0' : (er == 0) = false := beq_eq_false_iff_ne.2 h0
    clear h0 her
    obtain ⟨A3, c3, rfl, _, _, _⟩ := hm3.open_
    clear hm3
    generalize (Et.addL l ⟨xn, xi, xt⟩).length = n3 at *
    obtain ⟨W, hW, k, hl, b⟩ : ∃ W, W = w3 ∧ Blk W g 28 [.string ⟨xn.toArray⟩, .int .i64 xi, .int .i64 xt] ∧ Ents W W.heap.size (.slice A1 l.length c1) l ∧ Below w.heap.size w W := ⟨_, rfl, k3, hl3, c3'⟩
    rw [← hW]
    clear hW

    have p0 : W.cell? ⟨g, 0, none⟩ = some (.string ⟨xn.toArray⟩) := k.cell 0
    go_wp2_with fail
    refine (take_any _ l xn W hl HSH.out hxn).mono ?_
    rintro e wt ⟨ut, rfl, hlt9, bt⟩
    have kt := k.ext bt
    have ct := b.trans (bt.mono b.size)
    clear p0 k bt
    by_cases hz : Et.srchE l xn = 0
    · rw [hz]
      have HG := Lib.hid (Et.take_gone hz)
      have HTM := Lib.hid (Et.take_may hz)
      have HTL := Lib.hid (Et.take_len hz)
      have HSR := Lib.hid (may_short HTM.out)
      clear hz
      generalize Et.takeL l xn = rr at *
      obtain ⟨A9, c9, rfl, h91, h92, _⟩ := hlt9.open_
      have p0 : wt.cell? ⟨g, 0, none⟩ = some (.string ⟨xn.toArray⟩) := kt.cell 0
      go_wp2_with fail
      refine (find_any _ rr xn wt hlt9 HSR.out hxn).mono ?_
      rintro e wf ⟨rfl, bf⟩
      rw [HG.out]
      have cf := ct.trans (bf.mono ct.size)
      have hlf := (hlt9.below bf).more bf.size
      clear p0 kt bf ct
      generalize Et.findL rr xn = yy at *
      unfold eagg
      have hlx0 := hlf.ext (Nat.le_refl _) ((Below.refl wf.heap.size wf).alloc (Nat.le_refl _) (.cells #[.string ⟨yy.n.toArray⟩, .int .i64 yy.i, .int .i64 yy.t] 28))
      have hlx9 := hlx0.more (World.size_le_alloc9 wf (.cells #[.string ⟨yy.n.toArray⟩, .int .i64 yy.i, .int .i64 yy.t] 28))
      have cx := cf.alloc cf.size (.cells #[.string ⟨yy.n.toArray⟩, .int .i64 yy.i, .int .i64 yy.t] 28)
      have hcc : ((rr.length : Int) != (l.length : Int) - 1) = false := by have := HTL.out; rw [bne_eq_false_iff_eq]; omega
      go_wp2_with fail
      generalize wf.alloc (.cells #[.string ⟨yy.n.toArray⟩, .int .i64 yy.i, .int .i64 yy.t] 28) = wx at *
      refine (may_any _ rr wx hlx9 HSR.out).mono ?_
      rintro e wm ⟨rfl, bm⟩
      rw [HTM.out]
      have cm := cx.trans (bm.mono cx.size)
      go_wp2_with fail
      refine (awake_any wm).mono ?_
      rintro e wa ⟨rfl, ba⟩
      go_wp2
      go_ret
      exact ⟨rfl, cm.trans (ba.mono cm.size)⟩
    · obtain ⟨er, her⟩ : ∃ er, Et.srchE l xn = er := ⟨_, rfl⟩
      rw [her] at hz ⊢
      have hz' : (er == 0) = false := beq_eq_false_iff_ne.2 hz
      clear hz her
      go_wp2_with fail
      refine (awake_any wt).mono ?_
      rintro e wa ⟨rfl, ba⟩
      go_wp2
      go_ret
      exact ⟨rfl, ct.trans (ba.mono ct.size)⟩
  · rw [h0]
    have HAT := Lib.hid (Et.add_take h0)
    have HAM := Lib.hid (Et.add_may h0)
    have HAO := Lib.hid (Et.add_others h0)
    have HAL := Lib.hid (Et.add_len h0)
    have HSM := Lib.hid (may_short HAM.out)
    have HLM := Lib.hid (Et.add_zero h0).1
    clear h0
    generalize Et.addL l ⟨xn, xi, xt⟩ = m at *
    obtain ⟨A3, c3, rfl, hmc, hmcm, _⟩ := hm3.open_
    have p0 : w3.cell? ⟨g, 0, none⟩ = some (.string ⟨xn.toArray⟩) := k3.cell 0
    go_wp2_with fail
    refine (find_any _ m xn w3 hm3 HSM.out hxn).mono ?_
    rintro e w4 ⟨rfl, b4⟩
    rw [HAT.out.2.1, HAT.out.2.2]
    unfold eagg
    have k4 := k3.ext b4
    have hl4 := (hl3.below b4).more b4.size
    have hm4 := (hm3.below b4).more b4.size
    have c4' := c3'.trans (b4.mono c3'.size)
    clear b4 k3 hl3 hm3 c3' p0
    have k7 := Blk.new w4 28 #[.string ⟨xn.toArray⟩, .int .i64 xi, .int .i64 xt]
    have b5 := (Below.refl w4.heap.size w4).alloc (Nat.le_refl _) (.cells #[.string ⟨xn.toArray⟩, .int .i64 xi, .int .i64 xt] 28)
    have k5 := k4.ext b5
    have hl5 := (hl4.below b5).more b5.size
    have hm5 := (hm4.below b5).more b5.size
    have c5' := c4'.trans (b5.mono c4'.size)
    have p0 : (w4.alloc (.cells #[.string ⟨xn.toArray⟩, .int .i64 xi, .int .i64 xt] 28)).cell? ⟨g, 0, none⟩ = some (.string ⟨xn.toArray⟩) := k5.cell 0
    clear b5 k4 hl4 hm4 c4'
    go_wp2_with fail
    obtain ⟨w5, hw5⟩ : ∃ w5, w4.alloc (.cells #[.string ⟨xn.toArray⟩, .int .i64 xi, .int .i64 xt] 28) = w5 := ⟨_, rfl⟩
    rw [hw5] at k7 k5 hl5 hm5 c5' p0 ⊢
    clear hw5
    obtain ⟨g7, hg7⟩ : ∃ g7, w4.heap.size = g7 := ⟨_, rfl⟩
    rw [hg7] at k7 ⊢
    clear hg7 p0
    refine (take_any _ m xn w5 hm5 HSM.out hxn).mono ?_
    rintro e w6 ⟨u6, rfl, hb6, b6⟩
    rw [HAT.out.2.1]
    rw [HAT.out.1] at hb6
    have k6 := k5.ext b6
    have k76 := k7.ext b6
    have hl6 := (hl5.below b6).more b6.size
    have hm6 := (hm5.below b6).more b6.size
    have c6' := c5'.trans (b6.mono c5'.size)
    clear b6 k5 k7 hl5 hm5 c5'
    obtain ⟨A6, c6, rfl, _, _, _⟩ := hb6.open_
    have q0 := k6.cell 0
    have q1 := k6.cell 1
    have q2 := k6.cell 2
    have r0 := k76.cell 0
    have r1 := k76.cell 1
    have r2 := k76.cell 2
    have hlen9 : ((m.length : Int) != (l.length : Int) + 1) = false := by have := HAL.out; rw [bne_eq_false_iff_eq]; omega
    go_wp2_with fail
    refine (same_any _ _ l l w6 hb6 hl6).mono ?_
    rintro e w7 ⟨rfl, b7⟩
    rw [decide_eq_true (rfl : l = l)]
    have k7 := k6.ext b7
    have hl7 := (hl6.below b7).more b7.size
    have hm7 : Ents w7 w7.heap.size (.slice A3 m.length c3) m := (hm6.below b7).more b7.size
    have c7' := c6'.trans (b7.mono c6'.size)
    clear b7 k6 k76 hl6 hm6 c6' hb6 q0 q1 q2 r0 r1 r2
    go_wp2_with fail
    refine (may_any _ m w7 hm7 HSM.out).mono ?_
    rintro e w8 ⟨rfl, b8⟩
    rw [HAM.out]
    have k8 := k7.ext b8
    have hl8 : Ents w8 w8.heap.size (.slice A1 l.length c1) l := (hl7.below b8).more b8.size
    have hm8 : Ents w8 w8.heap.size (.slice A3 m.length c3) m := (hm7.below b8).more b8.size
    have c8' := c7'.trans (b8.mono c7'.size)
    clear b8 k7 hl7 hm7 c7'
    have HE : Hid (EntsAt w8 w8.heap.size A1 l) := Lib.hid (by
      obtain ⟨_, _, e, _, _, h⟩ := hl8.open_
      cases e
      exact h)
    have HM := Lib.hid hm8
    have HLL := Lib.hid hl8
    clear hm8 hl8
    go_wp2
    go_loopw [11] (fun i wr => ∃ k : Nat, k ≤ l.length ∧ i = .int .i64 k ∧ Below w8.heap.size w8 wr) (fun i _ => l.length - (intOf i).toNat)
    case atStart => exact ⟨0, Nat.zero_le _, rfl, Below.refl _ _⟩
    case round =>
      obtain ⟨k, hk, rfl, hbr⟩ := hrel
      by_cases hlt : k < l.length
      · obtain ⟨b, off, rfl, hbB, h0, h1, h2⟩ := (HE.out.below hbr) k hlt
        have hy := HSH.out.at_ k hlt
        have HFO := Lib.hid (HAO.out (Et.at_ l k) (by rw [Et.at_get l k hlt]; exact List.getElem_mem hlt))
        generalize Et.at_ l k = y at *
        obtain ⟨yn, yi, yt⟩ := y
        dsimp only at h0 h1 h2 hy HFO
        go_wp2_with fail
        refine (find_any _ m yn wr ((HM.out.below hbr).more hbr.size) HSM.out hy).mono ?_
        rintro e w9 ⟨rfl, b9⟩
        rw [HFO.out.1, HFO.out.2]
        unfold eagg
        dsimp only
        have hbl : b < wr.heap.size := Nat.lt_of_lt_of_le hbB hbr.size
        have i0 := (b9.cell (p := ⟨b, off + k * 3, none⟩) hbl).trans h0
        have i1 := (b9.cell (p := ⟨b, off + k * 3 + 1, none⟩) hbl).trans h1
        have i2 := (b9.cell (p := ⟨b, off + k * 3 + 2, none⟩) hbl).trans h2
        have hbl9 : b < w9.heap.size := Nat.lt_of_lt_of_le hbl b9.size
        have d9 := hbr.trans (b9.mono hbr.size)
        clear h0 h1 h2 b9 hbl
        have k12 := Blk.new w9 28 #[.string ⟨yn.toArray⟩, .int .i64 yi, .int .i64 yt]
        have d10 := d9.alloc d9.size (.cells #[.string ⟨yn.toArray⟩, .int .i64 yi, .int .i64 yt] 28)
        have x10 := (Below.refl w9.heap.size w9).alloc (Nat.le_refl _) (.cells #[.string ⟨yn.toArray⟩, .int .i64 yi, .int .i64 yt] 28)
        go_upto_region 13 with fail
        obtain ⟨wA, hwA⟩ : ∃ wA, w9.alloc (.cells #[.string ⟨yn.toArray⟩, .int .i64 yi, .int .i64 yt] 28) = wA := ⟨_, rfl⟩
        rw [hwA] at k12 d10 x10 ⊢
        clear hwA
        replace i0 := (x10.cell (p := ⟨b, off + k * 3, none⟩) hbl9).trans i0
        replace i1 := (x10.cell (p := ⟨b, off + k * 3 + 1, none⟩) hbl9).trans i1
        replace i2 := (x10.cell (p := ⟨b, off + k * 3 + 2, none⟩) hbl9).trans i2
        have hblA : b < wA.heap.size := Nat.lt_of_lt_of_le hbl9 x10.size
        clear x10 d9
        obtain ⟨g12, hg12⟩ : ∃ g12, w9.heap.size = g12 := ⟨_, rfl⟩
        rw [hg12] at k12 ⊢
        clear hg12
        have hG0 : Below wA.heap.size wA wA.drew := (Below.refl _ _).drew
        refine wp_region_list 10 [(fun y_ _ => y_ = .agg #[.string ⟨yn.toArray⟩, .int .i64 yi, .int .i64 yt]),
          (fun y_ _ => y_ = .slice (some ⟨b, off, none⟩) l.length c1),
          (fun y_ _ => y_ = .int .i64 ((k : Nat) : Int)),
          (fun y_ _ => y_ = .pointer (some ⟨b, off + k * 3, none⟩)),
          (fun y_ _ => y_ = .agg #[.string ⟨yn.toArray⟩, .int .i64 yi, .int .i64 yt]),
          (fun y_ _ => y_ = .bool false),
          (fun y_ _ => y_ = .bool false),
          (fun y_ _ => y_ = .int .i64 0),
          (fun y_ _ => y_ = .bool false),
          (fun y_ _ => y_ = .bool false)]
          (fun q => Below wA.heap.size wA q) (by kernel_rfl) rfl (by kernel_rfl) ?_ ?_ ?_ ?_
        · exact hG0
        · exact ⟨stab_eq _, stab_eq _, stab_eq _, stab_eq _, stab_eq _, stab_eq _, stab_eq _, stab_eq _, stab_eq _, stab_eq _, trivial⟩
        · refine ⟨?_, ?_, ?_, ?_, ?_, ?_, ?_, ?_, ?_, ?_, trivial⟩
          · intro a x hG hd hs K hK
            have h12 : a.tmps.getD 12 undef = .pointer (some ⟨g12, 0, none⟩) := hs 12 (by kernel_rfl)
            clear hd hs
            refine wpOp_plain rfl rfl ?_
            have e0 := (k12.ext hG).cell 0
            have e1 := (k12.ext hG).cell 1
            have e2 := (k12.ext hG).cell 2
            go_simp
            exact hK _ _ rfl hG (Below.refl _ _)
          · intro a x hG hd hs K hK
            have h0 : a.tmps.getD 0 undef = .slice (some ⟨b, off, none⟩) l.length c1 := hs 0 (by kernel_rfl)
            clear hd hs
            refine wpOp_plain rfl rfl ?_
            go_simp
            exact hK _ _ rfl hG (Below.refl _ _)
          · intro a x hG hd hs K hK
            have h11 : a.tmps.getD 11 undef = .int .i64 ((k : Nat) : Int) := hs 11 (by kernel_rfl)
            clear hd hs
            refine wpOp_plain rfl rfl ?_
            go_simp
            exact hK _ _ rfl hG (Below.refl _ _)
          · intro a x hG hd hs K hK
            have h93 : a.tmps.getD 93 undef = .slice (some ⟨b, off, none⟩) l.length c1 := hd 1 93 (by kernel_rfl)
            have h94 : a.tmps.getD 94 undef = .int .i64 ((k : Nat) : Int) := hd 2 94 (by kernel_rfl)
            clear hd hs
            refine wpOp_plain rfl rfl ?_
            go_simp
            exact hK _ _ rfl hG (Below.refl _ _)
          · intro a x hG hd hs K hK
            have h95 : a.tmps.getD 95 undef = .pointer (some ⟨b, off + k * 3, none⟩) := hd 3 95 (by kernel_rfl)
            clear hd hs
            refine wpOp_plain rfl rfl ?_
            have e0 := (hG.cell (p := ⟨b, off + k * 3, none⟩) hblA).trans i0
            have e1 := (hG.cell (p := ⟨b, off + k * 3 + 1, none⟩) hblA).trans i1
            have e2 := (hG.cell (p := ⟨b, off + k * 3 + 2, none⟩) hblA).trans i2
            go_simp
            exact hK _ _ rfl hG (Below.refl _ _)
          · intro a x hG hd hs K hK
            have h92 : a.tmps.getD 92 undef = .agg #[.string ⟨yn.toArray⟩, .int .i64 yi, .int .i64 yt] := hd 0 92 (by kernel_rfl)
            have h96 : a.tmps.getD 96 undef = .agg #[.string ⟨yn.toArray⟩, .int .i64 yi, .int .i64 yt] := hd 4 96 (by kernel_rfl)
            clear hd hs
            refine wpOp_plain rfl rfl ?_
            have hr := run_neqE ⟨yn, yi, yt⟩ ⟨yn, yi, yt⟩ x
            rw [decide_eq_true rfl] at hr
            refine wp_binop .neq _ _ _ _ rfl h92 h96 eqGuardE hr ?_
            exact hK _ _ rfl hG (Below.refl _ _)
          · intro a x hG hd hs K hK
            have h97 : a.tmps.getD 97 undef = .bool false := hd 5 97 (by kernel_rfl)
            clear hd hs
            refine wpOp_plain rfl rfl ?_
            go_simp
            exact hK _ _ rfl hG (Below.refl _ _)
          · intro a x hG hd hs K hK
            have h13 : a.tmps.getD 13 undef = .int .i64 0 := hs 13 (by kernel_rfl)
            have h98 : a.tmps.getD 98 undef = .bool false := hd 6 98 (by kernel_rfl)
            clear hd hs
            refine wpOp_yes rfl rfl rfl h98 ?_
            go_simp
            exact hK _ _ rfl hG (Below.refl _ _)
          · intro a x hG hd hs K hK
            have h99 : a.tmps.getD 99 undef = .int .i64 0 := hd 7 99 (by kernel_rfl)
            have h98 : a.tmps.getD 98 undef = .bool false := hd 6 98 (by kernel_rfl)
            clear hd hs
            refine wpOp_yes rfl rfl rfl h98 ?_
            go_simp
            exact hK _ _ rfl hG (Below.refl _ _)
          · intro a x hG hd hs K hK
            have h98 : a.tmps.getD 98 undef = .bool false := hd 6 98 (by kernel_rfl)
            have h100 : a.tmps.getD 100 undef = .bool false := hd 8 100 (by kernel_rfl)
            clear hd hs
            refine wpOp_plain rfl rfl ?_
            go_simp
            exact hK _ _ rfl hG (Below.refl _ _)
        · intro x hG
          rintro _ rfl _ rfl _ rfl _ rfl _ rfl _ rfl _ rfl _ rfl _ rfl _ rfl
          simp only [Act.put, List.setIfInBounds_toArray, List.set_cons_zero, List.set_cons_succ, REnd]
          try simp only [Exit.then]
          have d11 := d10.trans (hG.mono d10.size)
          clear i0 i1 i2 k12 d10 hG HFO
          go_wp2
          go_roundw
          case rel => exact ⟨k + 1, by omega, by go_num, d11⟩
          case measure => simp [intOf]; omega
      · obtain rfl : k = l.length := by omega
        obtain ⟨W, hW, k, hl, b⟩ : ∃ W, W = wr ∧ Blk W g 28 [.string ⟨xn.toArray⟩, .int .i64 xi, .int .i64 xt] ∧ Ents W W.heap.size (.slice A1 l.length c1) l ∧ Below w.heap.size w W := ⟨_, rfl, k8.ext hbr, (HLL.out.below hbr).more hbr.size, c8'.trans (hbr.mono c8'.size)⟩
        rw [← hW]
        clear hW

        have p0 : W.cell? ⟨g, 0, none⟩ = some (.string ⟨xn.toArray⟩) := k.cell 0
        go_wp2_with fail
        refine (take_any _ l xn W hl HSH.out hxn).mono ?_
        rintro e wt ⟨ut, rfl, hlt9, bt⟩
        have kt := k.ext bt
        have ct := b.trans (bt.mono b.size)
        clear p0 k bt
        by_cases hz : Et.srchE l xn = 0
        · rw [hz]
          have HG := Lib.hid (Et.take_gone hz)
          have HTM := Lib.hid (Et.take_may hz)
          have HTL := Lib.hid (Et.take_len hz)
          have HSR := Lib.hid (may_short HTM.out)
          clear hz
          generalize Et.takeL l xn = rr at *
          obtain ⟨A9, c9, rfl, h91, h92, _⟩ := hlt9.open_
          have p0 : wt.cell? ⟨g, 0, none⟩ = some (.string ⟨xn.toArray⟩) := kt.cell 0
          go_wp2_with fail
          refine (find_any _ rr xn wt hlt9 HSR.out hxn).mono ?_
          rintro e wf ⟨rfl, bf⟩
          rw [HG.out]
          have cf := ct.trans (bf.mono ct.size)
          have hlf := (hlt9.below bf).more bf.size
          clear p0 kt bf ct
          generalize Et.findL rr xn = yy at *
          unfold eagg
          have hlx0 := hlf.ext (Nat.le_refl _) ((Below.refl wf.heap.size wf).alloc (Nat.le_refl _) (.cells #[.string ⟨yy.n.toArray⟩, .int .i64 yy.i, .int .i64 yy.t] 28))
          have hlx9 := hlx0.more (World.size_le_alloc9 wf (.cells #[.string ⟨yy.n.toArray⟩, .int .i64 yy.i, .int .i64 yy.t] 28))
          have cx := cf.alloc cf.size (.cells #[.string ⟨yy.n.toArray⟩, .int .i64 yy.i, .int .i64 yy.t] 28)
          have hcc : ((rr.length : Int) != (l.length : Int) - 1) = false := by have := HTL.out; rw [bne_eq_false_iff_eq]; omega
          go_wp2_with fail
          generalize wf.alloc (.cells #[.string ⟨yy.n.toArray⟩, .int .i64 yy.i, .int .i64 yy.t] 28) = wx at *
          refine (may_any _ rr wx hlx9 HSR.out).mono ?_
          rintro e wm ⟨rfl, bm⟩
          rw [HTM.out]
          have cm := cx.trans (bm.mono cx.size)
          go_wp2_with fail
          refine (awake_any wm).mono ?_
          rintro e wa ⟨rfl, ba⟩
          go_wp2
          go_ret
          exact ⟨rfl, cm.trans (ba.mono cm.size)⟩
        · obtain ⟨er, her⟩ : ∃ er, Et.srchE l xn = er := ⟨_, rfl⟩
          rw [her] at hz ⊢
          have hz' : (er == 0) = false := beq_eq_false_iff_ne.2 hz
          clear hz her
          go_wp2_with fail
          refine (awake_any wt).mono ?_
          rintro e wa ⟨rfl, ba⟩
          go_wp2
          go_ret
          exact ⟨rfl, ct.trans (ba.mono ct.size)⟩

/-- What the walk gives, for every argument and every world that holds the table. -/
theorem entryBack_contract (H : Type) (enc : TypeId × Value → H) (W : World) (base : Nat) (args : Array Value) (ds gs : List (DataW H)) (before : List MemPlace)
    (hval : ∀ (j : Nat) t v, Try.f5.params[j]? = some t → args[j]? = some v → Value.okWide Try.prog W .any base t v)
    (hW : DataW.Whole enc Try.prog Try.f5.params.toList Rows.entryBackSpec.vars false W args.toList ds gs before) :
    Calls Try.prog 5 args W fun e W' => ∃ v, e = .returned v ∧ Rows.entryBackSpec.post enc Try.prog Try.f5 false true false false W args v W' := by
  have hW' := hW
  obtain ⟨p, q, hA0, hV, hps, hfz, hnd⟩ := hW
  have hA : DataW.TrodAll enc Try.prog W 0 (fun _ => true) true Try.f5.params.toList args.toList ds p := hA0
  rw [Try.params5] at hA hval
  obtain ⟨v0, vs0, d0, ds0, p0, q0, hargs, rfl, rfl, h0, r0⟩ := trodAll_cons hA
  obtain ⟨v1, vs1, d1, ds1, p1, q1, rfl, rfl, rfl, h1, r1⟩ := trodAll_cons r0
  obtain ⟨rfl, rfl, rfl⟩ := trodAll_nil r1
  obtain rfl : args = #[v0, v1] := by cases args; simp_all
  obtain ⟨rfl, rfl⟩ := trodVars_none hV
  obtain ⟨l0, b0⟩ := entries_of_trod (hval 0 22 v0 rfl rfl) h0
  obtain ⟨x1, rfl⟩ := entry_of_trod (hval 1 28 v1 rfl rfl) h1
  clear hA0
  refine (entryBack_walk W v0 l0 x1 b0).mono fun e W' ⟨he, hb⟩ => ?_
  subst he
  exact ⟨_, rfl, law_post laidOut (by rw [Try.params5]; decide +kernel) rfl Try.underlying4 rfl rfl hW' hb⟩

set_option maxRecDepth 100000 in
theorem entryBack_lifted (os : Os) (started : os.Started) (H : Type) (enc : TypeId × Value → H) :
    ReturnsInHanded {} Try.checked os 5 .any (Rows.entryBackSpec.pre6 enc Try.prog Try.f5 Rows.entryBackRow.domain false) (Rows.entryBackSpec.post enc Try.prog Try.f5 false true false false) := by
  refine returnsInHanded_of_change (C := Try.checked) own started (by kernel_rfl) Try.func5
    (ChangeSpec.witness6 (enc := enc) (C := Try.checked) false ⟨#[], #[.slice none 0 0, .agg #[.string .empty, .int .i64 0, .int .i64 0]], []⟩ 8 (by kernel_rfl) (by kernel_rfl) (by kernel_rfl) (by kernel_rfl)) ?_
  intro W base args ds gs before hval hW _ _
  exact entryBack_contract H enc W base args ds gs before hval hW

theorem entryBack_holds : Rows.EntryBackSaid :=
  OpenClaim.holds_of_wide 5 Try.f5 rfl rfl rfl rfl rfl rfl rfl ⟨rfl, rfl, rfl, rfl, rfl⟩ rfl rfl rfl rfl rfl (by kernel_rfl) Try.func5 (by kernel_rfl)
    (of_decide_eq_true (by kernel_rfl)) (by unfold Func.isWrapper; first | (rw [if_pos (by decide +kernel)]; kernel_rfl) | (rw [if_neg (by decide +kernel)]; exact ⟨rfl, rfl⟩))
    (fun os started H enc _ => entryBack_lifted os started H enc)

end Go.Proofs.Ytahkhieoabbaaaa
