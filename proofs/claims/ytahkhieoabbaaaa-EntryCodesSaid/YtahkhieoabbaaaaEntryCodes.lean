/-
  EntryCodes: the octets of any entries are the document's, or refused, and are read as they were; whatever octets there are are the document's entries, or refused. For every input.
-/
import Derived.Test.YtahkhieoabbaaaaEntO
import Derived.Test.YtahkhieoabbaaaaEntX
import Derived.Test.YtahkhieoabbaaaaEntY
namespace Go.Proofs.Ytahkhieoabbaaaa
open Go.ChangeShapes Go.WideShapes Go.ChangeAt Go.RowKit Go.Lib
open Et (E)

set_option maxRecDepth 100000 in
set_option maxHeartbeats 8000000 in
theorem entryCodes_walk (w : World) (v u : Value) (l0 : List E) (q : List UInt8) (hl0 : Ents w w.heap.size v l0) (hq : Bs w w.heap.size u q) :
    Calls Try.prog 6 #[v, u] w fun e w' => e = .returned (.bool true) ∧ Below w.heap.size w w' := by
  obtain ⟨A, c, rfl, hlc, hcm, _⟩ := hl0.open_
  obtain ⟨Aq, cq, rfl, hqc, hqm, _⟩ := hq.open_
  go_enter Try.func6, Try.ntmps6
  go_wp2_with fail
  refine (Few_any _ l0 w hl0).mono ?_
  rintro e w1 ⟨u1, rfl, ho1, b1⟩
  have HSH := Lib.hid (few_short l0)
  have hlen := few_len l0
  clear hl0 hlc hcm
  generalize fewL l0 = l at *
  obtain ⟨A1, c1, rfl⟩ := own_slice ho1
  have hl1 : Ents w1 w1.heap.size (.slice A1 l.length c1) l := Ents.of_own ho1 rfl rfl
  have hq1 := (hq.ext (Nat.le_refl _) b1).more b1.size
  clear ho1 hq
  by_cases h9 : 900 < q.length
  · have h9' : (900 : Int) < (q.length : Int) := by omega
    have hhd := fun W => run_headB Aq q.length cq 900 (by omega) (900 : Int) rfl W
    have hb9 := Bs.head hq1 (show 900 ≤ q.length by omega)
    have hp9 : (q.take 900).length = 900 := by rw [List.length_take]; omega
    clear h9 hq1
    generalize q.take 900 = p at *
    go_wp2_with fail
    refine (decode_any _ p w1 hb9).mono ?_
    rintro e wD ⟨ux, rfl, hxD, bD⟩
    have hlD := (hl1.below bD).more bD.size
    have hbD := (hb9.ext (Nat.le_refl _) bD).more bD.size
    have cD := b1.trans (bD.mono b1.size)
    have HDT : Hid (Et.decOk p = true → decE p = 0) := Lib.hid (fun h => by unfold decE; rw [h]; rfl)
    have HDF : Hid (Et.decOk p = false → decE p = 3) := Lib.hid (fun h => by unfold decE; rw [h]; rfl)
    clear bD hl1 hb9 b1 hhd h9'
    obtain ⟨Ax, cpx, rfl, _, _, _⟩ := hxD.open_
    have cv := run_string_of (P := Try.prog) hbD 29 9 5 Try.underlying29 Try.underlying5 Try.underlying9
    go_wp2_with fail
    refine (decodeR_any p wD (by omega)).mono ?_
    rintro e wR ⟨uR, rfl, hyR, bR⟩
    have hlR := (hlD.below bR).more bR.size
    have hxR := (hxD.below bR).more bR.size
    have cR := cD.trans (bR.mono cD.size)
    obtain ⟨AR, cpR, rfl, _, _, _⟩ := hyR.open_
    clear cv bR hbD hlD hxD cD
    generalize Et.decL p = dl at *
    cases hd : Et.decOk p with
    | false =>
      rw [HDF.out hd]
      clear hd
      go_wp2_with fail
      refine (same_any _ _ dl dl wR hxR hyR).mono ?_
      rintro e wS ⟨rfl, bS⟩
      rw [decide_eq_true (rfl : dl = dl)]
      have hlS := (hlR.below bS).more bS.size
      have cS := cR.trans (bS.mono cR.size)
      clear bS hlR hxR hyR cR
      go_wp2_with fail
      refine (may_any _ l wS hlS HSH.out).mono ?_
      rintro e wM ⟨rfl, bM⟩
      have hlM := (hlS.below bM).more bM.size
      have cM := cS.trans (bM.mono cS.size)
      clear bM hlS cS
      go_wp2_with fail
      refine (mayR_any _ l wM hlM HSH.out).mono ?_
      rintro e wN ⟨rfl, bN⟩
      have hlN : Ents wN wN.heap.size (.slice A1 l.length c1) l := (hlM.below bN).more bN.size
      have cN := cM.trans (bN.mono cM.size)
      clear bN hlM cM
      clear HDF HDT
      cases hml : Et.mayB l with
      | false =>
        have HM := Lib.hid hml
        clear hml
        go_wp2_with fail
        refine (enc_no _ l wN hlN HSH.out HM.out).mono ?_
        rintro e wE ⟨rfl, bE⟩
        have hlE := (hlN.below bE).more bE.size
        have cE := cN.trans (bE.mono cN.size)
        clear bE hlN cN
        go_wp2_with fail
        refine (mayR_any _ l wE hlE HSH.out).mono ?_
        rintro e wF ⟨rfl, bF⟩
        rw [HM.out]
        have cF := cE.trans (bF.mono cE.size)
        clear bF hlE cE
        go_wp2_with fail
        refine (awake_any wF).mono ?_
        rintro e wG ⟨rfl, bG⟩
        go_wp2
        go_ret
        exact ⟨rfl, cF.trans (bG.mono cF.size)⟩
      | true =>
        have HM := Lib.hid hml
        clear hml
        go_wp2_with fail
        refine (enc_any _ l wN hlN HSH.out HM.out).mono ?_
        rintro e wE ⟨us, rfl, hsE, bE⟩
        have hlE := (hlN.below bE).more bE.size
        have cE := cN.trans (bE.mono cN.size)
        clear bE hlN cN
        have HBK := Lib.hid (Et.dec_back HM.out)
        have HDE : Hid (decE (Et.enc l) = 0) := Lib.hid (by unfold decE; rw [HBK.out.1]; rfl)
        obtain ⟨As, cs, rfl, _, _, _⟩ := hsE.open_
        go_wp2_with fail
        refine (mayR_any _ l wE hlE HSH.out).mono ?_
        rintro e wF ⟨rfl, bF⟩
        rw [HM.out]
        have hlF := (hlE.below bF).more bF.size
        have hsF := (hsE.ext (Nat.le_refl _) bF).more bF.size
        have cF := cE.trans (bF.mono cE.size)
        clear bF hlE hsE cE
        go_wp2_with fail
        refine (decode_any _ (Et.enc l) wF hsF).mono ?_
        rintro e wG ⟨um, rfl, hmG, bG⟩
        rw [HDE.out]
        rw [HBK.out.2] at hmG
        have hlG := (hlF.below bG).more bG.size
        have hsG := (hsF.ext (Nat.le_refl _) bG).more bG.size
        have cG := cF.trans (bG.mono cF.size)
        clear bG hlF hsF cF HBK HDE
        obtain ⟨Am, cm, rfl, _, _, _⟩ := hmG.open_
        obtain ⟨S, hS⟩ : ∃ S, (⟨(Et.enc l).toArray⟩ : ByteArray) = S := ⟨_, rfl⟩
        have HS := Lib.hid hS
        have HSG := Lib.hid hsG
        have HMG := Lib.hid hmG
        have HLG := Lib.hid hlG
        clear hS hsG hmG hlG
        go_upto_region 12 with fail
        have hG0 : Below wG.heap.size wG wG.drew := (Below.refl _ _).drew
        refine wp_region_list 22 [(fun y_ _ => y_ = .slice As (Et.enc l).length cs),
          (fun y_ _ => y_ = .string S),
          (fun y_ _ => y_ = .slice A1 l.length c1),
          (fun y_ _ => y_ = .string S),
          (fun y_ _ => y_ = .bool true),
          (fun y_ _ => y_ = .bool true),
          (fun y_ _ => y_ = .int .i64 0),
          (fun y_ _ => y_ = .bool true),
          (fun y_ _ => y_ = .bool true),
          (fun y_ _ => y_ = .bool true),
          (fun y_ _ => y_ = .slice Am l.length cm),
          (fun y_ _ => y_ = .slice A1 l.length c1),
          (fun y_ _ => y_ = .bool true),
          (fun y_ _ => y_ = .bool true),
          (fun y_ _ => y_ = .bool true),
          (fun y_ _ => y_ = .int .i64 0),
          (fun y_ _ => y_ = .bool true),
          (fun y_ _ => y_ = .bool true),
          (fun y_ _ => y_ = .bool true),
          (fun y_ _ => y_ = .bool true),
          (fun y_ _ => y_ = .bool true),
          (fun y_ _ => y_ = .bool true)]
          (fun q => Below wG.heap.size wG q) (by kernel_rfl) rfl (by kernel_rfl) ?_ ?_ ?_ ?_
        · exact hG0
        · exact ⟨stab_eq _, stab_eq _, stab_eq _, stab_eq _, stab_eq _, stab_eq _, stab_eq _, stab_eq _, stab_eq _, stab_eq _, stab_eq _, stab_eq _, stab_eq _, stab_eq _, stab_eq _, stab_eq _, stab_eq _, stab_eq _, stab_eq _, stab_eq _, stab_eq _, stab_eq _, trivial⟩
        · refine ⟨?_, ?_, ?_, ?_, ?_, ?_, ?_, ?_, ?_, ?_, ?_, ?_, ?_, ?_, ?_, ?_, ?_, ?_, ?_, ?_, ?_, ?_, trivial⟩
          · intro a x hG hd hs K hK
            have h9 : a.tmps.getD 9 undef = .slice As (Et.enc l).length cs := hs 9 (by kernel_rfl)
            clear hd hs
            refine wpOp_plain rfl rfl ?_
            go_simp
            exact hK _ _ rfl hG (Below.refl _ _)
          · intro a x hG hd hs K hK
            have h79 : a.tmps.getD 79 undef = .slice As (Et.enc l).length cs := hd 0 79 (by kernel_rfl)
            clear hd hs
            refine wpOp_plain rfl rfl ?_
            have cv := run_string_of (P := Try.prog) (HSG.out.ext (Nat.le_refl _) hG) 29 9 5 Try.underlying29 Try.underlying5 Try.underlying9
            rw [HS.out] at cv
            go_simp
            exact hK _ _ rfl hG (Below.refl _ _)
          · intro a x hG hd hs K hK
            have h0 : a.tmps.getD 0 undef = .slice A1 l.length c1 := hs 0 (by kernel_rfl)
            clear hd hs
            refine wpOp_plain rfl rfl ?_
            go_simp
            exact hK _ _ rfl hG (Below.refl _ _)
          · intro a x hG hd hs K hK
            have h81 : a.tmps.getD 81 undef = .slice A1 l.length c1 := hd 2 81 (by kernel_rfl)
            clear hd hs
            refine wpOp_plain rfl rfl ?_
            go_simp
            refine (encR_any _ l x ((HLG.out.below hG).more hG.size) HM.out).mono ?_
            rintro e w' ⟨rfl, hb⟩
            rw [HS.out]
            exact hK _ _ rfl (hG.trans (hb.mono hG.size)) hb
          · intro a x hG hd hs K hK
            have h80 : a.tmps.getD 80 undef = .string S := hd 1 80 (by kernel_rfl)
            have h82 : a.tmps.getD 82 undef = .string S := hd 3 82 (by kernel_rfl)
            clear hd hs
            refine wpOp_plain rfl rfl ?_
            go_simp
            exact hK _ _ rfl hG (Below.refl _ _)
          · intro a x hG hd hs K hK
            have h83 : a.tmps.getD 83 undef = .bool true := hd 4 83 (by kernel_rfl)
            clear hd hs
            refine wpOp_plain rfl rfl ?_
            go_simp
            exact hK _ _ rfl hG (Below.refl _ _)
          · intro a x hG hd hs K hK
            have h10 : a.tmps.getD 10 undef = .int .i64 0 := hs 10 (by kernel_rfl)
            have h84 : a.tmps.getD 84 undef = .bool true := hd 5 84 (by kernel_rfl)
            clear hd hs
            refine wpOp_yes rfl rfl rfl h84 ?_
            go_simp
            exact hK _ _ rfl hG (Below.refl _ _)
          · intro a x hG hd hs K hK
            have h85 : a.tmps.getD 85 undef = .int .i64 0 := hd 6 85 (by kernel_rfl)
            have h84 : a.tmps.getD 84 undef = .bool true := hd 5 84 (by kernel_rfl)
            clear hd hs
            refine wpOp_yes rfl rfl rfl h84 ?_
            go_simp
            exact hK _ _ rfl hG (Below.refl _ _)
          · intro a x hG hd hs K hK
            have h84 : a.tmps.getD 84 undef = .bool true := hd 5 84 (by kernel_rfl)
            have h86 : a.tmps.getD 86 undef = .bool true := hd 7 86 (by kernel_rfl)
            clear hd hs
            refine wpOp_plain rfl rfl ?_
            go_simp
            exact hK _ _ rfl hG (Below.refl _ _)
          · intro a x hG hd hs K hK
            have h87 : a.tmps.getD 87 undef = .bool true := hd 8 87 (by kernel_rfl)
            clear hd hs
            refine wpOp_plain rfl rfl ?_
            go_simp
            exact hK _ _ rfl hG (Below.refl _ _)
          · intro a x hG hd hs K hK
            have h11 : a.tmps.getD 11 undef = .slice Am l.length cm := hs 11 (by kernel_rfl)
            have h88 : a.tmps.getD 88 undef = .bool true := hd 9 88 (by kernel_rfl)
            clear hd hs
            refine wpOp_yes rfl rfl rfl h88 ?_
            go_simp
            exact hK _ _ rfl hG (Below.refl _ _)
          · intro a x hG hd hs K hK
            have h0 : a.tmps.getD 0 undef = .slice A1 l.length c1 := hs 0 (by kernel_rfl)
            have h88 : a.tmps.getD 88 undef = .bool true := hd 9 88 (by kernel_rfl)
            clear hd hs
            refine wpOp_yes rfl rfl rfl h88 ?_
            go_simp
            exact hK _ _ rfl hG (Below.refl _ _)
          · intro a x hG hd hs K hK
            have h89 : a.tmps.getD 89 undef = .slice Am l.length cm := hd 10 89 (by kernel_rfl)
            have h90 : a.tmps.getD 90 undef = .slice A1 l.length c1 := hd 11 90 (by kernel_rfl)
            have h88 : a.tmps.getD 88 undef = .bool true := hd 9 88 (by kernel_rfl)
            clear hd hs
            refine wpOp_yes rfl rfl rfl h88 ?_
            go_simp
            refine (same_any _ _ l l x ((HMG.out.below hG).more hG.size) ((HLG.out.below hG).more hG.size)).mono ?_
            rintro e w' ⟨rfl, hb⟩
            rw [decide_eq_true (rfl : l = l)]
            exact hK _ _ rfl (hG.trans (hb.mono hG.size)) hb
          · intro a x hG hd hs K hK
            have h88 : a.tmps.getD 88 undef = .bool true := hd 9 88 (by kernel_rfl)
            have h91 : a.tmps.getD 91 undef = .bool true := hd 12 91 (by kernel_rfl)
            clear hd hs
            refine wpOp_plain rfl rfl ?_
            go_simp
            exact hK _ _ rfl hG (Below.refl _ _)
          · intro a x hG hd hs K hK
            have h92 : a.tmps.getD 92 undef = .bool true := hd 13 92 (by kernel_rfl)
            clear hd hs
            refine wpOp_plain rfl rfl ?_
            go_simp
            exact hK _ _ rfl hG (Below.refl _ _)
          · intro a x hG hd hs K hK
            have h12 : a.tmps.getD 12 undef = .int .i64 0 := hs 12 (by kernel_rfl)
            have h93 : a.tmps.getD 93 undef = .bool true := hd 14 93 (by kernel_rfl)
            clear hd hs
            refine wpOp_yes rfl rfl rfl h93 ?_
            go_simp
            exact hK _ _ rfl hG (Below.refl _ _)
          · intro a x hG hd hs K hK
            have h94 : a.tmps.getD 94 undef = .int .i64 0 := hd 15 94 (by kernel_rfl)
            have h93 : a.tmps.getD 93 undef = .bool true := hd 14 93 (by kernel_rfl)
            clear hd hs
            refine wpOp_yes rfl rfl rfl h93 ?_
            go_simp
            exact hK _ _ rfl hG (Below.refl _ _)
          · intro a x hG hd hs K hK
            have h93 : a.tmps.getD 93 undef = .bool true := hd 14 93 (by kernel_rfl)
            have h95 : a.tmps.getD 95 undef = .bool true := hd 16 95 (by kernel_rfl)
            clear hd hs
            refine wpOp_plain rfl rfl ?_
            go_simp
            exact hK _ _ rfl hG (Below.refl _ _)
          · intro a x hG hd hs K hK
            have h96 : a.tmps.getD 96 undef = .bool true := hd 17 96 (by kernel_rfl)
            clear hd hs
            refine wpOp_plain rfl rfl ?_
            go_simp
            exact hK _ _ rfl hG (Below.refl _ _)
          · intro a x hG hd hs K hK
            have h97 : a.tmps.getD 97 undef = .bool true := hd 18 97 (by kernel_rfl)
            clear hd hs
            refine wpOp_yes rfl rfl rfl h97 ?_
            go_simp
            refine (awake_any x).mono ?_
            rintro e w' ⟨rfl, hb⟩
            exact hK _ _ rfl (hG.trans (hb.mono hG.size)) hb
          · intro a x hG hd hs K hK
            have h97 : a.tmps.getD 97 undef = .bool true := hd 18 97 (by kernel_rfl)
            have h98 : a.tmps.getD 98 undef = .bool true := hd 19 98 (by kernel_rfl)
            clear hd hs
            refine wpOp_plain rfl rfl ?_
            go_simp
            exact hK _ _ rfl hG (Below.refl _ _)
          · intro a x hG hd hs K hK
            have h99 : a.tmps.getD 99 undef = .bool true := hd 20 99 (by kernel_rfl)
            clear hd hs
            refine wpOp_plain rfl rfl ?_
            go_simp
            exact hK _ _ rfl hG (Below.refl _ _)
        · intro x hG
          rintro _ rfl _ rfl _ rfl _ rfl _ rfl _ rfl _ rfl _ rfl _ rfl _ rfl _ rfl _ rfl _ rfl _ rfl _ rfl _ rfl _ rfl _ rfl _ rfl _ rfl _ rfl _ rfl
          simp only [Act.put, List.setIfInBounds_toArray, List.set_cons_zero, List.set_cons_succ, REnd]
          try simp only [Exit.then]
          have cx := cG.trans (hG.mono cG.size)
          go_wp2
          go_ret
          exact ⟨rfl, cx⟩
    | true =>
      rw [HDT.out hd]
      clear hd
      go_wp2_with fail
      refine (same_any _ _ dl dl wR hxR hyR).mono ?_
      rintro e wS ⟨rfl, bS⟩
      rw [decide_eq_true (rfl : dl = dl)]
      have hlS := (hlR.below bS).more bS.size
      have cS := cR.trans (bS.mono cR.size)
      clear bS hlR hxR hyR cR
      go_wp2_with fail
      refine (may_any _ l wS hlS HSH.out).mono ?_
      rintro e wM ⟨rfl, bM⟩
      have hlM := (hlS.below bM).more bM.size
      have cM := cS.trans (bM.mono cS.size)
      clear bM hlS cS
      go_wp2_with fail
      refine (mayR_any _ l wM hlM HSH.out).mono ?_
      rintro e wN ⟨rfl, bN⟩
      have hlN : Ents wN wN.heap.size (.slice A1 l.length c1) l := (hlM.below bN).more bN.size
      have cN := cM.trans (bN.mono cM.size)
      clear bN hlM cM
      clear HDF HDT
      cases hml : Et.mayB l with
      | false =>
        have HM := Lib.hid hml
        clear hml
        go_wp2_with fail
        refine (enc_no _ l wN hlN HSH.out HM.out).mono ?_
        rintro e wE ⟨rfl, bE⟩
        have hlE := (hlN.below bE).more bE.size
        have cE := cN.trans (bE.mono cN.size)
        clear bE hlN cN
        go_wp2_with fail
        refine (mayR_any _ l wE hlE HSH.out).mono ?_
        rintro e wF ⟨rfl, bF⟩
        rw [HM.out]
        have cF := cE.trans (bF.mono cE.size)
        clear bF hlE cE
        go_wp2_with fail
        refine (awake_any wF).mono ?_
        rintro e wG ⟨rfl, bG⟩
        go_wp2
        go_ret
        exact ⟨rfl, cF.trans (bG.mono cF.size)⟩
      | true =>
        have HM := Lib.hid hml
        clear hml
        go_wp2_with fail
        refine (enc_any _ l wN hlN HSH.out HM.out).mono ?_
        rintro e wE ⟨us, rfl, hsE, bE⟩
        have hlE := (hlN.below bE).more bE.size
        have cE := cN.trans (bE.mono cN.size)
        clear bE hlN cN
        have HBK := Lib.hid (Et.dec_back HM.out)
        have HDE : Hid (decE (Et.enc l) = 0) := Lib.hid (by unfold decE; rw [HBK.out.1]; rfl)
        obtain ⟨As, cs, rfl, _, _, _⟩ := hsE.open_
        go_wp2_with fail
        refine (mayR_any _ l wE hlE HSH.out).mono ?_
        rintro e wF ⟨rfl, bF⟩
        rw [HM.out]
        have hlF := (hlE.below bF).more bF.size
        have hsF := (hsE.ext (Nat.le_refl _) bF).more bF.size
        have cF := cE.trans (bF.mono cE.size)
        clear bF hlE hsE cE
        go_wp2_with fail
        refine (decode_any _ (Et.enc l) wF hsF).mono ?_
        rintro e wG ⟨um, rfl, hmG, bG⟩
        rw [HDE.out]
        rw [HBK.out.2] at hmG
        have hlG := (hlF.below bG).more bG.size
        have hsG := (hsF.ext (Nat.le_refl _) bG).more bG.size
        have cG := cF.trans (bG.mono cF.size)
        clear bG hlF hsF cF HBK HDE
        obtain ⟨Am, cm, rfl, _, _, _⟩ := hmG.open_
        obtain ⟨S, hS⟩ : ∃ S, (⟨(Et.enc l).toArray⟩ : ByteArray) = S := ⟨_, rfl⟩
        have HS := Lib.hid hS
        have HSG := Lib.hid hsG
        have HMG := Lib.hid hmG
        have HLG := Lib.hid hlG
        clear hS hsG hmG hlG
        go_upto_region 12 with fail
        have hG0 : Below wG.heap.size wG wG.drew := (Below.refl _ _).drew
        refine wp_region_list 22 [(fun y_ _ => y_ = .slice As (Et.enc l).length cs),
          (fun y_ _ => y_ = .string S),
          (fun y_ _ => y_ = .slice A1 l.length c1),
          (fun y_ _ => y_ = .string S),
          (fun y_ _ => y_ = .bool true),
          (fun y_ _ => y_ = .bool true),
          (fun y_ _ => y_ = .int .i64 0),
          (fun y_ _ => y_ = .bool true),
          (fun y_ _ => y_ = .bool true),
          (fun y_ _ => y_ = .bool true),
          (fun y_ _ => y_ = .slice Am l.length cm),
          (fun y_ _ => y_ = .slice A1 l.length c1),
          (fun y_ _ => y_ = .bool true),
          (fun y_ _ => y_ = .bool true),
          (fun y_ _ => y_ = .bool true),
          (fun y_ _ => y_ = .int .i64 0),
          (fun y_ _ => y_ = .bool true),
          (fun y_ _ => y_ = .bool true),
          (fun y_ _ => y_ = .bool true),
          (fun y_ _ => y_ = .bool true),
          (fun y_ _ => y_ = .bool true),
          (fun y_ _ => y_ = .bool true)]
          (fun q => Below wG.heap.size wG q) (by kernel_rfl) rfl (by kernel_rfl) ?_ ?_ ?_ ?_
        · exact hG0
        · exact ⟨stab_eq _, stab_eq _, stab_eq _, stab_eq _, stab_eq _, stab_eq _, stab_eq _, stab_eq _, stab_eq _, stab_eq _, stab_eq _, stab_eq _, stab_eq _, stab_eq _, stab_eq _, stab_eq _, stab_eq _, stab_eq _, stab_eq _, stab_eq _, stab_eq _, stab_eq _, trivial⟩
        · refine ⟨?_, ?_, ?_, ?_, ?_, ?_, ?_, ?_, ?_, ?_, ?_, ?_, ?_, ?_, ?_, ?_, ?_, ?_, ?_, ?_, ?_, ?_, trivial⟩
          · intro a x hG hd hs K hK
            have h9 : a.tmps.getD 9 undef = .slice As (Et.enc l).length cs := hs 9 (by kernel_rfl)
            clear hd hs
            refine wpOp_plain rfl rfl ?_
            go_simp
            exact hK _ _ rfl hG (Below.refl _ _)
          · intro a x hG hd hs K hK
            have h79 : a.tmps.getD 79 undef = .slice As (Et.enc l).length cs := hd 0 79 (by kernel_rfl)
            clear hd hs
            refine wpOp_plain rfl rfl ?_
            have cv := run_string_of (P := Try.prog) (HSG.out.ext (Nat.le_refl _) hG) 29 9 5 Try.underlying29 Try.underlying5 Try.underlying9
            rw [HS.out] at cv
            go_simp
            exact hK _ _ rfl hG (Below.refl _ _)
          · intro a x hG hd hs K hK
            have h0 : a.tmps.getD 0 undef = .slice A1 l.length c1 := hs 0 (by kernel_rfl)
            clear hd hs
            refine wpOp_plain rfl rfl ?_
            go_simp
            exact hK _ _ rfl hG (Below.refl _ _)
          · intro a x hG hd hs K hK
            have h81 : a.tmps.getD 81 undef = .slice A1 l.length c1 := hd 2 81 (by kernel_rfl)
            clear hd hs
            refine wpOp_plain rfl rfl ?_
            go_simp
            refine (encR_any _ l x ((HLG.out.below hG).more hG.size) HM.out).mono ?_
            rintro e w' ⟨rfl, hb⟩
            rw [HS.out]
            exact hK _ _ rfl (hG.trans (hb.mono hG.size)) hb
          · intro a x hG hd hs K hK
            have h80 : a.tmps.getD 80 undef = .string S := hd 1 80 (by kernel_rfl)
            have h82 : a.tmps.getD 82 undef = .string S := hd 3 82 (by kernel_rfl)
            clear hd hs
            refine wpOp_plain rfl rfl ?_
            go_simp
            exact hK _ _ rfl hG (Below.refl _ _)
          · intro a x hG hd hs K hK
            have h83 : a.tmps.getD 83 undef = .bool true := hd 4 83 (by kernel_rfl)
            clear hd hs
            refine wpOp_plain rfl rfl ?_
            go_simp
            exact hK _ _ rfl hG (Below.refl _ _)
          · intro a x hG hd hs K hK
            have h10 : a.tmps.getD 10 undef = .int .i64 0 := hs 10 (by kernel_rfl)
            have h84 : a.tmps.getD 84 undef = .bool true := hd 5 84 (by kernel_rfl)
            clear hd hs
            refine wpOp_yes rfl rfl rfl h84 ?_
            go_simp
            exact hK _ _ rfl hG (Below.refl _ _)
          · intro a x hG hd hs K hK
            have h85 : a.tmps.getD 85 undef = .int .i64 0 := hd 6 85 (by kernel_rfl)
            have h84 : a.tmps.getD 84 undef = .bool true := hd 5 84 (by kernel_rfl)
            clear hd hs
            refine wpOp_yes rfl rfl rfl h84 ?_
            go_simp
            exact hK _ _ rfl hG (Below.refl _ _)
          · intro a x hG hd hs K hK
            have h84 : a.tmps.getD 84 undef = .bool true := hd 5 84 (by kernel_rfl)
            have h86 : a.tmps.getD 86 undef = .bool true := hd 7 86 (by kernel_rfl)
            clear hd hs
            refine wpOp_plain rfl rfl ?_
            go_simp
            exact hK _ _ rfl hG (Below.refl _ _)
          · intro a x hG hd hs K hK
            have h87 : a.tmps.getD 87 undef = .bool true := hd 8 87 (by kernel_rfl)
            clear hd hs
            refine wpOp_plain rfl rfl ?_
            go_simp
            exact hK _ _ rfl hG (Below.refl _ _)
          · intro a x hG hd hs K hK
            have h11 : a.tmps.getD 11 undef = .slice Am l.length cm := hs 11 (by kernel_rfl)
            have h88 : a.tmps.getD 88 undef = .bool true := hd 9 88 (by kernel_rfl)
            clear hd hs
            refine wpOp_yes rfl rfl rfl h88 ?_
            go_simp
            exact hK _ _ rfl hG (Below.refl _ _)
          · intro a x hG hd hs K hK
            have h0 : a.tmps.getD 0 undef = .slice A1 l.length c1 := hs 0 (by kernel_rfl)
            have h88 : a.tmps.getD 88 undef = .bool true := hd 9 88 (by kernel_rfl)
            clear hd hs
            refine wpOp_yes rfl rfl rfl h88 ?_
            go_simp
            exact hK _ _ rfl hG (Below.refl _ _)
          · intro a x hG hd hs K hK
            have h89 : a.tmps.getD 89 undef = .slice Am l.length cm := hd 10 89 (by kernel_rfl)
            have h90 : a.tmps.getD 90 undef = .slice A1 l.length c1 := hd 11 90 (by kernel_rfl)
            have h88 : a.tmps.getD 88 undef = .bool true := hd 9 88 (by kernel_rfl)
            clear hd hs
            refine wpOp_yes rfl rfl rfl h88 ?_
            go_simp
            refine (same_any _ _ l l x ((HMG.out.below hG).more hG.size) ((HLG.out.below hG).more hG.size)).mono ?_
            rintro e w' ⟨rfl, hb⟩
            rw [decide_eq_true (rfl : l = l)]
            exact hK _ _ rfl (hG.trans (hb.mono hG.size)) hb
          · intro a x hG hd hs K hK
            have h88 : a.tmps.getD 88 undef = .bool true := hd 9 88 (by kernel_rfl)
            have h91 : a.tmps.getD 91 undef = .bool true := hd 12 91 (by kernel_rfl)
            clear hd hs
            refine wpOp_plain rfl rfl ?_
            go_simp
            exact hK _ _ rfl hG (Below.refl _ _)
          · intro a x hG hd hs K hK
            have h92 : a.tmps.getD 92 undef = .bool true := hd 13 92 (by kernel_rfl)
            clear hd hs
            refine wpOp_plain rfl rfl ?_
            go_simp
            exact hK _ _ rfl hG (Below.refl _ _)
          · intro a x hG hd hs K hK
            have h12 : a.tmps.getD 12 undef = .int .i64 0 := hs 12 (by kernel_rfl)
            have h93 : a.tmps.getD 93 undef = .bool true := hd 14 93 (by kernel_rfl)
            clear hd hs
            refine wpOp_yes rfl rfl rfl h93 ?_
            go_simp
            exact hK _ _ rfl hG (Below.refl _ _)
          · intro a x hG hd hs K hK
            have h94 : a.tmps.getD 94 undef = .int .i64 0 := hd 15 94 (by kernel_rfl)
            have h93 : a.tmps.getD 93 undef = .bool true := hd 14 93 (by kernel_rfl)
            clear hd hs
            refine wpOp_yes rfl rfl rfl h93 ?_
            go_simp
            exact hK _ _ rfl hG (Below.refl _ _)
          · intro a x hG hd hs K hK
            have h93 : a.tmps.getD 93 undef = .bool true := hd 14 93 (by kernel_rfl)
            have h95 : a.tmps.getD 95 undef = .bool true := hd 16 95 (by kernel_rfl)
            clear hd hs
            refine wpOp_plain rfl rfl ?_
            go_simp
            exact hK _ _ rfl hG (Below.refl _ _)
          · intro a x hG hd hs K hK
            have h96 : a.tmps.getD 96 undef = .bool true := hd 17 96 (by kernel_rfl)
            clear hd hs
            refine wpOp_plain rfl rfl ?_
            go_simp
            exact hK _ _ rfl hG (Below.refl _ _)
          · intro a x hG hd hs K hK
            have h97 : a.tmps.getD 97 undef = .bool true := hd 18 97 (by kernel_rfl)
            clear hd hs
            refine wpOp_yes rfl rfl rfl h97 ?_
            go_simp
            refine (awake_any x).mono ?_
            rintro e w' ⟨rfl, hb⟩
            exact hK _ _ rfl (hG.trans (hb.mono hG.size)) hb
          · intro a x hG hd hs K hK
            have h97 : a.tmps.getD 97 undef = .bool true := hd 18 97 (by kernel_rfl)
            have h98 : a.tmps.getD 98 undef = .bool true := hd 19 98 (by kernel_rfl)
            clear hd hs
            refine wpOp_plain rfl rfl ?_
            go_simp
            exact hK _ _ rfl hG (Below.refl _ _)
          · intro a x hG hd hs K hK
            have h99 : a.tmps.getD 99 undef = .bool true := hd 20 99 (by kernel_rfl)
            clear hd hs
            refine wpOp_plain rfl rfl ?_
            go_simp
            exact hK _ _ rfl hG (Below.refl _ _)
        · intro x hG
          rintro _ rfl _ rfl _ rfl _ rfl _ rfl _ rfl _ rfl _ rfl _ rfl _ rfl _ rfl _ rfl _ rfl _ rfl _ rfl _ rfl _ rfl _ rfl _ rfl _ rfl _ rfl _ rfl
          simp only [Act.put, List.setIfInBounds_toArray, List.set_cons_zero, List.set_cons_succ, REnd]
          try simp only [Exit.then]
          have cx := cG.trans (hG.mono cG.size)
          go_wp2
          go_ret
          exact ⟨rfl, cx⟩
  · have h9' : ¬ (900 : Int) < (q.length : Int) := by omega
    go_wp2_with fail
    refine (decode_any _ q w1 hq1).mono ?_
    rintro e wD ⟨ux, rfl, hxD, bD⟩
    have hlD := (hl1.below bD).more bD.size
    have hbD := (hq1.ext (Nat.le_refl _) bD).more bD.size
    have cD := b1.trans (bD.mono b1.size)
    have HDT : Hid (Et.decOk q = true → decE q = 0) := Lib.hid (fun h => by unfold decE; rw [h]; rfl)
    have HDF : Hid (Et.decOk q = false → decE q = 3) := Lib.hid (fun h => by unfold decE; rw [h]; rfl)
    have hp9 : q.length ≤ 900 := by omega
    clear bD hl1 hq1 b1 h9'
    obtain ⟨Ax, cpx, rfl, _, _, _⟩ := hxD.open_
    generalize q = p at *
    have cv := run_string_of (P := Try.prog) hbD 29 9 5 Try.underlying29 Try.underlying5 Try.underlying9
    go_wp2_with fail
    refine (decodeR_any p wD (by omega)).mono ?_
    rintro e wR ⟨uR, rfl, hyR, bR⟩
    have hlR := (hlD.below bR).more bR.size
    have hxR := (hxD.below bR).more bR.size
    have cR := cD.trans (bR.mono cD.size)
    obtain ⟨AR, cpR, rfl, _, _, _⟩ := hyR.open_
    clear cv bR hbD hlD hxD cD
    generalize Et.decL p = dl at *
    cases hd : Et.decOk p with
    | false =>
      rw [HDF.out hd]
      clear hd
      go_wp2_with fail
      refine (same_any _ _ dl dl wR hxR hyR).mono ?_
      rintro e wS ⟨rfl, bS⟩
      rw [decide_eq_true (rfl : dl = dl)]
      have hlS := (hlR.below bS).more bS.size
      have cS := cR.trans (bS.mono cR.size)
      clear bS hlR hxR hyR cR
      go_wp2_with fail
      refine (may_any _ l wS hlS HSH.out).mono ?_
      rintro e wM ⟨rfl, bM⟩
      have hlM := (hlS.below bM).more bM.size
      have cM := cS.trans (bM.mono cS.size)
      clear bM hlS cS
      go_wp2_with fail
      refine (mayR_any _ l wM hlM HSH.out).mono ?_
      rintro e wN ⟨rfl, bN⟩
      have hlN : Ents wN wN.heap.size (.slice A1 l.length c1) l := (hlM.below bN).more bN.size
      have cN := cM.trans (bN.mono cM.size)
      clear bN hlM cM
      clear HDF HDT
      cases hml : Et.mayB l with
      | false =>
        have HM := Lib.hid hml
        clear hml
        go_wp2_with fail
        refine (enc_no _ l wN hlN HSH.out HM.out).mono ?_
        rintro e wE ⟨rfl, bE⟩
        have hlE := (hlN.below bE).more bE.size
        have cE := cN.trans (bE.mono cN.size)
        clear bE hlN cN
        go_wp2_with fail
        refine (mayR_any _ l wE hlE HSH.out).mono ?_
        rintro e wF ⟨rfl, bF⟩
        rw [HM.out]
        have cF := cE.trans (bF.mono cE.size)
        clear bF hlE cE
        go_wp2_with fail
        refine (awake_any wF).mono ?_
        rintro e wG ⟨rfl, bG⟩
        go_wp2
        go_ret
        exact ⟨rfl, cF.trans (bG.mono cF.size)⟩
      | true =>
        have HM := Lib.hid hml
        clear hml
        go_wp2_with fail
        refine (enc_any _ l wN hlN HSH.out HM.out).mono ?_
        rintro e wE ⟨us, rfl, hsE, bE⟩
        have hlE := (hlN.below bE).more bE.size
        have cE := cN.trans (bE.mono cN.size)
        clear bE hlN cN
        have HBK := Lib.hid (Et.dec_back HM.out)
        have HDE : Hid (decE (Et.enc l) = 0) := Lib.hid (by unfold decE; rw [HBK.out.1]; rfl)
        obtain ⟨As, cs, rfl, _, _, _⟩ := hsE.open_
        go_wp2_with fail
        refine (mayR_any _ l wE hlE HSH.out).mono ?_
        rintro e wF ⟨rfl, bF⟩
        rw [HM.out]
        have hlF := (hlE.below bF).more bF.size
        have hsF := (hsE.ext (Nat.le_refl _) bF).more bF.size
        have cF := cE.trans (bF.mono cE.size)
        clear bF hlE hsE cE
        go_wp2_with fail
        refine (decode_any _ (Et.enc l) wF hsF).mono ?_
        rintro e wG ⟨um, rfl, hmG, bG⟩
        rw [HDE.out]
        rw [HBK.out.2] at hmG
        have hlG := (hlF.below bG).more bG.size
        have hsG := (hsF.ext (Nat.le_refl _) bG).more bG.size
        have cG := cF.trans (bG.mono cF.size)
        clear bG hlF hsF cF HBK HDE
        obtain ⟨Am, cm, rfl, _, _, _⟩ := hmG.open_
        obtain ⟨S, hS⟩ : ∃ S, (⟨(Et.enc l).toArray⟩ : ByteArray) = S := ⟨_, rfl⟩
        have HS := Lib.hid hS
        have HSG := Lib.hid hsG
        have HMG := Lib.hid hmG
        have HLG := Lib.hid hlG
        clear hS hsG hmG hlG
        go_upto_region 12 with fail
        have hG0 : Below wG.heap.size wG wG.drew := (Below.refl _ _).drew
        refine wp_region_list 22 [(fun y_ _ => y_ = .slice As (Et.enc l).length cs),
          (fun y_ _ => y_ = .string S),
          (fun y_ _ => y_ = .slice A1 l.length c1),
          (fun y_ _ => y_ = .string S),
          (fun y_ _ => y_ = .bool true),
          (fun y_ _ => y_ = .bool true),
          (fun y_ _ => y_ = .int .i64 0),
          (fun y_ _ => y_ = .bool true),
          (fun y_ _ => y_ = .bool true),
          (fun y_ _ => y_ = .bool true),
          (fun y_ _ => y_ = .slice Am l.length cm),
          (fun y_ _ => y_ = .slice A1 l.length c1),
          (fun y_ _ => y_ = .bool true),
          (fun y_ _ => y_ = .bool true),
          (fun y_ _ => y_ = .bool true),
          (fun y_ _ => y_ = .int .i64 0),
          (fun y_ _ => y_ = .bool true),
          (fun y_ _ => y_ = .bool true),
          (fun y_ _ => y_ = .bool true),
          (fun y_ _ => y_ = .bool true),
          (fun y_ _ => y_ = .bool true),
          (fun y_ _ => y_ = .bool true)]
          (fun q => Below wG.heap.size wG q) (by kernel_rfl) rfl (by kernel_rfl) ?_ ?_ ?_ ?_
        · exact hG0
        · exact ⟨stab_eq _, stab_eq _, stab_eq _, stab_eq _, stab_eq _, stab_eq _, stab_eq _, stab_eq _, stab_eq _, stab_eq _, stab_eq _, stab_eq _, stab_eq _, stab_eq _, stab_eq _, stab_eq _, stab_eq _, stab_eq _, stab_eq _, stab_eq _, stab_eq _, stab_eq _, trivial⟩
        · refine ⟨?_, ?_, ?_, ?_, ?_, ?_, ?_, ?_, ?_, ?_, ?_, ?_, ?_, ?_, ?_, ?_, ?_, ?_, ?_, ?_, ?_, ?_, trivial⟩
          · intro a x hG hd hs K hK
            have h9 : a.tmps.getD 9 undef = .slice As (Et.enc l).length cs := hs 9 (by kernel_rfl)
            clear hd hs
            refine wpOp_plain rfl rfl ?_
            go_simp
            exact hK _ _ rfl hG (Below.refl _ _)
          · intro a x hG hd hs K hK
            have h79 : a.tmps.getD 79 undef = .slice As (Et.enc l).length cs := hd 0 79 (by kernel_rfl)
            clear hd hs
            refine wpOp_plain rfl rfl ?_
            have cv := run_string_of (P := Try.prog) (HSG.out.ext (Nat.le_refl _) hG) 29 9 5 Try.underlying29 Try.underlying5 Try.underlying9
            rw [HS.out] at cv
            go_simp
            exact hK _ _ rfl hG (Below.refl _ _)
          · intro a x hG hd hs K hK
            have h0 : a.tmps.getD 0 undef = .slice A1 l.length c1 := hs 0 (by kernel_rfl)
            clear hd hs
            refine wpOp_plain rfl rfl ?_
            go_simp
            exact hK _ _ rfl hG (Below.refl _ _)
          · intro a x hG hd hs K hK
            have h81 : a.tmps.getD 81 undef = .slice A1 l.length c1 := hd 2 81 (by kernel_rfl)
            clear hd hs
            refine wpOp_plain rfl rfl ?_
            go_simp
            refine (encR_any _ l x ((HLG.out.below hG).more hG.size) HM.out).mono ?_
            rintro e w' ⟨rfl, hb⟩
            rw [HS.out]
            exact hK _ _ rfl (hG.trans (hb.mono hG.size)) hb
          · intro a x hG hd hs K hK
            have h80 : a.tmps.getD 80 undef = .string S := hd 1 80 (by kernel_rfl)
            have h82 : a.tmps.getD 82 undef = .string S := hd 3 82 (by kernel_rfl)
            clear hd hs
            refine wpOp_plain rfl rfl ?_
            go_simp
            exact hK _ _ rfl hG (Below.refl _ _)
          · intro a x hG hd hs K hK
            have h83 : a.tmps.getD 83 undef = .bool true := hd 4 83 (by kernel_rfl)
            clear hd hs
            refine wpOp_plain rfl rfl ?_
            go_simp
            exact hK _ _ rfl hG (Below.refl _ _)
          · intro a x hG hd hs K hK
            have h10 : a.tmps.getD 10 undef = .int .i64 0 := hs 10 (by kernel_rfl)
            have h84 : a.tmps.getD 84 undef = .bool true := hd 5 84 (by kernel_rfl)
            clear hd hs
            refine wpOp_yes rfl rfl rfl h84 ?_
            go_simp
            exact hK _ _ rfl hG (Below.refl _ _)
          · intro a x hG hd hs K hK
            have h85 : a.tmps.getD 85 undef = .int .i64 0 := hd 6 85 (by kernel_rfl)
            have h84 : a.tmps.getD 84 undef = .bool true := hd 5 84 (by kernel_rfl)
            clear hd hs
            refine wpOp_yes rfl rfl rfl h84 ?_
            go_simp
            exact hK _ _ rfl hG (Below.refl _ _)
          · intro a x hG hd hs K hK
            have h84 : a.tmps.getD 84 undef = .bool true := hd 5 84 (by kernel_rfl)
            have h86 : a.tmps.getD 86 undef = .bool true := hd 7 86 (by kernel_rfl)
            clear hd hs
            refine wpOp_plain rfl rfl ?_
            go_simp
            exact hK _ _ rfl hG (Below.refl _ _)
          · intro a x hG hd hs K hK
            have h87 : a.tmps.getD 87 undef = .bool true := hd 8 87 (by kernel_rfl)
            clear hd hs
            refine wpOp_plain rfl rfl ?_
            go_simp
            exact hK _ _ rfl hG (Below.refl _ _)
          · intro a x hG hd hs K hK
            have h11 : a.tmps.getD 11 undef = .slice Am l.length cm := hs 11 (by kernel_rfl)
            have h88 : a.tmps.getD 88 undef = .bool true := hd 9 88 (by kernel_rfl)
            clear hd hs
            refine wpOp_yes rfl rfl rfl h88 ?_
            go_simp
            exact hK _ _ rfl hG (Below.refl _ _)
          · intro a x hG hd hs K hK
            have h0 : a.tmps.getD 0 undef = .slice A1 l.length c1 := hs 0 (by kernel_rfl)
            have h88 : a.tmps.getD 88 undef = .bool true := hd 9 88 (by kernel_rfl)
            clear hd hs
            refine wpOp_yes rfl rfl rfl h88 ?_
            go_simp
            exact hK _ _ rfl hG (Below.refl _ _)
          · intro a x hG hd hs K hK
            have h89 : a.tmps.getD 89 undef = .slice Am l.length cm := hd 10 89 (by kernel_rfl)
            have h90 : a.tmps.getD 90 undef = .slice A1 l.length c1 := hd 11 90 (by kernel_rfl)
            have h88 : a.tmps.getD 88 undef = .bool true := hd 9 88 (by kernel_rfl)
            clear hd hs
            refine wpOp_yes rfl rfl rfl h88 ?_
            go_simp
            refine (same_any _ _ l l x ((HMG.out.below hG).more hG.size) ((HLG.out.below hG).more hG.size)).mono ?_
            rintro e w' ⟨rfl, hb⟩
            rw [decide_eq_true (rfl : l = l)]
            exact hK _ _ rfl (hG.trans (hb.mono hG.size)) hb
          · intro a x hG hd hs K hK
            have h88 : a.tmps.getD 88 undef = .bool true := hd 9 88 (by kernel_rfl)
            have h91 : a.tmps.getD 91 undef = .bool true := hd 12 91 (by kernel_rfl)
            clear hd hs
            refine wpOp_plain rfl rfl ?_
            go_simp
            exact hK _ _ rfl hG (Below.refl _ _)
          · intro a x hG hd hs K hK
            have h92 : a.tmps.getD 92 undef = .bool true := hd 13 92 (by kernel_rfl)
            clear hd hs
            refine wpOp_plain rfl rfl ?_
            go_simp
            exact hK _ _ rfl hG (Below.refl _ _)
          · intro a x hG hd hs K hK
            have h12 : a.tmps.getD 12 undef = .int .i64 0 := hs 12 (by kernel_rfl)
            have h93 : a.tmps.getD 93 undef = .bool true := hd 14 93 (by kernel_rfl)
            clear hd hs
            refine wpOp_yes rfl rfl rfl h93 ?_
            go_simp
            exact hK _ _ rfl hG (Below.refl _ _)
          · intro a x hG hd hs K hK
            have h94 : a.tmps.getD 94 undef = .int .i64 0 := hd 15 94 (by kernel_rfl)
            have h93 : a.tmps.getD 93 undef = .bool true := hd 14 93 (by kernel_rfl)
            clear hd hs
            refine wpOp_yes rfl rfl rfl h93 ?_
            go_simp
            exact hK _ _ rfl hG (Below.refl _ _)
          · intro a x hG hd hs K hK
            have h93 : a.tmps.getD 93 undef = .bool true := hd 14 93 (by kernel_rfl)
            have h95 : a.tmps.getD 95 undef = .bool true := hd 16 95 (by kernel_rfl)
            clear hd hs
            refine wpOp_plain rfl rfl ?_
            go_simp
            exact hK _ _ rfl hG (Below.refl _ _)
          · intro a x hG hd hs K hK
            have h96 : a.tmps.getD 96 undef = .bool true := hd 17 96 (by kernel_rfl)
            clear hd hs
            refine wpOp_plain rfl rfl ?_
            go_simp
            exact hK _ _ rfl hG (Below.refl _ _)
          · intro a x hG hd hs K hK
            have h97 : a.tmps.getD 97 undef = .bool true := hd 18 97 (by kernel_rfl)
            clear hd hs
            refine wpOp_yes rfl rfl rfl h97 ?_
            go_simp
            refine (awake_any x).mono ?_
            rintro e w' ⟨rfl, hb⟩
            exact hK _ _ rfl (hG.trans (hb.mono hG.size)) hb
          · intro a x hG hd hs K hK
            have h97 : a.tmps.getD 97 undef = .bool true := hd 18 97 (by kernel_rfl)
            have h98 : a.tmps.getD 98 undef = .bool true := hd 19 98 (by kernel_rfl)
            clear hd hs
            refine wpOp_plain rfl rfl ?_
            go_simp
            exact hK _ _ rfl hG (Below.refl _ _)
          · intro a x hG hd hs K hK
            have h99 : a.tmps.getD 99 undef = .bool true := hd 20 99 (by kernel_rfl)
            clear hd hs
            refine wpOp_plain rfl rfl ?_
            go_simp
            exact hK _ _ rfl hG (Below.refl _ _)
        · intro x hG
          rintro _ rfl _ rfl _ rfl _ rfl _ rfl _ rfl _ rfl _ rfl _ rfl _ rfl _ rfl _ rfl _ rfl _ rfl _ rfl _ rfl _ rfl _ rfl _ rfl _ rfl _ rfl _ rfl
          simp only [Act.put, List.setIfInBounds_toArray, List.set_cons_zero, List.set_cons_succ, REnd]
          try simp only [Exit.then]
          have cx := cG.trans (hG.mono cG.size)
          go_wp2
          go_ret
          exact ⟨rfl, cx⟩
    | true =>
      rw [HDT.out hd]
      clear hd
      go_wp2_with fail
      refine (same_any _ _ dl dl wR hxR hyR).mono ?_
      rintro e wS ⟨rfl, bS⟩
      rw [decide_eq_true (rfl : dl = dl)]
      have hlS := (hlR.below bS).more bS.size
      have cS := cR.trans (bS.mono cR.size)
      clear bS hlR hxR hyR cR
      go_wp2_with fail
      refine (may_any _ l wS hlS HSH.out).mono ?_
      rintro e wM ⟨rfl, bM⟩
      have hlM := (hlS.below bM).more bM.size
      have cM := cS.trans (bM.mono cS.size)
      clear bM hlS cS
      go_wp2_with fail
      refine (mayR_any _ l wM hlM HSH.out).mono ?_
      rintro e wN ⟨rfl, bN⟩
      have hlN : Ents wN wN.heap.size (.slice A1 l.length c1) l := (hlM.below bN).more bN.size
      have cN := cM.trans (bN.mono cM.size)
      clear bN hlM cM
      clear HDF HDT
      cases hml : Et.mayB l with
      | false =>
        have HM := Lib.hid hml
        clear hml
        go_wp2_with fail
        refine (enc_no _ l wN hlN HSH.out HM.out).mono ?_
        rintro e wE ⟨rfl, bE⟩
        have hlE := (hlN.below bE).more bE.size
        have cE := cN.trans (bE.mono cN.size)
        clear bE hlN cN
        go_wp2_with fail
        refine (mayR_any _ l wE hlE HSH.out).mono ?_
        rintro e wF ⟨rfl, bF⟩
        rw [HM.out]
        have cF := cE.trans (bF.mono cE.size)
        clear bF hlE cE
        go_wp2_with fail
        refine (awake_any wF).mono ?_
        rintro e wG ⟨rfl, bG⟩
        go_wp2
        go_ret
        exact ⟨rfl, cF.trans (bG.mono cF.size)⟩
      | true =>
        have HM := Lib.hid hml
        clear hml
        go_wp2_with fail
        refine (enc_any _ l wN hlN HSH.out HM.out).mono ?_
        rintro e wE ⟨us, rfl, hsE, bE⟩
        have hlE := (hlN.below bE).more bE.size
        have cE := cN.trans (bE.mono cN.size)
        clear bE hlN cN
        have HBK := Lib.hid (Et.dec_back HM.out)
        have HDE : Hid (decE (Et.enc l) = 0) := Lib.hid (by unfold decE; rw [HBK.out.1]; rfl)
        obtain ⟨As, cs, rfl, _, _, _⟩ := hsE.open_
        go_wp2_with fail
        refine (mayR_any _ l wE hlE HSH.out).mono ?_
        rintro e wF ⟨rfl, bF⟩
        rw [HM.out]
        have hlF := (hlE.below bF).more bF.size
        have hsF := (hsE.ext (Nat.le_refl _) bF).more bF.size
        have cF := cE.trans (bF.mono cE.size)
        clear bF hlE hsE cE
        go_wp2_with fail
        refine (decode_any _ (Et.enc l) wF hsF).mono ?_
        rintro e wG ⟨um, rfl, hmG, bG⟩
        rw [HDE.out]
        rw [HBK.out.2] at hmG
        have hlG := (hlF.below bG).more bG.size
        have hsG := (hsF.ext (Nat.le_refl _) bG).more bG.size
        have cG := cF.trans (bG.mono cF.size)
        clear bG hlF hsF cF HBK HDE
        obtain ⟨Am, cm, rfl, _, _, _⟩ := hmG.open_
        obtain ⟨S, hS⟩ : ∃ S, (⟨(Et.enc l).toArray⟩ : ByteArray) = S := ⟨_, rfl⟩
        have HS := Lib.hid hS
        have HSG := Lib.hid hsG
        have HMG := Lib.hid hmG
        have HLG := Lib.hid hlG
        clear hS hsG hmG hlG
        go_upto_region 12 with fail
        have hG0 : Below wG.heap.size wG wG.drew := (Below.refl _ _).drew
        refine wp_region_list 22 [(fun y_ _ => y_ = .slice As (Et.enc l).length cs),
          (fun y_ _ => y_ = .string S),
          (fun y_ _ => y_ = .slice A1 l.length c1),
          (fun y_ _ => y_ = .string S),
          (fun y_ _ => y_ = .bool true),
          (fun y_ _ => y_ = .bool true),
          (fun y_ _ => y_ = .int .i64 0),
          (fun y_ _ => y_ = .bool true),
          (fun y_ _ => y_ = .bool true),
          (fun y_ _ => y_ = .bool true),
          (fun y_ _ => y_ = .slice Am l.length cm),
          (fun y_ _ => y_ = .slice A1 l.length c1),
          (fun y_ _ => y_ = .bool true),
          (fun y_ _ => y_ = .bool true),
          (fun y_ _ => y_ = .bool true),
          (fun y_ _ => y_ = .int .i64 0),
          (fun y_ _ => y_ = .bool true),
          (fun y_ _ => y_ = .bool true),
          (fun y_ _ => y_ = .bool true),
          (fun y_ _ => y_ = .bool true),
          (fun y_ _ => y_ = .bool true),
          (fun y_ _ => y_ = .bool true)]
          (fun q => Below wG.heap.size wG q) (by kernel_rfl) rfl (by kernel_rfl) ?_ ?_ ?_ ?_
        · exact hG0
        · exact ⟨stab_eq _, stab_eq _, stab_eq _, stab_eq _, stab_eq _, stab_eq _, stab_eq _, stab_eq _, stab_eq _, stab_eq _, stab_eq _, stab_eq _, stab_eq _, stab_eq _, stab_eq _, stab_eq _, stab_eq _, stab_eq _, stab_eq _, stab_eq _, stab_eq _, stab_eq _, trivial⟩
        · refine ⟨?_, ?_, ?_, ?_, ?_, ?_, ?_, ?_, ?_, ?_, ?_, ?_, ?_, ?_, ?_, ?_, ?_, ?_, ?_, ?_, ?_, ?_, trivial⟩
          · intro a x hG hd hs K hK
            have h9 : a.tmps.getD 9 undef = .slice As (Et.enc l).length cs := hs 9 (by kernel_rfl)
            clear hd hs
            refine wpOp_plain rfl rfl ?_
            go_simp
            exact hK _ _ rfl hG (Below.refl _ _)
          · intro a x hG hd hs K hK
            have h79 : a.tmps.getD 79 undef = .slice As (Et.enc l).length cs := hd 0 79 (by kernel_rfl)
            clear hd hs
            refine wpOp_plain rfl rfl ?_
            have cv := run_string_of (P := Try.prog) (HSG.out.ext (Nat.le_refl _) hG) 29 9 5 Try.underlying29 Try.underlying5 Try.underlying9
            rw [HS.out] at cv
            go_simp
            exact hK _ _ rfl hG (Below.refl _ _)
          · intro a x hG hd hs K hK
            have h0 : a.tmps.getD 0 undef = .slice A1 l.length c1 := hs 0 (by kernel_rfl)
            clear hd hs
            refine wpOp_plain rfl rfl ?_
            go_simp
            exact hK _ _ rfl hG (Below.refl _ _)
          · intro a x hG hd hs K hK
            have h81 : a.tmps.getD 81 undef = .slice A1 l.length c1 := hd 2 81 (by kernel_rfl)
            clear hd hs
            refine wpOp_plain rfl rfl ?_
            go_simp
            refine (encR_any _ l x ((HLG.out.below hG).more hG.size) HM.out).mono ?_
            rintro e w' ⟨rfl, hb⟩
            rw [HS.out]
            exact hK _ _ rfl (hG.trans (hb.mono hG.size)) hb
          · intro a x hG hd hs K hK
            have h80 : a.tmps.getD 80 undef = .string S := hd 1 80 (by kernel_rfl)
            have h82 : a.tmps.getD 82 undef = .string S := hd 3 82 (by kernel_rfl)
            clear hd hs
            refine wpOp_plain rfl rfl ?_
            go_simp
            exact hK _ _ rfl hG (Below.refl _ _)
          · intro a x hG hd hs K hK
            have h83 : a.tmps.getD 83 undef = .bool true := hd 4 83 (by kernel_rfl)
            clear hd hs
            refine wpOp_plain rfl rfl ?_
            go_simp
            exact hK _ _ rfl hG (Below.refl _ _)
          · intro a x hG hd hs K hK
            have h10 : a.tmps.getD 10 undef = .int .i64 0 := hs 10 (by kernel_rfl)
            have h84 : a.tmps.getD 84 undef = .bool true := hd 5 84 (by kernel_rfl)
            clear hd hs
            refine wpOp_yes rfl rfl rfl h84 ?_
            go_simp
            exact hK _ _ rfl hG (Below.refl _ _)
          · intro a x hG hd hs K hK
            have h85 : a.tmps.getD 85 undef = .int .i64 0 := hd 6 85 (by kernel_rfl)
            have h84 : a.tmps.getD 84 undef = .bool true := hd 5 84 (by kernel_rfl)
            clear hd hs
            refine wpOp_yes rfl rfl rfl h84 ?_
            go_simp
            exact hK _ _ rfl hG (Below.refl _ _)
          · intro a x hG hd hs K hK
            have h84 : a.tmps.getD 84 undef = .bool true := hd 5 84 (by kernel_rfl)
            have h86 : a.tmps.getD 86 undef = .bool true := hd 7 86 (by kernel_rfl)
            clear hd hs
            refine wpOp_plain rfl rfl ?_
            go_simp
            exact hK _ _ rfl hG (Below.refl _ _)
          · intro a x hG hd hs K hK
            have h87 : a.tmps.getD 87 undef = .bool true := hd 8 87 (by kernel_rfl)
            clear hd hs
            refine wpOp_plain rfl rfl ?_
            go_simp
            exact hK _ _ rfl hG (Below.refl _ _)
          · intro a x hG hd hs K hK
            have h11 : a.tmps.getD 11 undef = .slice Am l.length cm := hs 11 (by kernel_rfl)
            have h88 : a.tmps.getD 88 undef = .bool true := hd 9 88 (by kernel_rfl)
            clear hd hs
            refine wpOp_yes rfl rfl rfl h88 ?_
            go_simp
            exact hK _ _ rfl hG (Below.refl _ _)
          · intro a x hG hd hs K hK
            have h0 : a.tmps.getD 0 undef = .slice A1 l.length c1 := hs 0 (by kernel_rfl)
            have h88 : a.tmps.getD 88 undef = .bool true := hd 9 88 (by kernel_rfl)
            clear hd hs
            refine wpOp_yes rfl rfl rfl h88 ?_
            go_simp
            exact hK _ _ rfl hG (Below.refl _ _)
          · intro a x hG hd hs K hK
            have h89 : a.tmps.getD 89 undef = .slice Am l.length cm := hd 10 89 (by kernel_rfl)
            have h90 : a.tmps.getD 90 undef = .slice A1 l.length c1 := hd 11 90 (by kernel_rfl)
            have h88 : a.tmps.getD 88 undef = .bool true := hd 9 88 (by kernel_rfl)
            clear hd hs
            refine wpOp_yes rfl rfl rfl h88 ?_
            go_simp
            refine (same_any _ _ l l x ((HMG.out.below hG).more hG.size) ((HLG.out.below hG).more hG.size)).mono ?_
            rintro e w' ⟨rfl, hb⟩
            rw [decide_eq_true (rfl : l = l)]
            exact hK _ _ rfl (hG.trans (hb.mono hG.size)) hb
          · intro a x hG hd hs K hK
            have h88 : a.tmps.getD 88 undef = .bool true := hd 9 88 (by kernel_rfl)
            have h91 : a.tmps.getD 91 undef = .bool true := hd 12 91 (by kernel_rfl)
            clear hd hs
            refine wpOp_plain rfl rfl ?_
            go_simp
            exact hK _ _ rfl hG (Below.refl _ _)
          · intro a x hG hd hs K hK
            have h92 : a.tmps.getD 92 undef = .bool true := hd 13 92 (by kernel_rfl)
            clear hd hs
            refine wpOp_plain rfl rfl ?_
            go_simp
            exact hK _ _ rfl hG (Below.refl _ _)
          · intro a x hG hd hs K hK
            have h12 : a.tmps.getD 12 undef = .int .i64 0 := hs 12 (by kernel_rfl)
            have h93 : a.tmps.getD 93 undef = .bool true := hd 14 93 (by kernel_rfl)
            clear hd hs
            refine wpOp_yes rfl rfl rfl h93 ?_
            go_simp
            exact hK _ _ rfl hG (Below.refl _ _)
          · intro a x hG hd hs K hK
            have h94 : a.tmps.getD 94 undef = .int .i64 0 := hd 15 94 (by kernel_rfl)
            have h93 : a.tmps.getD 93 undef = .bool true := hd 14 93 (by kernel_rfl)
            clear hd hs
            refine wpOp_yes rfl rfl rfl h93 ?_
            go_simp
            exact hK _ _ rfl hG (Below.refl _ _)
          · intro a x hG hd hs K hK
            have h93 : a.tmps.getD 93 undef = .bool true := hd 14 93 (by kernel_rfl)
            have h95 : a.tmps.getD 95 undef = .bool true := hd 16 95 (by kernel_rfl)
            clear hd hs
            refine wpOp_plain rfl rfl ?_
            go_simp
            exact hK _ _ rfl hG (Below.refl _ _)
          · intro a x hG hd hs K hK
            have h96 : a.tmps.getD 96 undef = .bool true := hd 17 96 (by kernel_rfl)
            clear hd hs
            refine wpOp_plain rfl rfl ?_
            go_simp
            exact hK _ _ rfl hG (Below.refl _ _)
          · intro a x hG hd hs K hK
            have h97 : a.tmps.getD 97 undef = .bool true := hd 18 97 (by kernel_rfl)
            clear hd hs
            refine wpOp_yes rfl rfl rfl h97 ?_
            go_simp
            refine (awake_any x).mono ?_
            rintro e w' ⟨rfl, hb⟩
            exact hK _ _ rfl (hG.trans (hb.mono hG.size)) hb
          · intro a x hG hd hs K hK
            have h97 : a.tmps.getD 97 undef = .bool true := hd 18 97 (by kernel_rfl)
            have h98 : a.tmps.getD 98 undef = .bool true := hd 19 98 (by kernel_rfl)
            clear hd hs
            refine wpOp_plain rfl rfl ?_
            go_simp
            exact hK _ _ rfl hG (Below.refl _ _)
          · intro a x hG hd hs K hK
            have h99 : a.tmps.getD 99 undef = .bool true := hd 20 99 (by kernel_rfl)
            clear hd hs
            refine wpOp_plain rfl rfl ?_
            go_simp
            exact hK _ _ rfl hG (Below.refl _ _)
        · intro x hG
          rintro _ rfl _ rfl _ rfl _ rfl _ rfl _ rfl _ rfl _ rfl _ rfl _ rfl _ rfl _ rfl _ rfl _ rfl _ rfl _ rfl _ rfl _ rfl _ rfl _ rfl _ rfl _ rfl
          simp only [Act.put, List.setIfInBounds_toArray, List.set_cons_zero, List.set_cons_succ, REnd]
          try simp only [Exit.then]
          have cx := cG.trans (hG.mono cG.size)
          go_wp2
          go_ret
          exact ⟨rfl, cx⟩

/-- What the walk gives, for every argument and every world that holds the table. -/
theorem entryCodes_contract (H : Type) (enc : TypeId × Value → H) (W : World) (base : Nat) (args : Array Value) (ds gs : List (DataW H)) (before : List MemPlace)
    (hval : ∀ (j : Nat) t v, Try.f6.params[j]? = some t → args[j]? = some v → Value.okWide Try.prog W .any base t v)
    (hW : DataW.Whole enc Try.prog Try.f6.params.toList Rows.entryCodesSpec.vars false W args.toList ds gs before) :
    Calls Try.prog 6 args W fun e W' => ∃ v, e = .returned v ∧ Rows.entryCodesSpec.post enc Try.prog Try.f6 false true false false W args v W' := by
  have hW' := hW
  obtain ⟨p, q, hA0, hV, hps, hfz, hnd⟩ := hW
  have hA : DataW.TrodAll enc Try.prog W 0 (fun _ => true) true Try.f6.params.toList args.toList ds p := hA0
  rw [Try.params6] at hA hval
  obtain ⟨v0, vs0, d0, ds0, p0, q0, hargs, rfl, rfl, h0, r0⟩ := trodAll_cons hA
  obtain ⟨v1, vs1, d1, ds1, p1, q1, rfl, rfl, rfl, h1, r1⟩ := trodAll_cons r0
  obtain ⟨rfl, rfl, rfl⟩ := trodAll_nil r1
  obtain rfl : args = #[v0, v1] := by cases args; simp_all
  obtain ⟨rfl, rfl⟩ := trodVars_none hV
  obtain ⟨l0, b0⟩ := entries_of_trod (hval 0 22 v0 rfl rfl) h0
  obtain ⟨l1, b1⟩ := bs_of_trod Try.underlying29 Try.underlying5 cellsU8 (hval 1 29 v1 rfl rfl) h1
  clear hA0
  refine (entryCodes_walk W v0 v1 l0 l1 b0 b1).mono fun e W' ⟨he, hb⟩ => ?_
  subst he
  exact ⟨_, rfl, law_post laidOut (by rw [Try.params6]; decide +kernel) rfl Try.underlying4 rfl rfl hW' hb⟩

set_option maxRecDepth 100000 in
theorem entryCodes_lifted (os : Os) (started : os.Started) (H : Type) (enc : TypeId × Value → H) :
    ReturnsInHanded {} Try.checked os 6 .any (Rows.entryCodesSpec.pre6 enc Try.prog Try.f6 Rows.entryCodesRow.domain false) (Rows.entryCodesSpec.post enc Try.prog Try.f6 false true false false) := by
  refine returnsInHanded_of_change (C := Try.checked) own started (by kernel_rfl) Try.func6
    (ChangeSpec.witness6 (enc := enc) (C := Try.checked) false ⟨#[], #[.slice none 0 0, .slice none 0 0], []⟩ 8 (by kernel_rfl) (by kernel_rfl) (by kernel_rfl) (by kernel_rfl)) ?_
  intro W base args ds gs before hval hW _ _
  exact entryCodes_contract H enc W base args ds gs before hval hW

theorem entryCodes_holds : Rows.EntryCodesSaid :=
  OpenClaim.holds_of_wide 6 Try.f6 rfl rfl rfl rfl rfl rfl rfl ⟨rfl, rfl, rfl, rfl, rfl⟩ rfl rfl rfl rfl rfl (by kernel_rfl) Try.func6 (by kernel_rfl)
    (of_decide_eq_true (by kernel_rfl)) (by unfold Func.isWrapper; first | (rw [if_pos (by decide +kernel)]; kernel_rfl) | (rw [if_neg (by decide +kernel)]; exact ⟨rfl, rfl⟩))
    (fun os started H enc _ => entryCodes_lifted os started H enc)

end Go.Proofs.Ytahkhieoabbaaaa
