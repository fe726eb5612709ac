/-
  EntryOrder: in whatever order entries of different names are added, they are the same in the end; two lists have the same octets just if they are the same. For every input.
-/
import Derived.Test.YtahkhieoabbaaaaEntO
import Derived.Test.YtahkhieoabbaaaaEntQ
namespace Go.Proofs.Ytahkhieoabbaaaa
open Go.ChangeShapes Go.WideShapes Go.ChangeAt Go.RowKit Go.Lib
open Et (E)

theorem may_short {l : List E} (h : Et.mayB l = true) : Short l := fun y hy => by
  have := (Et.ok_parts (((Et.may_iff l).1 h).2.1 y hy)).1
  omega

set_option maxRecDepth 100000 in
set_option maxHeartbeats 2000000 in
theorem entryOrder_walk (w : World) (v : Value) (l0 : List E) (tn : Nat) (htn : tn < 256) (hl0 : Ents w w.heap.size v l0) :
    Calls Try.prog 3 #[v, .int .u8 (tn : Int)] w fun e w' => e = .returned (.bool true) ∧ Below w.heap.size w w' := by
  obtain ⟨A, c, rfl, hlc, hcm, _⟩ := hl0.open_
  go_enter Try.func3, Try.ntmps3
  go_wp2_with fail
  refine (Few_any _ l0 w hl0).mono ?_
  rintro e w1 ⟨u1, rfl, ho1, b1⟩
  have HSH := Lib.hid (few_short l0)
  have hlen := few_len l0
  clear hl0 hlc hcm
  generalize fewL l0 = l at *
  obtain ⟨A1, c1, rfl⟩ := own_slice ho1
  have hl1 : Ents w1 w1.heap.size (.slice A1 l.length c1) l := Ents.of_own ho1 rfl rfl
  clear ho1
  obtain ⟨_, _, hse, hlc, hcm, hE⟩ := hl1.open_
  cases hse
  have HE := Lib.hid hE
  have HL := Lib.hid hl1
  clear hE hl1
  go_wp2
  go_loopw [5, 7] (fun y i wr => ∃ (k : Nat) (la : List E), k ≤ l.length ∧ i = .int .i64 k ∧ Hid (Et.mayB la = true) ∧ Hid (Ents wr wr.heap.size y la) ∧ Below w1.heap.size w1 wr) (fun _ i _ => l.length - (intOf i).toNat)
  case atStart => exact ⟨0, [], Nat.zero_le _, rfl, Lib.hid rfl, Lib.hid (Rds.nil_ _ _ _), Below.refl _ _⟩
  case round =>
    obtain ⟨k, la, hk, rfl, HMA, HA, hbr⟩ := hrel
    by_cases hlt : k < l.length
    · obtain ⟨b, off, rfl, hbB, h0, h1, h2⟩ := (HE.out.below hbr) k hlt
      have hy := HSH.out.at_ k hlt
      generalize Et.at_ l k = y at *
      obtain ⟨yn, yi, yt⟩ := y
      dsimp only at h0 h1 h2 hy
      go_wp2_with fail
      refine (add_any _ la yn yi yt wr HA.out (may_short HMA.out) hy).mono ?_
      rintro e w2 ⟨u2, rfl, hm2, b2⟩
      have d2 := hbr.trans (b2.mono hbr.size)
      have HA2 := Lib.hid ((HA.out.below b2).more b2.size)
      clear b2 h0 h1 h2
      by_cases hz : Et.addE la ⟨yn, yi, yt⟩ = 0
      · rw [hz]
        have HMM := Lib.hid (Et.add_may hz)
        have HM2 := Lib.hid hm2
        clear hz
        obtain ⟨A9, c9, rfl, _, _, _⟩ := hm2.open_
        clear hm2
        generalize Et.addL la ⟨yn, yi, yt⟩ = m at *
        go_wp2
        go_roundw
        case rel => exact ⟨k + 1, m, by omega, by go_num, HMM, HM2, d2⟩
        case measure => simp [intOf]; omega
      · obtain ⟨er, her⟩ : ∃ er, Et.addE la ⟨yn, yi, yt⟩ = er := ⟨_, rfl⟩
        rw [her] at hz ⊢
        have hz' : (er == 0) = false := beq_eq_false_iff_ne.2 hz
        clear hz her
        obtain ⟨A9, c9, rfl, _, _, _⟩ := hm2.open_
        clear hm2
        generalize (Et.addL la ⟨yn, yi, yt⟩).length = n9 at *
        go_wp2
        go_roundw
        case rel => exact ⟨k + 1, la, by omega, by go_num, HMA, HA2, d2⟩
        case measure => simp [intOf]; omega
    · obtain rfl : k = l.length := by omega
      obtain ⟨Aa, ca, hse, hac, hacm, hEa⟩ := HA.out.open_
      subst hse
      have HEA := Lib.hid hEa
      have ha30 := ((Et.may_iff la).1 HMA.out).1
      clear hEa hlt
      generalize wr = wo at *
      go_wp2
      go_loopw [6, 10] (fun y i wr => ∃ (k : Nat) (b : List E), k ≤ la.length ∧ i = .int .i64 k ∧ Hid (Et.Round la b tn k) ∧ Hid (Ents wr wr.heap.size y b) ∧ Below wo.heap.size wo wr) (fun _ i _ => la.length - (intOf i).toNat)
      case atStart => exact ⟨0, [], Nat.zero_le _, rfl, Lib.hid (Et.round_start la tn), Lib.hid (Rds.nil_ _ _ _), Below.refl _ _⟩
      case round =>
        obtain ⟨k, bb, hk, rfl, HR, HB, hbq⟩ := hrel
        by_cases hlt : k < la.length
        · have hrem : ((k : Int) + (tn : Int)).tmod (la.length : Int) = (((k + tn) % la.length : Nat) : Int) := by rw [← Int.natCast_add]; rfl
          have hnz : ¬ (la.length : Int) = 0 := by omega
          have hql : (k + tn) % la.length < la.length := Nat.mod_lt _ (by omega)
          have hwr : IntKind.i64.wrap (tn : Int) = (tn : Int) := IntWalk.i64_in _ (by omega)
          have HOK := Lib.hid (Et.round_ok HMA.out HR.out hlt)
          have HST := Lib.hid (Et.round_step HMA.out HR.out hlt)
          have HMB := Lib.hid HR.out.1
          have hys := (may_short HMA.out).at_ _ hql
          generalize (k + tn) % la.length = q at *
          obtain ⟨b, off, rfl, hbB, h0, h1, h2⟩ := (HEA.out.below hbq) q hql
          generalize Et.at_ la q = y at *
          obtain ⟨yn, yi, yt⟩ := y
          dsimp only at h0 h1 h2 hys
          go_wp2_with fail
          refine (add_any _ bb yn yi yt wr HB.out (may_short HMB.out) hys).mono ?_
          rintro e w2 ⟨u2, rfl, hm2, b2⟩
          rw [HOK.out]
          have d2 := hbq.trans (b2.mono hbq.size)
          have HM2 := Lib.hid hm2
          obtain ⟨A9, c9, rfl, _, _, _⟩ := hm2.open_
          clear hm2 b2 h0 h1 h2 hrem hwr HR HB
          generalize Et.addL bb ⟨yn, yi, yt⟩ = m at *
          go_wp2
          go_roundw
          case rel => exact ⟨k + 1, m, by omega, by go_num, HST, HM2, d2⟩
          case measure => simp [intOf]; omega
        · obtain rfl : k = la.length := by omega
          obtain rfl := Et.round_end HMA.out HR.out
          have HLq := Lib.hid ((HL.out.below hbr).more hbr.size)
          have HLq2 := Lib.hid ((HLq.out.below hbq).more hbq.size)
          have HAq := Lib.hid ((HA.out.below hbq).more hbq.size)
          have cq := (b1.trans (hbr.mono b1.size)).trans (hbq.mono (b1.trans (hbr.mono b1.size)).size)
          clear hlt
          go_wp2_with fail
          refine (enc_any _ la wr HAq.out (may_short HMA.out) HMA.out).mono ?_
          rintro e wE ⟨ua, rfl, hua, bE⟩
          have hSa0 := (HAq.out.below bE).more bE.size
          have hSb0 := (HB.out.below bE).more bE.size
          have hSl0 := (HLq2.out.below bE).more bE.size
          have cE := cq.trans (bE.mono cq.size)
          clear bE cq
          cases hml : Et.mayB l with
          | false =>
            go_wp2_with fail
            refine (enc_no _ l wE hSl0 HSH.out hml).mono ?_
            rintro e wS ⟨rfl, bS⟩
            have hSa : Ents wS wS.heap.size (.slice Aa la.length ca) la := (hSa0.below bS).more bS.size
            have hSb : Ents wS wS.heap.size u6 la := (hSb0.below bS).more bS.size
            have hSl : Ents wS wS.heap.size (.slice A1 l.length c1) l := (hSl0.below bS).more bS.size
            have cS := cE.trans (bS.mono cE.size)
            clear hml bS cE
            go_upto_region 18 with fail
            have hG0 : Below wS.heap.size wS wS.drew := (Below.refl _ _).drew
            refine wp_region_list 26 [(fun y_ _ => y_ = .slice Aa la.length ca),
              (fun y_ _ => y_ = u6),
              (fun y_ _ => y_ = .bool true),
              (fun y_ _ => y_ = .bool true),
              (fun y_ _ => y_ = .int .i64 0),
              (fun y_ _ => y_ = .bool true),
              (fun y_ _ => y_ = .bool true),
              (fun y_ _ => y_ = .bool true),
              (fun y_ _ => y_ = .int .i64 1),
              (fun y_ _ => y_ = .bool true),
              (fun y_ _ => y_ = .bool true),
              (fun y_ _ => y_ = undef),
              (fun y_ _ => y_ = undef),
              (fun y_ _ => y_ = undef),
              (fun y_ _ => y_ = undef),
              (fun y_ _ => y_ = undef),
              (fun y_ _ => y_ = undef),
              (fun y_ _ => y_ = undef),
              (fun y_ _ => y_ = undef),
              (fun y_ _ => y_ = undef),
              (fun y_ _ => y_ = .bool true),
              (fun y_ _ => y_ = .bool true),
              (fun y_ _ => y_ = .bool true),
              (fun y_ _ => y_ = .bool true),
              (fun y_ _ => y_ = .bool true),
              (fun y_ _ => y_ = .bool true)]
              (fun q => Below wS.heap.size wS q) (by kernel_rfl) rfl (by kernel_rfl) ?_ ?_ ?_ ?_
            · exact hG0
            · exact ⟨stab_eq _, stab_eq _, stab_eq _, stab_eq _, stab_eq _, stab_eq _, stab_eq _, stab_eq _, stab_eq _, stab_eq _, stab_eq _, stab_eq _, stab_eq _, stab_eq _, stab_eq _, stab_eq _, stab_eq _, stab_eq _, stab_eq _, stab_eq _, stab_eq _, stab_eq _, stab_eq _, stab_eq _, stab_eq _, stab_eq _, trivial⟩
            · refine ⟨?_, ?_, ?_, ?_, ?_, ?_, ?_, ?_, ?_, ?_, ?_, ?_, ?_, ?_, ?_, ?_, ?_, ?_, ?_, ?_, ?_, ?_, ?_, ?_, ?_, ?_, trivial⟩
              · intro a x hG hd hs K hK
                have h5 : a.tmps.getD 5 undef = .slice Aa la.length ca := hs 5 (by kernel_rfl)
                clear hd hs
                refine wpOp_plain rfl rfl ?_
                go_simp
                exact hK _ _ rfl hG (Below.refl _ _)
              · intro a x hG hd hs K hK
                have h6 : a.tmps.getD 6 undef = u6 := hs 6 (by kernel_rfl)
                clear hd hs
                refine wpOp_plain rfl rfl ?_
                go_simp
                exact hK _ _ rfl hG (Below.refl _ _)
              · intro a x hG hd hs K hK
                have h71 : a.tmps.getD 71 undef = .slice Aa la.length ca := hd 0 71 (by kernel_rfl)
                have h72 : a.tmps.getD 72 undef = u6 := hd 1 72 (by kernel_rfl)
                clear hd hs
                refine wpOp_plain rfl rfl ?_
                go_simp
                refine (same_any _ _ la la x ((hSa.below hG).more hG.size) ((hSb.below hG).more hG.size)).mono ?_
                rintro e w' ⟨rfl, hb⟩
                rw [decide_eq_true (rfl : la = la)]
                exact hK _ _ rfl (hG.trans (hb.mono hG.size)) hb
              · intro a x hG hd hs K hK
                have h73 : a.tmps.getD 73 undef = .bool true := hd 2 73 (by kernel_rfl)
                clear hd hs
                refine wpOp_plain rfl rfl ?_
                go_simp
                exact hK _ _ rfl hG (Below.refl _ _)
              · intro a x hG hd hs K hK
                have h14 : a.tmps.getD 14 undef = .int .i64 0 := hs 14 (by kernel_rfl)
                have h74 : a.tmps.getD 74 undef = .bool true := hd 3 74 (by kernel_rfl)
                clear hd hs
                refine wpOp_yes rfl rfl rfl h74 ?_
                go_simp
                exact hK _ _ rfl hG (Below.refl _ _)
              · intro a x hG hd hs K hK
                have h75 : a.tmps.getD 75 undef = .int .i64 0 := hd 4 75 (by kernel_rfl)
                have h74 : a.tmps.getD 74 undef = .bool true := hd 3 74 (by kernel_rfl)
                clear hd hs
                refine wpOp_yes rfl rfl rfl h74 ?_
                go_simp
                exact hK _ _ rfl hG (Below.refl _ _)
              · intro a x hG hd hs K hK
                have h74 : a.tmps.getD 74 undef = .bool true := hd 3 74 (by kernel_rfl)
                have h76 : a.tmps.getD 76 undef = .bool true := hd 5 76 (by kernel_rfl)
                clear hd hs
                refine wpOp_plain rfl rfl ?_
                go_simp
                exact hK _ _ rfl hG (Below.refl _ _)
              · intro a x hG hd hs K hK
                have h77 : a.tmps.getD 77 undef = .bool true := hd 6 77 (by kernel_rfl)
                clear hd hs
                refine wpOp_plain rfl rfl ?_
                go_simp
                exact hK _ _ rfl hG (Below.refl _ _)
              · intro a x hG hd hs K hK
                have h16 : a.tmps.getD 16 undef = .int .i64 1 := hs 16 (by kernel_rfl)
                have h78 : a.tmps.getD 78 undef = .bool true := hd 7 78 (by kernel_rfl)
                clear hd hs
                refine wpOp_yes rfl rfl rfl h78 ?_
                go_simp
                exact hK _ _ rfl hG (Below.refl _ _)
              · intro a x hG hd hs K hK
                have h79 : a.tmps.getD 79 undef = .int .i64 1 := hd 8 79 (by kernel_rfl)
                have h78 : a.tmps.getD 78 undef = .bool true := hd 7 78 (by kernel_rfl)
                clear hd hs
                refine wpOp_yes rfl rfl rfl h78 ?_
                go_simp
                exact hK _ _ rfl hG (Below.refl _ _)
              · intro a x hG hd hs K hK
                have h80 : a.tmps.getD 80 undef = .bool true := hd 9 80 (by kernel_rfl)
                have h78 : a.tmps.getD 78 undef = .bool true := hd 7 78 (by kernel_rfl)
                clear hd hs
                refine wpOp_yes rfl rfl rfl h78 ?_
                go_simp
                exact hK _ _ rfl hG (Below.refl _ _)
              · intro a x hG hd hs K hK
                have h13 : a.tmps.getD 13 undef = ua := hs 13 (by kernel_rfl)
                have h81 : a.tmps.getD 81 undef = .bool true := hd 10 81 (by kernel_rfl)
                clear hd hs
                refine wpOp_no rfl rfl rfl h81 ?_
                exact hK _ _ rfl hG (Below.refl _ _)
              · intro a x hG hd hs K hK
                have h82 : a.tmps.getD 82 undef = undef := hd 11 82 (by kernel_rfl)
                have h81 : a.tmps.getD 81 undef = .bool true := hd 10 81 (by kernel_rfl)
                clear hd hs
                refine wpOp_no rfl rfl rfl h81 ?_
                exact hK _ _ rfl hG (Below.refl _ _)
              · intro a x hG hd hs K hK
                have h15 : a.tmps.getD 15 undef = .slice none 0 0 := hs 15 (by kernel_rfl)
                have h81 : a.tmps.getD 81 undef = .bool true := hd 10 81 (by kernel_rfl)
                clear hd hs
                refine wpOp_no rfl rfl rfl h81 ?_
                exact hK _ _ rfl hG (Below.refl _ _)
              · intro a x hG hd hs K hK
                have h84 : a.tmps.getD 84 undef = undef := hd 13 84 (by kernel_rfl)
                have h81 : a.tmps.getD 81 undef = .bool true := hd 10 81 (by kernel_rfl)
                clear hd hs
                refine wpOp_no rfl rfl rfl h81 ?_
                exact hK _ _ rfl hG (Below.refl _ _)
              · intro a x hG hd hs K hK
                have h83 : a.tmps.getD 83 undef = undef := hd 12 83 (by kernel_rfl)
                have h85 : a.tmps.getD 85 undef = undef := hd 14 85 (by kernel_rfl)
                have h81 : a.tmps.getD 81 undef = .bool true := hd 10 81 (by kernel_rfl)
                clear hd hs
                refine wpOp_no rfl rfl rfl h81 ?_
                exact hK _ _ rfl hG (Below.refl _ _)
              · intro a x hG hd hs K hK
                have h5 : a.tmps.getD 5 undef = .slice Aa la.length ca := hs 5 (by kernel_rfl)
                have h81 : a.tmps.getD 81 undef = .bool true := hd 10 81 (by kernel_rfl)
                clear hd hs
                refine wpOp_no rfl rfl rfl h81 ?_
                exact hK _ _ rfl hG (Below.refl _ _)
              · intro a x hG hd hs K hK
                have h0 : a.tmps.getD 0 undef = .slice A1 l.length c1 := hs 0 (by kernel_rfl)
                have h81 : a.tmps.getD 81 undef = .bool true := hd 10 81 (by kernel_rfl)
                clear hd hs
                refine wpOp_no rfl rfl rfl h81 ?_
                exact hK _ _ rfl hG (Below.refl _ _)
              · intro a x hG hd hs K hK
                have h87 : a.tmps.getD 87 undef = undef := hd 16 87 (by kernel_rfl)
                have h88 : a.tmps.getD 88 undef = undef := hd 17 88 (by kernel_rfl)
                have h81 : a.tmps.getD 81 undef = .bool true := hd 10 81 (by kernel_rfl)
                clear hd hs
                refine wpOp_no rfl rfl rfl h81 ?_
                exact hK _ _ rfl hG (Below.refl _ _)
              · intro a x hG hd hs K hK
                have h86 : a.tmps.getD 86 undef = undef := hd 15 86 (by kernel_rfl)
                have h89 : a.tmps.getD 89 undef = undef := hd 18 89 (by kernel_rfl)
                have h81 : a.tmps.getD 81 undef = .bool true := hd 10 81 (by kernel_rfl)
                clear hd hs
                refine wpOp_no rfl rfl rfl h81 ?_
                exact hK _ _ rfl hG (Below.refl _ _)
              · intro a x hG hd hs K hK
                have h81 : a.tmps.getD 81 undef = .bool true := hd 10 81 (by kernel_rfl)
                have h90 : a.tmps.getD 90 undef = undef := hd 19 90 (by kernel_rfl)
                have h78 : a.tmps.getD 78 undef = .bool true := hd 7 78 (by kernel_rfl)
                clear hd hs
                refine wpOp_yes rfl rfl rfl h78 ?_
                go_simp
                exact hK _ _ rfl hG (Below.refl _ _)
              · intro a x hG hd hs K hK
                have h78 : a.tmps.getD 78 undef = .bool true := hd 7 78 (by kernel_rfl)
                have h91 : a.tmps.getD 91 undef = .bool true := hd 20 91 (by kernel_rfl)
                clear hd hs
                refine wpOp_plain rfl rfl ?_
                go_simp
                exact hK _ _ rfl hG (Below.refl _ _)
              · intro a x hG hd hs K hK
                have h92 : a.tmps.getD 92 undef = .bool true := hd 21 92 (by kernel_rfl)
                clear hd hs
                refine wpOp_plain rfl rfl ?_
                go_simp
                exact hK _ _ rfl hG (Below.refl _ _)
              · intro a x hG hd hs K hK
                have h93 : a.tmps.getD 93 undef = .bool true := hd 22 93 (by kernel_rfl)
                clear hd hs
                refine wpOp_yes rfl rfl rfl h93 ?_
                go_simp
                refine (awake_any x).mono ?_
                rintro e w' ⟨rfl, hb⟩
                exact hK _ _ rfl (hG.trans (hb.mono hG.size)) hb
              · intro a x hG hd hs K hK
                have h93 : a.tmps.getD 93 undef = .bool true := hd 22 93 (by kernel_rfl)
                have h94 : a.tmps.getD 94 undef = .bool true := hd 23 94 (by kernel_rfl)
                clear hd hs
                refine wpOp_plain rfl rfl ?_
                go_simp
                exact hK _ _ rfl hG (Below.refl _ _)
              · intro a x hG hd hs K hK
                have h95 : a.tmps.getD 95 undef = .bool true := hd 24 95 (by kernel_rfl)
                clear hd hs
                refine wpOp_plain rfl rfl ?_
                go_simp
                exact hK _ _ rfl hG (Below.refl _ _)
            · intro x hG
              rintro _ rfl _ rfl _ rfl _ rfl _ rfl _ rfl _ rfl _ rfl _ rfl _ rfl _ rfl _ rfl _ rfl _ rfl _ rfl _ rfl _ rfl _ rfl _ rfl _ rfl _ rfl _ rfl _ rfl _ rfl _ rfl _ rfl
              simp only [Act.put, List.setIfInBounds_toArray, List.set_cons_zero, List.set_cons_succ, REnd]
              try simp only [Exit.then]
              have cx := cS.trans (hG.mono cS.size)
              go_wp2
              go_ret
              exact ⟨rfl, cx⟩
          | true =>
            go_wp2_with fail
            refine (enc_any _ l wE hSl0 HSH.out hml).mono ?_
            rintro e wS ⟨ul, rfl, hBl, bS⟩
            have hBa := (hua.ext (Nat.le_refl _) bS).more bS.size
            have hSa : Ents wS wS.heap.size (.slice Aa la.length ca) la := (hSa0.below bS).more bS.size
            have hSb : Ents wS wS.heap.size u6 la := (hSb0.below bS).more bS.size
            have hSl : Ents wS wS.heap.size (.slice A1 l.length c1) l := (hSl0.below bS).more bS.size
            have cS := cE.trans (bS.mono cE.size)
            have hei := Et.enc_inj HMA.out hml
            have hbi := ba_inj (Et.enc la) (Et.enc l)
            obtain ⟨S, hS⟩ : ∃ S, (⟨(Et.enc la).toArray⟩ : ByteArray) = S := ⟨_, rfl⟩
            obtain ⟨T, hT⟩ : ∃ T, (⟨(Et.enc l).toArray⟩ : ByteArray) = T := ⟨_, rfl⟩
            obtain ⟨dq, hdq⟩ : ∃ dq, decide (la = l) = dq := ⟨_, rfl⟩
            have HST : Hid ((S.toList == T.toList) = dq) := Lib.hid (by
              rw [← hdq, ← hS, ← hT, Bool.eq_iff_iff, beq_iff_eq, decide_eq_true_iff, hbi, hei])
            have HS := Lib.hid hS
            have HT := Lib.hid hT
            have HDQ := Lib.hid hdq
            clear hml bS cE hei hbi hS hT hdq
            go_upto_region 18 with fail
            have hG0 : Below wS.heap.size wS wS.drew := (Below.refl _ _).drew
            refine wp_region_list 26 [(fun y_ _ => y_ = .slice Aa la.length ca),
              (fun y_ _ => y_ = u6),
              (fun y_ _ => y_ = .bool true),
              (fun y_ _ => y_ = .bool true),
              (fun y_ _ => y_ = .int .i64 0),
              (fun y_ _ => y_ = .bool true),
              (fun y_ _ => y_ = .bool true),
              (fun y_ _ => y_ = .bool true),
              (fun y_ _ => y_ = .int .i64 0),
              (fun y_ _ => y_ = .bool false),
              (fun y_ _ => y_ = .bool false),
              (fun y_ _ => y_ = ua),
              (fun y_ _ => y_ = .string S),
              (fun y_ _ => y_ = ul),
              (fun y_ _ => y_ = .string T),
              (fun y_ _ => y_ = .bool dq),
              (fun y_ _ => y_ = .slice Aa la.length ca),
              (fun y_ _ => y_ = .slice A1 l.length c1),
              (fun y_ _ => y_ = .bool dq),
              (fun y_ _ => y_ = .bool true),
              (fun y_ _ => y_ = .bool true),
              (fun y_ _ => y_ = .bool true),
              (fun y_ _ => y_ = .bool true),
              (fun y_ _ => y_ = .bool true),
              (fun y_ _ => y_ = .bool true),
              (fun y_ _ => y_ = .bool true)]
              (fun q => Below wS.heap.size wS q) (by kernel_rfl) rfl (by kernel_rfl) ?_ ?_ ?_ ?_
            · exact hG0
            · exact ⟨stab_eq _, stab_eq _, stab_eq _, stab_eq _, stab_eq _, stab_eq _, stab_eq _, stab_eq _, stab_eq _, stab_eq _, stab_eq _, stab_eq _, stab_eq _, stab_eq _, stab_eq _, stab_eq _, stab_eq _, stab_eq _, stab_eq _, stab_eq _, stab_eq _, stab_eq _, stab_eq _, stab_eq _, stab_eq _, stab_eq _, trivial⟩
            · refine ⟨?_, ?_, ?_, ?_, ?_, ?_, ?_, ?_, ?_, ?_, ?_, ?_, ?_, ?_, ?_, ?_, ?_, ?_, ?_, ?_, ?_, ?_, ?_, ?_, ?_, ?_, trivial⟩
              · intro a x hG hd hs K hK
                have h5 : a.tmps.getD 5 undef = .slice Aa la.length ca := hs 5 (by kernel_rfl)
                clear hd hs
                refine wpOp_plain rfl rfl ?_
                go_simp
                exact hK _ _ rfl hG (Below.refl _ _)
              · intro a x hG hd hs K hK
                have h6 : a.tmps.getD 6 undef = u6 := hs 6 (by kernel_rfl)
                clear hd hs
                refine wpOp_plain rfl rfl ?_
                go_simp
                exact hK _ _ rfl hG (Below.refl _ _)
              · intro a x hG hd hs K hK
                have h71 : a.tmps.getD 71 undef = .slice Aa la.length ca := hd 0 71 (by kernel_rfl)
                have h72 : a.tmps.getD 72 undef = u6 := hd 1 72 (by kernel_rfl)
                clear hd hs
                refine wpOp_plain rfl rfl ?_
                go_simp
                refine (same_any _ _ la la x ((hSa.below hG).more hG.size) ((hSb.below hG).more hG.size)).mono ?_
                rintro e w' ⟨rfl, hb⟩
                rw [decide_eq_true (rfl : la = la)]
                exact hK _ _ rfl (hG.trans (hb.mono hG.size)) hb
              · intro a x hG hd hs K hK
                have h73 : a.tmps.getD 73 undef = .bool true := hd 2 73 (by kernel_rfl)
                clear hd hs
                refine wpOp_plain rfl rfl ?_
                go_simp
                exact hK _ _ rfl hG (Below.refl _ _)
              · intro a x hG hd hs K hK
                have h14 : a.tmps.getD 14 undef = .int .i64 0 := hs 14 (by kernel_rfl)
                have h74 : a.tmps.getD 74 undef = .bool true := hd 3 74 (by kernel_rfl)
                clear hd hs
                refine wpOp_yes rfl rfl rfl h74 ?_
                go_simp
                exact hK _ _ rfl hG (Below.refl _ _)
              · intro a x hG hd hs K hK
                have h75 : a.tmps.getD 75 undef = .int .i64 0 := hd 4 75 (by kernel_rfl)
                have h74 : a.tmps.getD 74 undef = .bool true := hd 3 74 (by kernel_rfl)
                clear hd hs
                refine wpOp_yes rfl rfl rfl h74 ?_
                go_simp
                exact hK _ _ rfl hG (Below.refl _ _)
              · intro a x hG hd hs K hK
                have h74 : a.tmps.getD 74 undef = .bool true := hd 3 74 (by kernel_rfl)
                have h76 : a.tmps.getD 76 undef = .bool true := hd 5 76 (by kernel_rfl)
                clear hd hs
                refine wpOp_plain rfl rfl ?_
                go_simp
                exact hK _ _ rfl hG (Below.refl _ _)
              · intro a x hG hd hs K hK
                have h77 : a.tmps.getD 77 undef = .bool true := hd 6 77 (by kernel_rfl)
                clear hd hs
                refine wpOp_plain rfl rfl ?_
                go_simp
                exact hK _ _ rfl hG (Below.refl _ _)
              · intro a x hG hd hs K hK
                have h16 : a.tmps.getD 16 undef = .int .i64 0 := hs 16 (by kernel_rfl)
                have h78 : a.tmps.getD 78 undef = .bool true := hd 7 78 (by kernel_rfl)
                clear hd hs
                refine wpOp_yes rfl rfl rfl h78 ?_
                go_simp
                exact hK _ _ rfl hG (Below.refl _ _)
              · intro a x hG hd hs K hK
                have h79 : a.tmps.getD 79 undef = .int .i64 0 := hd 8 79 (by kernel_rfl)
                have h78 : a.tmps.getD 78 undef = .bool true := hd 7 78 (by kernel_rfl)
                clear hd hs
                refine wpOp_yes rfl rfl rfl h78 ?_
                go_simp
                exact hK _ _ rfl hG (Below.refl _ _)
              · intro a x hG hd hs K hK
                have h80 : a.tmps.getD 80 undef = .bool false := hd 9 80 (by kernel_rfl)
                have h78 : a.tmps.getD 78 undef = .bool true := hd 7 78 (by kernel_rfl)
                clear hd hs
                refine wpOp_yes rfl rfl rfl h78 ?_
                go_simp
                exact hK _ _ rfl hG (Below.refl _ _)
              · intro a x hG hd hs K hK
                have h13 : a.tmps.getD 13 undef = ua := hs 13 (by kernel_rfl)
                have h81 : a.tmps.getD 81 undef = .bool false := hd 10 81 (by kernel_rfl)
                clear hd hs
                refine wpOp_yes rfl rfl rfl h81 ?_
                go_simp
                exact hK _ _ rfl hG (Below.refl _ _)
              · intro a x hG hd hs K hK
                have h82 : a.tmps.getD 82 undef = ua := hd 11 82 (by kernel_rfl)
                have h81 : a.tmps.getD 81 undef = .bool false := hd 10 81 (by kernel_rfl)
                clear hd hs
                refine wpOp_yes rfl rfl rfl h81 ?_
                have cv := run_string_of (P := Try.prog) (hBa.ext (Nat.le_refl _) hG) 29 9 5 Try.underlying29 Try.underlying5 Try.underlying9
                rw [HS.out] at cv
                go_simp
                exact hK _ _ rfl hG (Below.refl _ _)
              · intro a x hG hd hs K hK
                have h15 : a.tmps.getD 15 undef = ul := hs 15 (by kernel_rfl)
                have h81 : a.tmps.getD 81 undef = .bool false := hd 10 81 (by kernel_rfl)
                clear hd hs
                refine wpOp_yes rfl rfl rfl h81 ?_
                go_simp
                exact hK _ _ rfl hG (Below.refl _ _)
              · intro a x hG hd hs K hK
                have h84 : a.tmps.getD 84 undef = ul := hd 13 84 (by kernel_rfl)
                have h81 : a.tmps.getD 81 undef = .bool false := hd 10 81 (by kernel_rfl)
                clear hd hs
                refine wpOp_yes rfl rfl rfl h81 ?_
                have cv := run_string_of (P := Try.prog) (hBl.ext (Nat.le_refl _) hG) 29 9 5 Try.underlying29 Try.underlying5 Try.underlying9
                rw [HT.out] at cv
                go_simp
                exact hK _ _ rfl hG (Below.refl _ _)
              · intro a x hG hd hs K hK
                have h83 : a.tmps.getD 83 undef = .string S := hd 12 83 (by kernel_rfl)
                have h85 : a.tmps.getD 85 undef = .string T := hd 14 85 (by kernel_rfl)
                have h81 : a.tmps.getD 81 undef = .bool false := hd 10 81 (by kernel_rfl)
                clear hd hs
                refine wpOp_yes rfl rfl rfl h81 ?_
                have hd := HST.out
                go_simp
                exact hK _ _ rfl hG (Below.refl _ _)
              · intro a x hG hd hs K hK
                have h5 : a.tmps.getD 5 undef = .slice Aa la.length ca := hs 5 (by kernel_rfl)
                have h81 : a.tmps.getD 81 undef = .bool false := hd 10 81 (by kernel_rfl)
                clear hd hs
                refine wpOp_yes rfl rfl rfl h81 ?_
                go_simp
                exact hK _ _ rfl hG (Below.refl _ _)
              · intro a x hG hd hs K hK
                have h0 : a.tmps.getD 0 undef = .slice A1 l.length c1 := hs 0 (by kernel_rfl)
                have h81 : a.tmps.getD 81 undef = .bool false := hd 10 81 (by kernel_rfl)
                clear hd hs
                refine wpOp_yes rfl rfl rfl h81 ?_
                go_simp
                exact hK _ _ rfl hG (Below.refl _ _)
              · intro a x hG hd hs K hK
                have h87 : a.tmps.getD 87 undef = .slice Aa la.length ca := hd 16 87 (by kernel_rfl)
                have h88 : a.tmps.getD 88 undef = .slice A1 l.length c1 := hd 17 88 (by kernel_rfl)
                have h81 : a.tmps.getD 81 undef = .bool false := hd 10 81 (by kernel_rfl)
                clear hd hs
                refine wpOp_yes rfl rfl rfl h81 ?_
                go_simp
                refine (same_any _ _ la l x ((hSa.below hG).more hG.size) ((hSl.below hG).more hG.size)).mono ?_
                rintro e w' ⟨rfl, hb⟩
                rw [HDQ.out]
                exact hK _ _ rfl (hG.trans (hb.mono hG.size)) hb
              · intro a x hG hd hs K hK
                have h86 : a.tmps.getD 86 undef = .bool dq := hd 15 86 (by kernel_rfl)
                have h89 : a.tmps.getD 89 undef = .bool dq := hd 18 89 (by kernel_rfl)
                have h81 : a.tmps.getD 81 undef = .bool false := hd 10 81 (by kernel_rfl)
                clear hd hs
                refine wpOp_yes rfl rfl rfl h81 ?_
                have hdd : (dq == dq) = true := by cases dq <;> rfl
                go_simp
                exact hK _ _ rfl hG (Below.refl _ _)
              · intro a x hG hd hs K hK
                have h81 : a.tmps.getD 81 undef = .bool false := hd 10 81 (by kernel_rfl)
                have h90 : a.tmps.getD 90 undef = .bool true := hd 19 90 (by kernel_rfl)
                have h78 : a.tmps.getD 78 undef = .bool true := hd 7 78 (by kernel_rfl)
                clear hd hs
                refine wpOp_yes rfl rfl rfl h78 ?_
                go_simp
                exact hK _ _ rfl hG (Below.refl _ _)
              · intro a x hG hd hs K hK
                have h78 : a.tmps.getD 78 undef = .bool true := hd 7 78 (by kernel_rfl)
                have h91 : a.tmps.getD 91 undef = .bool true := hd 20 91 (by kernel_rfl)
                clear hd hs
                refine wpOp_plain rfl rfl ?_
                go_simp
                exact hK _ _ rfl hG (Below.refl _ _)
              · intro a x hG hd hs K hK
                have h92 : a.tmps.getD 92 undef = .bool true := hd 21 92 (by kernel_rfl)
                clear hd hs
                refine wpOp_plain rfl rfl ?_
                go_simp
                exact hK _ _ rfl hG (Below.refl _ _)
              · intro a x hG hd hs K hK
                have h93 : a.tmps.getD 93 undef = .bool true := hd 22 93 (by kernel_rfl)
                clear hd hs
                refine wpOp_yes rfl rfl rfl h93 ?_
                go_simp
                refine (awake_any x).mono ?_
                rintro e w' ⟨rfl, hb⟩
                exact hK _ _ rfl (hG.trans (hb.mono hG.size)) hb
              · intro a x hG hd hs K hK
                have h93 : a.tmps.getD 93 undef = .bool true := hd 22 93 (by kernel_rfl)
                have h94 : a.tmps.getD 94 undef = .bool true := hd 23 94 (by kernel_rfl)
                clear hd hs
                refine wpOp_plain rfl rfl ?_
                go_simp
                exact hK _ _ rfl hG (Below.refl _ _)
              · intro a x hG hd hs K hK
                have h95 : a.tmps.getD 95 undef = .bool true := hd 24 95 (by kernel_rfl)
                clear hd hs
                refine wpOp_plain rfl rfl ?_
                go_simp
                exact hK _ _ rfl hG (Below.refl _ _)
            · intro x hG
              rintro _ rfl _ rfl _ rfl _ rfl _ rfl _ rfl _ rfl _ rfl _ rfl _ rfl _ rfl _ rfl _ rfl _ rfl _ rfl _ rfl _ rfl _ rfl _ rfl _ rfl _ rfl _ rfl _ rfl _ rfl _ rfl _ rfl
              simp only [Act.put, List.setIfInBounds_toArray, List.set_cons_zero, List.set_cons_succ, REnd]
              try simp only [Exit.then]
              have cx := cS.trans (hG.mono cS.size)
              go_wp2
              go_ret
              exact ⟨rfl, cx⟩

/-- What the walk gives, for every argument and every world that holds the table. -/
theorem entryOrder_contract (H : Type) (enc : TypeId × Value → H) (W : World) (base : Nat) (args : Array Value) (ds gs : List (DataW H)) (before : List MemPlace)
    (hval : ∀ (j : Nat) t v, Try.f3.params[j]? = some t → args[j]? = some v → Value.okWide Try.prog W .any base t v)
    (hW : DataW.Whole enc Try.prog Try.f3.params.toList Rows.entryOrderSpec.vars false W args.toList ds gs before) :
    Calls Try.prog 3 args W fun e W' => ∃ v, e = .returned v ∧ Rows.entryOrderSpec.post enc Try.prog Try.f3 false true false false W args v W' := by
  have hW' := hW
  obtain ⟨p, q, hA0, hV, hps, hfz, hnd⟩ := hW
  have hA : DataW.TrodAll enc Try.prog W 0 (fun _ => true) true Try.f3.params.toList args.toList ds p := hA0
  rw [Try.params3] at hA hval
  obtain ⟨v0, vs0, d0, ds0, p0, q0, hargs, rfl, rfl, h0, r0⟩ := trodAll_cons hA
  obtain ⟨v1, vs1, d1, ds1, p1, q1, rfl, rfl, rfl, h1, r1⟩ := trodAll_cons r0
  obtain ⟨rfl, rfl, rfl⟩ := trodAll_nil r1
  obtain rfl : args = #[v0, v1] := by cases args; simp_all
  obtain ⟨rfl, rfl⟩ := trodVars_none hV
  obtain ⟨l0, b0⟩ := entries_of_trod (hval 0 22 v0 rfl rfl) h0
  obtain ⟨z1, rfl, rfl, rfl, wf1⟩ := open_int Try.underlying5 (hval 1 5 v1 rfl rfl) h1
  obtain ⟨n1, rfl⟩ := Int.eq_ofNat_of_zero_le (wf_u8 wf1).1
  clear hA0
  refine (entryOrder_walk W v0 l0 n1 (by have := wf_u8 wf1; omega) b0).mono fun e W' ⟨he, hb⟩ => ?_
  subst he
  exact ⟨_, rfl, law_post laidOut (by rw [Try.params3]; decide +kernel) rfl Try.underlying4 rfl rfl hW' hb⟩

set_option maxRecDepth 100000 in
theorem entryOrder_lifted (os : Os) (started : os.Started) (H : Type) (enc : TypeId × Value → H) :
    ReturnsInHanded {} Try.checked os 3 .any (Rows.entryOrderSpec.pre6 enc Try.prog Try.f3 Rows.entryOrderRow.domain false) (Rows.entryOrderSpec.post enc Try.prog Try.f3 false true false false) := by
  refine returnsInHanded_of_change (C := Try.checked) own started (by kernel_rfl) Try.func3
    (ChangeSpec.witness6 (enc := enc) (C := Try.checked) false ⟨#[], #[.slice none 0 0, .int .u8 0], []⟩ 8 (by kernel_rfl) (by kernel_rfl) (by kernel_rfl) (by kernel_rfl)) ?_
  intro W base args ds gs before hval hW _ _
  exact entryOrder_contract H enc W base args ds gs before hval hW

theorem entryOrder_holds : Rows.EntryOrderSaid :=
  OpenClaim.holds_of_wide 3 Try.f3 rfl rfl rfl rfl rfl rfl rfl ⟨rfl, rfl, rfl, rfl, rfl⟩ rfl rfl rfl rfl rfl (by kernel_rfl) Try.func3 (by kernel_rfl)
    (of_decide_eq_true (by kernel_rfl)) (by unfold Func.isWrapper; first | (rw [if_pos (by decide +kernel)]; kernel_rfl) | (rw [if_neg (by decide +kernel)]; exact ⟨rfl, rfl⟩))
    (fun os started H enc _ => entryOrder_lifted os started H enc)

end Go.Proofs.Ytahkhieoabbaaaa
