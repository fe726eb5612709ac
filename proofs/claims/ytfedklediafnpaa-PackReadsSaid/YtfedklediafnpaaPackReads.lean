/-
  PackReads: taken out at once, or one by one, each behind the one ahead, numbers are the same; one octet less than they ask is too few. For every input.
-/
import Derived.Test.YtfedklediafnpaaPackL
import Derived.Test.YtfedklediafnpaaPlain
import Derived.Deep.DeepCutAuto
namespace Go.Proofs.Ytfedklediafnpaa
open Go.ChangeShapes Go.WideShapes Go.ChangeAt Go.RowKit

theorem stab_us (l : List Nat) : Stab fun v w => Us w w.heap.size v l := fun _ _ _ h hb => Rds.more (Rds.ext h (Nat.le_refl _) hb) hb.size
def TupUs (l : List Nat) (v : Value) (x : World) : Prop := ∃ u, v = .tuple #[u, .int .i64 0] ∧ Us x x.heap.size u l
theorem stab_tup (l : List Nat) : Stab (TupUs l) := fun _ _ _ ⟨u, h1, h⟩ hb => ⟨u, h1, Rds.more (Rds.ext h (Nat.le_refl _) hb) hb.size⟩

set_option maxRecDepth 100000 in
set_option maxHeartbeats 2000000 in
theorem packReads_walk (w : World) (v0 v1 : Value) (l : List UInt8) (ws : List Int) (h0 : Bs w w.heap.size v0 l) (h1 : Is .i64 w w.heap.size v1 ws) :
    Calls Try.prog 6 #[v0, v1] w fun e w' => e = .returned (.bool true) ∧ Below w.heap.size w w' := by
  obtain ⟨A0, c0, rfl, hc0, hx0, _⟩ := h0.openD
  obtain ⟨A1, c1, rfl, hc1, hx1, _⟩ := h1.open_
  go_enter Try.func6, Try.ntmps6
  go_upto_if 15 with fail
  go_cut [0] (fun s wx => w = wx ∧ Bs w w.heap.size s (l.take 200))
  case first =>
    by_cases h : 200 < l.length
    · have h' : (200 : Int) < l.length := by omega
      have hl2 : (200 : Int) ≤ c0 := by omega
      have hl3 : (200 : Nat) ≤ c0 := by omega
      have hh := Lib.hid (h0.head (k := 200) (by omega))
      clear h0
      go_wp2
      go_meet
      exact ⟨rfl, hh.out⟩
    · have h' : ¬ (200 : Int) < l.length := by omega
      go_wp2
      go_meet
      exact ⟨rfl, by rw [List.take_of_length_le (by omega)]; exact h0⟩
  obtain ⟨rfl, b0⟩ := hcut
  clear h0
  have hm0 : (l.take 200).length ≤ 200 := by rw [List.length_take]; omega
  generalize l.take 200 = m at *
  obtain ⟨A2, c2, rfl, hc2, hx2, hcell⟩ := b0.openD
  go_upto_if 20 with fail
  go_cut [1] (fun s wx => w = wx ∧ Is .i64 w w.heap.size s (ws.take 30))
  case first =>
    by_cases h : 30 < ws.length
    · have h' : (30 : Int) < ws.length := by omega
      have hl2 : (30 : Int) ≤ c1 := by omega
      have hl3 : (30 : Nat) ≤ c1 := by omega
      have hh := Lib.hid (h1.head (k := 30) (by omega))
      clear h1
      go_wp2
      go_meet
      exact ⟨rfl, hh.out⟩
    · have h' : ¬ (30 : Int) < ws.length := by omega
      go_wp2
      go_meet
      exact ⟨rfl, by rw [List.take_of_length_le (by omega)]; exact h1⟩
  obtain ⟨rfl, b1⟩ := hcut
  clear h1
  have hm1 : (ws.take 30).length ≤ 30 := by rw [List.length_take]; omega
  generalize ws.take 30 = us at *
  obtain ⟨A3, c3, rfl, hc3, hx3, hcell3⟩ := b1.open_
  go_wp2_with fail
  refine (unpack_any _ _ _ _ m us b0 b1 (Nat.le_refl _) (by omega)).mono ?_
  rintro e w1 ⟨x1, rfl, hown1, hb1⟩
  have hs1 : Us w1 w1.heap.size x1 (Pk.unpacked m us) := Us.of_own hown1
  clear hown1
  by_cases herr : Pk.uerr m us = 0
  · have HK := Lib.hid (show Pk.unpacked m us = Pk.nums m us by unfold Pk.unpacked; rw [if_pos herr])
    rw [HK.out] at hs1
    obtain ⟨hall, hneed⟩ := Pk.uerr_zero herr
    have HA := Lib.hid hall
    have HLN := Lib.hid (Pk.length_nums m us)
    have HNG := Lib.hid (Pk.nums_get m us)
    have HND := Lib.hid (fun k => Pk.need_take_le us k)
    rw [herr]
    clear herr hall
    generalize hnn : Pk.nums m us = nn at *
    clear hnn
    obtain ⟨A4, c4, rfl, hc4, hx4, hcell4⟩ := hs1.openD
    have hnl : nn.length ≤ 30 := by rw [HLN.out]; exact hm1
    go_wp2
    go_loopw [7, 8] (fun p i wr => ∃ k : Nat, k ≤ us.length ∧ i = .int .i64 k ∧ p = .int .i64 (Pk.need (us.take k) : Nat) ∧ Below w1.heap.size w1 wr) (fun _ i _ => us.length - (intOf i).toNat)
    case atStart => exact ⟨0, Nat.zero_le _, rfl, rfl, Below.refl _ _⟩
    case round =>
      obtain ⟨k, hk, rfl, rfl, hbw⟩ := hrel
      by_cases hlt : k < us.length
      · obtain ⟨b3, o3, rfl, hb3, he3⟩ := hcell3 k hlt
        have hwd := (Pk.isW_iff _).1 (HA.out us[k] (List.getElem_mem hlt))
        have HN := Lib.hid (Pk.need_snoc us k hlt)
        have HG := Lib.hid (HNG.out k hlt)
        have hnd := HND.out (k + 1)
        rw [HN.out] at hnd
        generalize us[k] = wd at *
        obtain ⟨wn, rfl⟩ := Int.eq_ofNat_of_zero_le (show 0 ≤ wd by omega)
        rw [Int.toNat_natCast] at hnd HN HG
        generalize Pk.need (us.take k) = Nd at *
        obtain ⟨b2, o2, rfl, hb2, _⟩ := hcell 0 (by omega)
        have HB := Lib.hid (b0.tail (k := Nd) (by omega))
        rw [if_neg (by omega)] at HB
        simp only [Option.map_some, add_plain] at HB
        have HU := Lib.hid (Pk.uerr_one (m.drop Nd) wn ⟨by omega, by omega⟩ (by rw [List.length_drop]; omega))
        obtain ⟨b4, o4, rfl, hb4, he4⟩ := hcell4 k (by rw [HLN.out]; exact hlt)
        rw [HG.out] at he4
        generalize hVV : Pk.val ((m.drop Nd).take wn) = VV at *
        have hknn : k < nn.length := by rw [HLN.out]; exact hlt
        clear hcell3 hcell hcell4 hVV
        have i1 : (Nd : Int) ≤ m.length := by omega
        have i2 : (0 : Int) ≤ Nd := by omega
        have i3 : (0 : Int) ≤ k := by omega
        have i4 : (k : Int) < us.length := by omega
        have i5 : (m.length : Int) ≤ c2 := by omega
        have j1 : Nd ≤ m.length := by omega
        have j2 : ¬ c2 = Nd := by omega
        have hbb := hb1.trans (hbw.mono hb1.size)
        go_wp2_with fail
        have hG0 : Below wr.heap.size wr wr.drew := (Below.refl _ _).drew
        refine wp_region_list 14 [(fun v _ => v = .slice (some ⟨b2, o2, none⟩) m.length c2),
          (fun v _ => v = .int .i64 (Nd : Int)),
          (fun v _ => v = .slice (some ⟨b2, o2 + Nd, none⟩) (m.length - Nd) (c2 - Nd)),
          (fun v _ => v = .slice (some ⟨b3, o3, none⟩) us.length c3),
          (fun v _ => v = .int .i64 (k : Int)),
          (fun v _ => v = .pointer (some ⟨b3, o3 + k, none⟩)),
          (fun v _ => v = .int .i64 (wn : Int)),
          (fun v x => Is .i64 x x.heap.size v [(wn : Int)]),
          (TupUs [VV]),
          (TupUs [VV]),
          (fun v x => Us x x.heap.size v [VV]),
          (fun v _ => v = .int .i64 0),
          (fun v x => Us x x.heap.size v [VV]),
          (fun v _ => v = .int .i64 0)]
          (fun x => Below wr.heap.size wr x) (by kernel_rfl) rfl (by kernel_rfl) ?_ ?_ ?_ ?_
        · exact hG0
        · exact ⟨stab_eq _, stab_eq _, stab_eq _, stab_eq _, stab_eq _, stab_eq _, stab_eq _, fun _ _ _ h hb => Rds.more (Rds.ext h (Nat.le_refl _) hb) hb.size, stab_tup _, stab_tup _, stab_us _, stab_eq _, stab_us _, stab_eq _, trivial⟩
        · refine ⟨?_, ?_, ?_, ?_, ?_, ?_, ?_, ?_, ?_, ?_, ?_, ?_, ?_, ?_, trivial⟩
          · intro a x hG hd hs K hK
            have h0 : a.tmps.getD 0 undef = .slice (some ⟨b2, o2, none⟩) m.length c2 := hs 0 (by kernel_rfl)
            clear hd hs
            refine wpOp_plain rfl rfl ?_
            go_simp
            exact hK _ _ rfl hG (Below.refl _ _)
          · intro a x hG hd hs K hK
            have h7 : a.tmps.getD 7 undef = .int .i64 (Nd : Int) := hs 7 (by kernel_rfl)
            clear hd hs
            refine wpOp_plain rfl rfl ?_
            go_simp
            exact hK _ _ rfl hG (Below.refl _ _)
          · intro a x hG hd hs K hK
            have h44 : a.tmps.getD 44 undef = .slice (some ⟨b2, o2, none⟩) m.length c2 := hd 0 44 (by kernel_rfl)
            have h45 : a.tmps.getD 45 undef = .int .i64 (Nd : Int) := hd 1 45 (by kernel_rfl)
            clear hd hs
            refine wpOp_plain rfl rfl ?_
            go_simp
            exact hK _ _ rfl hG (Below.refl _ _)
          · intro a x hG hd hs K hK
            have h1 : a.tmps.getD 1 undef = .slice (some ⟨b3, o3, none⟩) us.length c3 := hs 1 (by kernel_rfl)
            clear hd hs
            refine wpOp_plain rfl rfl ?_
            go_simp
            exact hK _ _ rfl hG (Below.refl _ _)
          · intro a x hG hd hs K hK
            have h8 : a.tmps.getD 8 undef = .int .i64 (k : Int) := hs 8 (by kernel_rfl)
            clear hd hs
            refine wpOp_plain rfl rfl ?_
            go_simp
            exact hK _ _ rfl hG (Below.refl _ _)
          · intro a x hG hd hs K hK
            have h47 : a.tmps.getD 47 undef = .slice (some ⟨b3, o3, none⟩) us.length c3 := hd 3 47 (by kernel_rfl)
            have h48 : a.tmps.getD 48 undef = .int .i64 (k : Int) := hd 4 48 (by kernel_rfl)
            clear hd hs
            refine wpOp_plain rfl rfl ?_
            go_simp
            exact hK _ _ rfl hG (Below.refl _ _)
          · intro a x hG hd hs K hK
            have h49 : a.tmps.getD 49 undef = .pointer (some ⟨b3, o3 + k, none⟩) := hd 5 49 (by kernel_rfl)
            clear hd hs
            refine wpOp_plain rfl rfl ?_
            have hc := (hG.cell (p := ⟨b3, o3 + k, none⟩) (Nat.lt_of_lt_of_le hb3 hbb.size)).trans ((hbb.cell (p := ⟨b3, o3 + k, none⟩) hb3).trans he3)
            go_simp
            exact hK _ _ rfl hG (Below.refl _ _)
          · intro a x hG hd hs K hK
            have h50 : a.tmps.getD 50 undef = .int .i64 (wn : Int) := hd 6 50 (by kernel_rfl)
            have h50o := getD_opt h50
            clear hd hs
            refine wpOp_plain rfl rfl ?_
            go_simp
            exact hK _ _ (Rds.more (Is.lit .i64 x _ _ [(wn : Int)] 1 rfl rfl (by simp [maxLen])) (by simp)) (hG.alloc hG.size _) ((Below.refl _ _).alloc (Nat.le_refl _) _)
          · intro a x hG hd hs K hK
            have h46 : a.tmps.getD 46 undef = .slice (some ⟨b2, o2 + Nd, none⟩) (m.length - Nd) (c2 - Nd) := hd 2 46 (by kernel_rfl)
            have h51 : (fun v x => Is .i64 x x.heap.size v [(wn : Int)]) (a.tmps.getD 51 undef) x := hd 7 51 (by kernel_rfl)
            clear hd hs
            refine wpOp_plain rfl rfl ?_
            obtain ⟨uu, huu⟩ : ∃ uu, a.tmps.getD 51 undef = uu := ⟨_, rfl⟩
            rw [huu] at h51
            go_simp
            refine (unpack_any _ _ _ x.heap.size (m.drop Nd) [(wn : Int)] (((HB.out.ext (Nat.le_refl _) hbb).ext hbb.size hG).more (Nat.le_trans hbb.size hG.size)) h51 (Nat.le_refl _) (by simp)).mono ?_
            rintro e w' ⟨y, rfl, hown, hb⟩
            rw [HU.out.1]
            rw [HU.out.2] at hown
            exact hK _ _ ⟨y, rfl, Us.of_own hown⟩ (hG.trans (hb.mono hG.size)) hb
          · intro a x hG hd hs K hK
            have h52 : (TupUs [VV]) (a.tmps.getD 52 undef) x := hd 8 52 (by kernel_rfl)
            clear hd hs
            refine wpOp_plain rfl rfl ?_
            obtain ⟨uu, huu⟩ : ∃ uu, a.tmps.getD 52 undef = uu := ⟨_, rfl⟩
            rw [huu] at h52
            go_simp
            exact hK _ _ h52 hG (Below.refl _ _)
          · intro a x hG hd hs K hK
            have h43 : (TupUs [VV]) (a.tmps.getD 43 undef) x := hd 9 43 (by kernel_rfl)
            clear hd hs
            refine wpOp_plain rfl rfl ?_
            obtain ⟨u, hu1, hu2⟩ := h43
            go_simp
            exact hK _ _ hu2 hG (Below.refl _ _)
          · intro a x hG hd hs K hK
            have h43 : (TupUs [VV]) (a.tmps.getD 43 undef) x := hd 9 43 (by kernel_rfl)
            clear hd hs
            refine wpOp_plain rfl rfl ?_
            obtain ⟨u, hu1, hu2⟩ := h43
            go_simp
            exact hK _ _ rfl hG (Below.refl _ _)
          · intro a x hG hd hs K hK
            have h53 : (fun v x => Us x x.heap.size v [VV]) (a.tmps.getD 53 undef) x := hd 10 53 (by kernel_rfl)
            clear hd hs
            refine wpOp_plain rfl rfl ?_
            obtain ⟨uu, huu⟩ : ∃ uu, a.tmps.getD 53 undef = uu := ⟨_, rfl⟩
            rw [huu] at h53
            go_simp
            exact hK _ _ h53 hG (Below.refl _ _)
          · intro a x hG hd hs K hK
            have h54 : a.tmps.getD 54 undef = .int .i64 0 := hd 11 54 (by kernel_rfl)
            clear hd hs
            refine wpOp_plain rfl rfl ?_
            go_simp
            exact hK _ _ rfl hG (Below.refl _ _)
        · intro x hG
          rintro _ rfl _ rfl _ rfl _ rfl _ rfl _ rfl _ rfl v7 hv7 v8 hv8 v9 hv9 v10 hv10 _ rfl v12 hv12 _ rfl
          simp only [Act.put, List.setIfInBounds_toArray, List.set_cons_zero, List.set_cons_succ, REnd]
          try simp only [Exit.then]
          have hbx := hbw.trans (hG.mono hbw.size)
          have hsx := hv12
          obtain ⟨A5, c5, rfl, hc5, hx5, hcell5⟩ := hsx.openD
          obtain ⟨b5, o5, rfl, hb5, he5⟩ := hcell5 0 (by simp)
          simp only [List.getD_cons_zero, Nat.add_zero] at he5
          simp only [List.length_cons, List.length_nil, Nat.zero_add] at hc5 ⊢
          have he4x := (hbx.cell (p := ⟨b4, o4 + k, none⟩) hb4).trans he4
          have he3x := ((hb1.trans (hbx.mono hb1.size)).cell (p := ⟨b3, o3 + k, none⟩) hb3).trans he3
          have i6 : (k : Int) < nn.length := by omega
          have i7 : ¬ (nn.length : Int) ≤ k := by omega
          have i8 : ¬ nn.length ≤ k := by omega
          clear hcell5 hv8 hv9 hv10 hv12 hsx
          go_wp2
          go_quiet (fail)
          go_wp2
          go_roundw
          case rel => exact ⟨k + 1, by omega, by go_num, by rw [HN.out]; go_num, below_drewN hbx _⟩
          case measure => simp [intOf]; omega
      · obtain rfl : k = us.length := by omega
        rw [List.take_length]
        have hbb := hb1.trans (hbw.mono hb1.size)
        have HP := Lib.hid (fun h => Pk.need_pos HA.out h)
        have HSH := Lib.hid (fun l h => Pk.uerr_short (l := l) HA.out h)
        generalize Pk.need us = Nt at *
        clear hcell hcell3 hcell4
        by_cases ht : Nt = 0
        · have hz : nn.length = 0 := by rw [HLN.out, HP.out ht]; rfl
          have hz' : ((nn.length : Int) == 0) = true := by rw [beq_iff_eq]; omega
          have ht' : ((Nt : Int) == 0) = true := by rw [beq_iff_eq]; omega
          have Hz := Lib.hid hz
          have Ht := Lib.hid ht
          clear hz ht
          go_wp2_with fail
          refine (awakeP_any _).mono ?_
          rintro e w4 ⟨rfl, hb4⟩
          go_wp2
          go_ret
          exact ⟨rfl, hbb.trans (hb4.mono hbb.size)⟩
        · have ht' : ((Nt : Int) == 0) = false := by rw [beq_eq_false_iff_ne]; omega
          have i1 : (1 : Int) ≤ Nt := by omega
          have i2 : (Nt : Int) - 1 ≤ c2 := by omega
          have i3 : (0 : Int) ≤ (Nt : Int) - 1 := by omega
          have hh := (b0.head (k := Nt - 1) (by omega)).ext (Nat.le_refl _) hbb
          have hlq : ((nn.length : Int) == us.length) = true := by rw [beq_iff_eq, HLN.out]
          go_wp2_with fail
          have hlt1 : (m.take (Nt - 1)).length < Nt := by rw [List.length_take]; omega
          have HE := Lib.hid (HSH.out _ hlt1)
          refine (unpack_any _ _ _ w.heap.size (m.take (Nt - 1)) us hh (Rds.ext b1 (Nat.le_refl _) hbb) hbb.size (by omega)).mono ?_
          rintro e w4 ⟨y, rfl, hown, hb4⟩
          rw [HE.out]
          have hbc := hbb.trans (hb4.mono hbb.size)
          clear hown hlt1
          go_wp2_with fail
          refine (awakeP_any _).mono ?_
          rintro e w5 ⟨rfl, hb5⟩
          go_wp2
          go_ret
          exact ⟨rfl, hbc.trans (hb5.mono hbc.size)⟩
  · have hne : ((Pk.uerr m us : Int) != 0) = true := by rw [bne_iff_ne]; omega
    have HK := Lib.hid (show Pk.unpacked m us = [] by unfold Pk.unpacked; rw [if_neg herr])
    rw [HK.out] at hs1
    obtain ⟨A4, c4, rfl, hc4, hx4, _⟩ := hs1.openD
    simp only [List.length_nil]
    generalize Pk.uerr m us = er at *
    clear herr hcell hcell3
    go_wp2_with fail
    refine (awakeP_any _).mono ?_
    rintro e w4 ⟨rfl, hb4⟩
    go_wp2
    go_ret
    exact ⟨rfl, hb1.trans (hb4.mono hb1.size)⟩

/-- What the walk gives, for every argument and every world that holds the table. -/
theorem packReads_contract (H : Type) (enc : TypeId × Value → H) (W : World) (base : Nat) (args : Array Value) (ds gs : List (DataW H)) (before : List MemPlace)
    (hval : ∀ (j : Nat) t v, Try.f6.params[j]? = some t → args[j]? = some v → Value.okWide Try.prog W .any base t v)
    (hW : DataW.Whole enc Try.prog Try.f6.params.toList Rows.packReadsSpec.vars false W args.toList ds gs before) :
    Calls Try.prog 6 args W fun e W' => ∃ v, e = .returned v ∧ Rows.packReadsSpec.post enc Try.prog Try.f6 false true false false W args v W' := by
  have hW' := hW
  obtain ⟨p, q, hA0, hV, hps, hfz, hnd⟩ := hW
  have hA : DataW.TrodAll enc Try.prog W 0 (fun _ => true) true Try.f6.params.toList args.toList ds p := hA0
  rw [Try.params6] at hA hval
  obtain ⟨v0, vs0, d0, ds0, p0, q0, hargs, rfl, rfl, h0, r0⟩ := trodAll_cons hA
  obtain ⟨v1, vs1, d1, ds1, p1, q1, rfl, rfl, rfl, h1, r1⟩ := trodAll_cons r0
  obtain ⟨rfl, rfl, rfl⟩ := trodAll_nil r1
  obtain rfl : args = #[v0, v1] := by cases args; simp_all
  obtain ⟨rfl, rfl⟩ := trodVars_none hV
  obtain ⟨l0, b0⟩ := bs_of_trod Try.underlying22 Try.underlying5 cellsU8 (hval 0 22 v0 rfl rfl) h0
  obtain ⟨l1, b1, _⟩ := is_of_trod (k := .i64) Try.underlying23 Try.underlying3 (by kernel_rfl) (hval 1 23 v1 rfl rfl) h1
  clear hA0
  refine (packReads_walk W v0 v1 l0 l1 b0 b1).mono fun e W' ⟨he, hb⟩ => ?_
  subst he
  exact ⟨_, rfl, law_post laidOut (by rw [Try.params6]; decide +kernel) rfl Try.underlying4 rfl rfl hW' hb⟩

set_option maxRecDepth 100000 in
theorem packReads_lifted (os : Os) (started : os.Started) (H : Type) (enc : TypeId × Value → H) :
    ReturnsInHanded {} Try.checked os 6 .any (Rows.packReadsSpec.pre6 enc Try.prog Try.f6 Rows.packReadsRow.domain false) (Rows.packReadsSpec.post enc Try.prog Try.f6 false true false false) := by
  refine returnsInHanded_of_change (C := Try.checked) own started (by kernel_rfl) Try.func6
    (ChangeSpec.witness6 (enc := enc) (C := Try.checked) false ⟨#[], #[.slice none 0 0, .slice none 0 0], []⟩ 8 (by kernel_rfl) (by kernel_rfl) (by kernel_rfl) (by kernel_rfl)) ?_
  intro W base args ds gs before hval hW _ _
  exact packReads_contract H enc W base args ds gs before hval hW

theorem packReads_holds : Rows.PackReadsSaid :=
  OpenClaim.holds_of_wide 6 Try.f6 rfl rfl rfl rfl rfl rfl rfl ⟨rfl, rfl, rfl, rfl, rfl⟩ rfl rfl rfl rfl rfl (by kernel_rfl) Try.func6 (by kernel_rfl)
    (of_decide_eq_true (by kernel_rfl)) (by unfold Func.isWrapper; first | (rw [if_pos (by decide +kernel)]; kernel_rfl) | (rw [if_neg (by decide +kernel)]; exact ⟨rfl, rfl⟩))
    (fun os started H enc _ => packReads_lifted os started H enc)

end Go.Proofs.Ytfedklediafnpaa
