/-
  PackJoins: the record of two lists of numbers, one behind the other, is both records so; of two numbers of one width the less one's record comes first, octet by octet. For every input.
-/
import Derived.Test.YtfedklediafnpaaPackL
import Derived.Test.YtfedklediafnpaaPackO
import Derived.Test.YtfedklediafnpaaPlain
import Derived.Deep.DeepCutAuto
import Derived.WalkLawsBesides
namespace Go.Proofs.Ytfedklediafnpaa
open Go.ChangeShapes Go.WideShapes Go.ChangeAt Go.RowKit

theorem infoNum : (Try.prog.info? 39).map (fun i => (i.zero, i.size, i.bytes)) = some (some (.agg #[.int .i64 0, .int .u64 0]), 2, 16) := by kernel_rfl
theorem nums_oneCell (l : List (Int × Nat)) : ∀ u ∈ (l.flatMap fun x => [Value.int .i64 x.1, Value.int .u64 (x.2 : Int)]), u.oneCell' = true := by
  intro u hu
  obtain ⟨x, _, hx⟩ := List.mem_flatMap.1 hu
  simp only [List.mem_cons, List.not_mem_nil, or_false] at hx
  rcases hx with rfl | rfl <;> rfl
theorem stab_nums (l : List (Int × Nat)) : Stab fun v w => Nums w w.heap.size v l := fun _ _ _ h hb => Rds.more (Rds.ext h (Nat.le_refl _) hb) hb.size

set_option maxRecDepth 100000 in
set_option maxHeartbeats 4000000 in
theorem packJoins_walk (w : World) (va vb : Value) (zc zd : Int) (la lb : List (Int × Nat)) (ha : Nums w w.heap.size va la) (hb : Nums w w.heap.size vb lb) (hua : ∀ x ∈ la, x.2 < 18446744073709551616) (hub : ∀ x ∈ lb, x.2 < 18446744073709551616) (wfc : (Lit.int .u64 zc).wf = true) (wfd : (Lit.int .u64 zd).wf = true) :
    Calls Try.prog 5 #[.agg #[va, vb, .int .u64 zc, .int .u64 zd]] w fun e w' => e = .returned (.bool true) ∧ Below w.heap.size w w' := by
  have hzc := wf_u64 wfc
  have hzd := wf_u64 wfd
  obtain ⟨vn, rfl⟩ := Int.eq_ofNat_of_zero_le hzc.1
  obtain ⟨wn, rfl⟩ := Int.eq_ofNat_of_zero_le hzd.1
  have hvn : vn < 18446744073709551616 := by omega
  have hwn : wn < 18446744073709551616 := by omega
  obtain ⟨A0, c0, rfl, hc0, hx0, _⟩ := ha.open_
  obtain ⟨A1, c1, rfl, hc1, hx1, _⟩ := hb.open_
  have HUA := Lib.hid (fun x hx => hua x (List.mem_of_mem_take (i := 60) hx))
  have HUB := Lib.hid (fun x hx => hub x (List.mem_of_mem_take (i := 60) hx))
  clear hua hub wfc wfd hzc hzd
  go_enter Try.func5, Try.ntmps5
  go_wp2_with fail
  have hbl := (Below.refl w.heap.size w).alloc (Nat.le_refl _) (.cells #[.slice A0 la.length c0, .slice A1 lb.length c1, .int .u64 (vn : Int), .int .u64 (wn : Int)] 42)
  have hkb := Blk.new w 42 #[.slice A0 la.length c0, .slice A1 lb.length c1, .int .u64 (vn : Int), .int .u64 (wn : Int)]
  generalize w.alloc (.cells #[.slice A0 la.length c0, .slice A1 lb.length c1, .int .u64 (vn : Int), .int .u64 (wn : Int)] 42) = W1 at *
  have a1 := Rds.ext ha (Nat.le_refl _) hbl
  have b1 := Rds.ext hb (Nat.le_refl _) hbl
  have hG0 : Below W1.heap.size W1 W1.drew := (Below.refl _ _).drew
  refine wp_region_list 14 [(fun v _ => v = .pointer (some ⟨w.heap.size, 0, none⟩)),
    (fun v _ => v = .slice A0 la.length c0),
    (fun v x => Nums x x.heap.size v (la.take 60)),
    (fun v _ => v = .pointer (some ⟨w.heap.size, 1, none⟩)),
    (fun v _ => v = .slice A1 lb.length c1),
    (fun v x => Nums x x.heap.size v (lb.take 60)),
    (fun v _ => v = .pointer (some ⟨w.heap.size, 2, none⟩)),
    (fun v _ => v = .int .u64 (vn : Int)),
    (fun v _ => v = .pointer (some ⟨w.heap.size, 3, none⟩)),
    (fun v _ => v = .int .u64 (wn : Int)),
    (fun v x => Nums x x.heap.size v (la.take 60)),
    (fun v x => Nums x x.heap.size v (lb.take 60)),
    (fun v _ => v = .int .u64 (vn : Int)),
    (fun v _ => v = .int .u64 (wn : Int))]
    (fun x => Below W1.heap.size W1 x) (by kernel_rfl) rfl (by kernel_rfl) ?_ ?_ ?_ ?_
  · exact hG0
  · exact ⟨stab_eq _, stab_eq _, stab_nums _, stab_eq _, stab_eq _, stab_nums _, stab_eq _, stab_eq _, stab_eq _, stab_eq _, stab_nums _, stab_nums _, stab_eq _, stab_eq _, trivial⟩
  · refine ⟨?_, ?_, ?_, ?_, ?_, ?_, ?_, ?_, ?_, ?_, ?_, ?_, ?_, ?_, trivial⟩
    · intro a x hG hd hs K hK
      have h1 : a.tmps.getD 1 undef = .pointer (some ⟨w.heap.size, 0, none⟩) := hs 1 (by kernel_rfl)
      clear hd hs
      refine wpOp_plain rfl rfl ?_
      go_simp
      exact hK _ _ rfl hG (Below.refl _ _)
    · intro a x hG hd hs K hK
      have h17 : a.tmps.getD 17 undef = .pointer (some ⟨w.heap.size, 0, none⟩) := hd 0 17 (by kernel_rfl)
      clear hd hs
      refine wpOp_plain rfl rfl ?_
      have hc := (hkb.ext hG).cell 0
      simp only [List.getElem?_cons_zero] at hc
      go_simp
      exact hK _ _ rfl hG (Below.refl _ _)
    · intro a x hG hd hs K hK
      have h18 : a.tmps.getD 18 undef = .slice A0 la.length c0 := hd 1 18 (by kernel_rfl)
      clear hd hs
      refine wpOp_plain rfl rfl ?_
      go_simp
      refine (fewN_any _ _ _ la (Rds.more (Rds.ext a1 hbl.size hG) (Nat.le_trans hbl.size hG.size))).mono ?_
      rintro e w' ⟨u, rfl, hu, rfl⟩
      exact hK _ _ hu hG (Below.refl _ _)
    · intro a x hG hd hs K hK
      have h1 : a.tmps.getD 1 undef = .pointer (some ⟨w.heap.size, 0, none⟩) := hs 1 (by kernel_rfl)
      clear hd hs
      refine wpOp_plain rfl rfl ?_
      go_simp
      exact hK _ _ rfl hG (Below.refl _ _)
    · intro a x hG hd hs K hK
      have h20 : a.tmps.getD 20 undef = .pointer (some ⟨w.heap.size, 1, none⟩) := hd 3 20 (by kernel_rfl)
      clear hd hs
      refine wpOp_plain rfl rfl ?_
      have hc := (hkb.ext hG).cell 1
      simp only [List.getElem?_cons_zero, List.getElem?_cons_succ] at hc
      go_simp
      exact hK _ _ rfl hG (Below.refl _ _)
    · intro a x hG hd hs K hK
      have h21 : a.tmps.getD 21 undef = .slice A1 lb.length c1 := hd 4 21 (by kernel_rfl)
      clear hd hs
      refine wpOp_plain rfl rfl ?_
      go_simp
      refine (fewN_any _ _ _ lb (Rds.more (Rds.ext b1 hbl.size hG) (Nat.le_trans hbl.size hG.size))).mono ?_
      rintro e w' ⟨u, rfl, hu, rfl⟩
      exact hK _ _ hu hG (Below.refl _ _)
    · intro a x hG hd hs K hK
      have h1 : a.tmps.getD 1 undef = .pointer (some ⟨w.heap.size, 0, none⟩) := hs 1 (by kernel_rfl)
      clear hd hs
      refine wpOp_plain rfl rfl ?_
      go_simp
      exact hK _ _ rfl hG (Below.refl _ _)
    · intro a x hG hd hs K hK
      have h23 : a.tmps.getD 23 undef = .pointer (some ⟨w.heap.size, 2, none⟩) := hd 6 23 (by kernel_rfl)
      clear hd hs
      refine wpOp_plain rfl rfl ?_
      have hc := (hkb.ext hG).cell 2
      simp only [List.getElem?_cons_zero, List.getElem?_cons_succ] at hc
      go_simp
      exact hK _ _ rfl hG (Below.refl _ _)
    · intro a x hG hd hs K hK
      have h1 : a.tmps.getD 1 undef = .pointer (some ⟨w.heap.size, 0, none⟩) := hs 1 (by kernel_rfl)
      clear hd hs
      refine wpOp_plain rfl rfl ?_
      go_simp
      exact hK _ _ rfl hG (Below.refl _ _)
    · intro a x hG hd hs K hK
      have h25 : a.tmps.getD 25 undef = .pointer (some ⟨w.heap.size, 3, none⟩) := hd 8 25 (by kernel_rfl)
      clear hd hs
      refine wpOp_plain rfl rfl ?_
      have hc := (hkb.ext hG).cell 3
      simp only [List.getElem?_cons_zero, List.getElem?_cons_succ] at hc
      go_simp
      exact hK _ _ rfl hG (Below.refl _ _)
    · intro a x hG hd hs K hK
      have h19 : (fun v x => Nums x x.heap.size v (la.take 60)) (a.tmps.getD 19 undef) x := hd 2 19 (by kernel_rfl)
      clear hd hs
      refine wpOp_plain rfl rfl ?_
      obtain ⟨uu, huu⟩ : ∃ uu, a.tmps.getD 19 undef = uu := ⟨_, rfl⟩
      rw [huu] at h19
      go_simp
      exact hK _ _ h19 hG (Below.refl _ _)
    · intro a x hG hd hs K hK
      have h22 : (fun v x => Nums x x.heap.size v (lb.take 60)) (a.tmps.getD 22 undef) x := hd 5 22 (by kernel_rfl)
      clear hd hs
      refine wpOp_plain rfl rfl ?_
      obtain ⟨uu, huu⟩ : ∃ uu, a.tmps.getD 22 undef = uu := ⟨_, rfl⟩
      rw [huu] at h22
      go_simp
      exact hK _ _ h22 hG (Below.refl _ _)
    · intro a x hG hd hs K hK
      have h24 : a.tmps.getD 24 undef = .int .u64 (vn : Int) := hd 7 24 (by kernel_rfl)
      clear hd hs
      refine wpOp_plain rfl rfl ?_
      go_simp
      exact hK _ _ rfl hG (Below.refl _ _)
    · intro a x hG hd hs K hK
      have h26 : a.tmps.getD 26 undef = .int .u64 (wn : Int) := hd 9 26 (by kernel_rfl)
      clear hd hs
      refine wpOp_plain rfl rfl ?_
      go_simp
      exact hK _ _ rfl hG (Below.refl _ _)
  · intro x hG
    rintro _ rfl _ rfl v2 hv2 _ rfl _ rfl v5 hv5 _ rfl _ rfl _ rfl _ rfl v10 hv10 v11 hv11 _ rfl _ rfl
    simp only [Act.put, List.setIfInBounds_toArray, List.set_cons_zero, List.set_cons_succ, REnd]
    try simp only [Exit.then]
    have hbx := hbl.trans (hG.mono hbl.size)
    have hla : (la.take 60).length ≤ 60 := by rw [List.length_take]; omega
    have hlb : (lb.take 60).length ≤ 60 := by rw [List.length_take]; omega
    generalize la.take 60 = p at *
    generalize lb.take 60 = q at *
    have hp := hv10
    have hq := hv11
    obtain ⟨A2, c2, rfl, hc2, hx2, _⟩ := hp.open_
    obtain ⟨A3, c3, rfl, hc3, hx3, _⟩ := hq.open_
    clear hv2 hv5 hv10 hv11 a1 b1 hkb
    go_wp2_with fail
    refine (pack_any _ _ _ p hp (Nat.le_refl _) (by omega) HUA.out).mono ?_
    rintro e w1 ⟨x1, rfl, hown1, hb1⟩
    have s1 : Bs w1 w1.heap.size x1 (Pk.packed p) := Bs.of_own hown1
    have q1 := Rds.more (Rds.ext hq (Nat.le_refl _) hb1) hb1.size
    have p1 := Rds.more (Rds.ext hp (Nat.le_refl _) hb1) hb1.size
    have hbx1 := hbx.trans (hb1.mono hbx.size)
    clear hown1 hp hq hb1
    go_wp2_with fail
    refine (pack_any _ _ _ q q1 (Nat.le_refl _) (by omega) HUB.out).mono ?_
    rintro e w2 ⟨x2, rfl, hown2, hb2⟩
    have s2 : Bs w2 w2.heap.size x2 (Pk.packed q) := Bs.of_own hown2
    have s1' := (s1.ext (Nat.le_refl _) hb2).more hb2.size
    have p2 := Rds.more (Rds.ext p1 (Nat.le_refl _) hb2) hb2.size
    have q2 := Rds.more (Rds.ext q1 (Nat.le_refl _) hb2) hb2.size
    have hbx2 := hbx1.trans (hb2.mono hbx1.size)
    clear hown2 hb2 p1 q1 s1 hbx1 hbx
    go_wp2_with (at_builtin; refine stop_ ?_)
    have hl0 := World.ownsRow_lit (base := w2.heap.size) (e := 39) (size := 2) w2 #[] 0 (Nat.le_refl _) (by simp [maxLen]) (by simp)
    have hbA := (Below.refl w2.heap.size w2).alloc (Nat.le_refl _) (.cells #[] 39)
    obtain ⟨ua, wa, hruna, howna, hgra, _⟩ := run_append_rds (P := Try.prog) (ty := 33) Try.underlying33 infoNum rfl (by decide) hl0 (Rds.ext p2 (Nat.le_refl _) hbA) (nums_oneCell p) (by rw [maxLen_eq]; omega) (by omega) (by simp)
    refine wpList_append_run rfl _ _ _ rfl rfl rfl hruna ?_
    have hbB := hbA.grown hgra (by simp) (fun g hg => by simp [Value.ownBlock] at hg; omega)
    simp only [List.nil_append, Nat.zero_add] at howna
    clear hgra hruna hl0 hbA
    go_wp2_with (at_builtin; refine stop_ ?_)
    obtain ⟨ub, wb, hrunb, hownb, hgrb, _⟩ := run_append_rds (P := Try.prog) (ty := 33) Try.underlying33 infoNum rfl (by decide) howna (Rds.ext q2 (Nat.le_refl _) hbB) (nums_oneCell q) (by rw [maxLen_eq]; omega) (by omega) hbB.size
    refine wpList_append_run rfl _ _ _ rfl rfl rfl hrunb ?_
    have hbC := hbB.grown hgrb hbB.size (fun g hg => (howna.lt g hg).1)
    have n3 : Nums wb wb.heap.size ub (p ++ q) := Rds.of_own (by rw [List.length_append, List.flatMap_append]; exact hownb)
    clear hgrb hrunb hownb howna hbB
    go_wp2_with fail
    refine (pack_any _ _ _ (p ++ q) n3 (Nat.le_refl _) (by rw [List.length_append]; omega) (fun x hx => by
      rcases List.mem_append.1 hx with hx | hx
      · exact HUA.out x hx
      · exact HUB.out x hx)).mono ?_
    rintro e w3 ⟨x3, rfl, hown3, hb3⟩
    have s3 : Bs w3 w3.heap.size x3 (Pk.packed (p ++ q)) := Bs.of_own hown3
    have hbD := hbC.trans (hb3.mono hbC.size)
    have s1'' := (s1'.ext (Nat.le_refl _) hbD).more hbD.size
    have s2'' := (s2.ext (Nat.le_refl _) hbD).more hbD.size
    have hbx3 := hbx2.trans (hbD.mono hbx2.size)
    clear hown3 hb3 hbC hbD s1' s2 p2 q2 hbx2
    have cv1 := run_string_of (P := Try.prog) s1'' 22 9 5 Try.underlying22 Try.underlying5 Try.underlying9
    have cv2 := run_string_of (P := Try.prog) s2'' 22 9 5 Try.underlying22 Try.underlying5 Try.underlying9
    have cv3 := run_string_of (P := Try.prog) s3 22 9 5 Try.underlying22 Try.underlying5 Try.underlying9
    go_upto_region 5 with fail
    go_cut [68] (fun s wx => w3 = wx ∧ s = .bool false)
    case first =>
      have hlp : (Pk.packed p).length ≤ 480 := by
        unfold Pk.packed
        split
        · rename_i h
          have := Pk.recs_len_le p (Pk.perr_zero h)
          omega
        · simp
      have hlq : (Pk.packed q).length ≤ 480 := by
        unfold Pk.packed
        split
        · rename_i h
          have := Pk.recs_len_le q (Pk.perr_zero h)
          omega
        · simp
      have hiff := Pk.perr_append p q
      by_cases he : Pk.perr p = 0
      · by_cases hf : Pk.perr q = 0
        · have hg := hiff.2 ⟨he, hf⟩
          rw [Pk.packed_append p q he hf, ← ba_append] at cv3
          have he' : ((Pk.perr p : Int) == 0) = true := by rw [beq_iff_eq]; omega
          have hf' : ((Pk.perr q : Int) == 0) = true := by rw [beq_iff_eq]; omega
          have hg' : ((Pk.perr (p ++ q) : Int) == 0) = true := by rw [beq_iff_eq]; omega
          generalize Pk.packed p = pp at *
          generalize Pk.packed q = pq at *
          generalize Pk.perr p = e1 at *
          generalize Pk.perr q = e2 at *
          generalize Pk.perr (p ++ q) = e3 at *
          have hsz : pp.length + pq.length ≤ 9223372036854775807 := by omega
          clear hiff he hf hg
          go_wp2
          go_meet
          exact ⟨rfl, rfl⟩
        · have hg : ¬ Pk.perr (p ++ q) = 0 := fun h => hf (hiff.1 h).2
          have he' : ((Pk.perr p : Int) == 0) = true := by rw [beq_iff_eq]; omega
          have hf' : ((Pk.perr q : Int) == 0) = false := by rw [beq_eq_false_iff_ne]; omega
          have hg' : ((Pk.perr (p ++ q) : Int) == 0) = false := by rw [beq_eq_false_iff_ne]; omega
          generalize Pk.perr p = e1 at *
          generalize Pk.perr q = e2 at *
          generalize Pk.perr (p ++ q) = e3 at *
          clear hiff he hf hg cv1 cv2 cv3
          go_wp2
          go_meet
          exact ⟨rfl, rfl⟩
      · have hg : ¬ Pk.perr (p ++ q) = 0 := fun h => he (hiff.1 h).1
        have he' : ((Pk.perr p : Int) == 0) = false := by rw [beq_eq_false_iff_ne]; omega
        have hg' : ((Pk.perr (p ++ q) : Int) == 0) = false := by rw [beq_eq_false_iff_ne]; omega
        generalize Pk.perr p = e1 at *
        generalize Pk.perr q = e2 at *
        generalize Pk.perr (p ++ q) = e3 at *
        clear hiff he hg cv1 cv2 cv3
        go_wp2
        go_meet
        exact ⟨rfl, rfl⟩
    obtain ⟨rfl, rfl⟩ := hcut
    clear cv1 cv2 cv3 s1'' s2'' s3
    have P1 := Lib.hid (Pk.pack8 vn hvn)
    have P2 := Lib.hid (Pk.pack8 wn hwn)
    go_wp2_with fail
    have bl1 := (Below.refl w3.heap.size w3).alloc (Nat.le_refl _) (.cells #[.int .i64 8, .int .u64 (vn : Int)] 39)
    refine (pack_any _ _ _ [(8, vn)] (Nums.lit w3 _ _ _ 1 rfl rfl (by simp [maxLen])) (by simp) (by simp) (by simpa using hvn)).mono ?_
    rintro e w4 ⟨x4, rfl, hown4, hb4⟩
    rw [P1.out.1]
    have s4 : Bs w4 w4.heap.size x4 (Pk.packed [(8, vn)]) := Bs.of_own hown4
    rw [P1.out.2] at s4
    have hbx4 := hbx3.trans ((bl1.trans (hb4.mono bl1.size)).mono hbx3.size)
    clear hown4 hb4 bl1
    go_wp2_with fail
    have bl2 := (Below.refl w4.heap.size w4).alloc (Nat.le_refl _) (.cells #[.int .i64 8, .int .u64 (wn : Int)] 39)
    refine (pack_any _ _ _ [(8, wn)] (Nums.lit w4 _ _ _ 1 rfl rfl (by simp [maxLen])) (by simp) (by simp) (by simpa using hwn)).mono ?_
    rintro e w5 ⟨x5, rfl, hown5, hb5⟩
    rw [P2.out.1]
    have s5 : Bs w5 w5.heap.size x5 (Pk.packed [(8, wn)]) := Bs.of_own hown5
    rw [P2.out.2] at s5
    have st := bl2.trans (hb5.mono bl2.size)
    have s4' := (s4.ext (Nat.le_refl _) st).more st.size
    have hbx5 := hbx4.trans (st.mono hbx4.size)
    clear hown5 hb5 bl2 st s4
    have cv4 := run_string_of (P := Try.prog) s4' 22 9 5 Try.underlying22 Try.underlying5 Try.underlying9
    have cv5 := run_string_of (P := Try.prog) s5 22 9 5 Try.underlying22 Try.underlying5 Try.underlying9
    have hless : Op.bytesLess (Pk.be vn 8) (Pk.be wn 8) = decide (vn < wn) := by
      rw [bytesLess_lt, Bool.eq_iff_iff, decide_eq_true_iff, decide_eq_true_iff]
      exact Pk.be8_lt vn wn hvn hwn
    generalize Pk.be vn 8 = sv at *
    generalize Pk.be wn 8 = sw at *
    go_wp2_with fail
    refine (awakeP_any _).mono ?_
    rintro e w7 ⟨rfl, hb7⟩
    go_wp2
    go_ret
    exact ⟨rfl, hbx5.trans (hb7.mono hbx5.size)⟩

/-- What the walk gives, for every argument and every world that holds the table. -/
theorem packJoins_contract (H : Type) (enc : TypeId × Value → H) (W : World) (base : Nat) (args : Array Value) (ds gs : List (DataW H)) (before : List MemPlace)
    (hval : ∀ (j : Nat) t v, Try.f5.params[j]? = some t → args[j]? = some v → Value.okWide Try.prog W .any base t v)
    (hW : DataW.Whole enc Try.prog Try.f5.params.toList Rows.packJoinsSpec.vars false W args.toList ds gs before) :
    Calls Try.prog 5 args W fun e W' => ∃ v, e = .returned v ∧ Rows.packJoinsSpec.post enc Try.prog Try.f5 false true false false W args v W' := by
  have hW' := hW
  obtain ⟨p, q, hA0, hV, hps, hfz, hnd⟩ := hW
  have hA : DataW.TrodAll enc Try.prog W 0 (fun _ => true) true Try.f5.params.toList args.toList ds p := hA0
  rw [Try.params5] at hA hval
  obtain ⟨v0, vs0, d0, ds0, p0, q0, hargs, rfl, rfl, h0, r0⟩ := trodAll_cons hA
  obtain ⟨rfl, rfl, rfl⟩ := trodAll_nil r0
  obtain rfl : args = #[v0] := by cases args; simp_all
  obtain ⟨rfl, rfl⟩ := trodVars_none hV
  obtain ⟨va, vb, vc, vd, ya, yb, yc, yd, n, rfl, rfl, rfl, ta, tb, tc, td⟩ := Joins.open_agg4 Try.underlying42 (by kernel_rfl) (by kernel_rfl) (hval 0 42 v0 rfl rfl) h0
  obtain ⟨la, ba, hua⟩ := nums_of_cs Try.underlying33 Try.underlying39 (by kernel_rfl) rfl rfl (by kernel_rfl) (by kernel_rfl) Try.underlying3 Try.underlying37 ta
  obtain ⟨lb, bb, hub⟩ := nums_of_cs Try.underlying33 Try.underlying39 (by kernel_rfl) rfl rfl (by kernel_rfl) (by kernel_rfl) Try.underlying3 Try.underlying37 tb
  obtain ⟨zc, hzc, _, wfc⟩ := DataW.trod_int Try.underlying37 tc
  obtain ⟨zd, hzd, _, wfd⟩ := DataW.trod_int Try.underlying37 td
  simp only [List.cons.injEq, and_true] at hzc hzd
  subst hzc hzd
  clear hA0
  refine (packJoins_walk W va vb zc zd la lb ba bb hua hub wfc wfd).mono fun e W' ⟨he, hb⟩ => ?_
  subst he
  exact ⟨_, rfl, law_post laidOut (by rw [Try.params5]; decide +kernel) rfl Try.underlying4 rfl rfl hW' hb⟩

set_option maxRecDepth 100000 in
theorem packJoins_lifted (os : Os) (started : os.Started) (H : Type) (enc : TypeId × Value → H) :
    ReturnsInHanded {} Try.checked os 5 .any (Rows.packJoinsSpec.pre6 enc Try.prog Try.f5 Rows.packJoinsRow.domain false) (Rows.packJoinsSpec.post enc Try.prog Try.f5 false true false false) := by
  refine returnsInHanded_of_change (C := Try.checked) own started (by kernel_rfl) Try.func5
    (ChangeSpec.witness6 (enc := enc) (C := Try.checked) false ⟨#[], #[.agg #[.slice none 0 0, .slice none 0 0, .int .u64 0, .int .u64 0]], []⟩ 8 (by kernel_rfl) (by kernel_rfl) (by kernel_rfl) (by kernel_rfl)) ?_
  intro W base args ds gs before hval hW _ _
  exact packJoins_contract H enc W base args ds gs before hval hW

theorem packJoins_holds : Rows.PackJoinsSaid :=
  OpenClaim.holds_of_wide 5 Try.f5 rfl rfl rfl rfl rfl rfl rfl ⟨rfl, rfl, rfl, rfl, rfl⟩ rfl rfl rfl rfl rfl (by kernel_rfl) Try.func5 (by kernel_rfl)
    (of_decide_eq_true (by kernel_rfl)) (by unfold Func.isWrapper; first | (rw [if_pos (by decide +kernel)]; kernel_rfl) | (rw [if_neg (by decide +kernel)]; exact ⟨rfl, rfl⟩))
    (fun os started H enc _ => packJoins_lifted os started H enc)

end Go.Proofs.Ytfedklediafnpaa
