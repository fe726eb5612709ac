/-
  search and Find of package entry; sort.Search as search uses it. By an AI agent.
-/
import Derived.Test.YtahkhieoabbaaaaEntW
namespace Go.Proofs.Ytahkhieoabbaaaa
open Go.RowKit Go.ChangeShapes Go.WideShapes Go.ChangeAt
open Et (E)

set_option maxRecDepth 100000 in
set_option maxHeartbeats 1000000 in
theorem srch1_any (l : List E) (nm : List UInt8) (A : Option Addr) (c b2 b3 B k : Nat) (z : Int) (hz : z = k) (w : World) (h2 : w.cell? ⟨b2, 0, none⟩ = some (.slice A l.length c)) (h3 : w.cell? ⟨b3, 0, none⟩ = some (.string ⟨nm.toArray⟩)) (l2 : b2 < w.heap.size) (l3 : b3 < w.heap.size) (hB : B ≤ w.heap.size) (hE : EntsAt w B A l) (hk : k < l.length) :
    Calls Try.prog 35 #[.int .i64 z, .pointer (some ⟨b2, 0, none⟩), .pointer (some ⟨b3, 0, none⟩)] w fun e w' => e = .returned (.bool (decide (0 ≤ Tl.ord (Et.at_ l k).n nm))) ∧ Below w.heap.size w w' := by
  subst hz
  obtain ⟨b, off, rfl, hbB, h0, _, _⟩ := hE k hk
  generalize Et.at_ l k = y at *
  have hbw : b < w.heap.size := by omega
  obtain ⟨o, ho⟩ : ∃ o, Tl.ord y.n nm = o := ⟨_, rfl⟩
  obtain ⟨bb, hbb⟩ : ∃ bb, decide (0 ≤ o) = bb := ⟨_, rfl⟩
  rw [ho, hbb]
  have HO := Lib.hid ho
  have HBB := Lib.hid hbb
  clear ho hbb
  go_enter Try.func35, Try.ntmps35
  go_upto_region 1 with fail
  have hG0 : Below w.heap.size w w.drew := (Below.refl _ _).drew
  refine wp_region_list 9 [(fun y_ _ => y_ = .slice (some ⟨b, off, none⟩) l.length c),
    (fun y_ _ => y_ = .int .i64 (k : Int)),
    (fun y_ _ => y_ = .pointer (some ⟨b, off + k * 3, none⟩)),
    (fun y_ _ => y_ = .pointer (some ⟨b, off + k * 3, none⟩)),
    (fun y_ _ => y_ = .string ⟨y.n.toArray⟩),
    (fun y_ _ => y_ = .string ⟨nm.toArray⟩),
    (fun y_ _ => y_ = .int .i64 o),
    (fun y_ _ => y_ = .bool bb),
    (fun y_ _ => y_ = .bool bb)]
    (fun q => Below w.heap.size w q) (by kernel_rfl) rfl (by kernel_rfl) ?_ ?_ ?_ ?_
  · exact hG0
  · exact ⟨stab_eq _, stab_eq _, stab_eq _, stab_eq _, stab_eq _, stab_eq _, stab_eq _, stab_eq _, stab_eq _, trivial⟩
  · refine ⟨?_, ?_, ?_, ?_, ?_, ?_, ?_, ?_, ?_, trivial⟩
    · intro a x hG hd hs K hK
      have h1 : a.tmps.getD 1 undef = .pointer (some ⟨b2, 0, none⟩) := hs 1 (by kernel_rfl)
      clear hd hs
      refine wpOp_plain rfl rfl ?_
      have hc := (hG.cell (p := ⟨b2, 0, none⟩) l2).trans h2
      go_simp
      exact hK _ _ rfl hG (Below.refl _ _)
    · intro a x hG hd hs K hK
      have h0 : a.tmps.getD 0 undef = .int .i64 (k : Int) := hs 0 (by kernel_rfl)
      clear hd hs
      refine wpOp_plain rfl rfl ?_
      go_simp
      exact hK _ _ rfl hG (Below.refl _ _)
    · intro a x hG hd hs K hK
      have h5 : a.tmps.getD 5 undef = .slice (some ⟨b, off, none⟩) l.length c := hd 0 5 (by kernel_rfl)
      have h6 : a.tmps.getD 6 undef = .int .i64 (k : Int) := hd 1 6 (by kernel_rfl)
      clear hd hs
      refine wpOp_plain rfl rfl ?_
      go_simp
      exact hK _ _ rfl hG (Below.refl _ _)
    · intro a x hG hd hs K hK
      have h7 : a.tmps.getD 7 undef = .pointer (some ⟨b, off + k * 3, none⟩) := hd 2 7 (by kernel_rfl)
      clear hd hs
      refine wpOp_plain rfl rfl ?_
      go_simp
      exact hK _ _ rfl hG (Below.refl _ _)
    · intro a x hG hd hs K hK
      have h8 : a.tmps.getD 8 undef = .pointer (some ⟨b, off + k * 3, none⟩) := hd 3 8 (by kernel_rfl)
      clear hd hs
      refine wpOp_plain rfl rfl ?_
      have hc := (hG.cell (p := ⟨b, off + k * 3, none⟩) hbw).trans h0
      go_simp
      exact hK _ _ rfl hG (Below.refl _ _)
    · intro a x hG hd hs K hK
      have h2 : a.tmps.getD 2 undef = .pointer (some ⟨b3, 0, none⟩) := hs 2 (by kernel_rfl)
      clear hd hs
      refine wpOp_plain rfl rfl ?_
      have hc := (hG.cell (p := ⟨b3, 0, none⟩) l3).trans h3
      go_simp
      exact hK _ _ rfl hG (Below.refl _ _)
    · intro a x hG hd hs K hK
      have h9 : a.tmps.getD 9 undef = .string ⟨y.n.toArray⟩ := hd 4 9 (by kernel_rfl)
      have h10 : a.tmps.getD 10 undef = .string ⟨nm.toArray⟩ := hd 5 10 (by kernel_rfl)
      clear hd hs
      refine wpOp_plain rfl rfl ?_
      go_simp
      refine (order_any y.n nm _).mono ?_
      rintro e w' ⟨rfl, rfl⟩
      rw [HO.out]
      exact hK _ _ rfl hG (Below.refl _ _)
    · intro a x hG hd hs K hK
      have h11 : a.tmps.getD 11 undef = .int .i64 o := hd 6 11 (by kernel_rfl)
      clear hd hs
      refine wpOp_plain rfl rfl ?_
      have hbb := HBB.out
      go_simp
      exact hK _ _ rfl hG (Below.refl _ _)
    · intro a x hG hd hs K hK
      have h12 : a.tmps.getD 12 undef = .bool bb := hd 7 12 (by kernel_rfl)
      clear hd hs
      refine wpOp_plain rfl rfl ?_
      go_simp
      exact hK _ _ rfl hG (Below.refl _ _)
  · intro x hG
    rintro _ rfl _ rfl _ rfl _ rfl _ rfl _ rfl _ rfl _ rfl _ rfl
    simp only [Act.put, List.setIfInBounds_toArray, List.set_cons_zero, List.set_cons_succ, REnd]
    try simp only [Exit.then]
    go_wp2
    go_ret
    exact ⟨rfl, hG⟩

set_option maxRecDepth 100000 in
set_option maxHeartbeats 2000000 in
theorem sortSearch_any (l : List E) (nm : List UInt8) (A : Option Addr) (c b2 b3 B : Nat) (z : Int) (hz : z = l.length) (w : World) (h2 : w.cell? ⟨b2, 0, none⟩ = some (.slice A l.length c)) (h3 : w.cell? ⟨b3, 0, none⟩ = some (.string ⟨nm.toArray⟩)) (l2 : b2 < w.heap.size) (l3 : b3 < w.heap.size) (hB : B ≤ w.heap.size) (hE : EntsAt w B A l) (hp : l.Pairwise Et.lt) (hlc : l.length ≤ 1000000) :
    Calls Try.prog 34 #[.int .i64 z, .func (.func 35) #[] #[.pointer (some ⟨b2, 0, none⟩), .pointer (some ⟨b3, 0, none⟩)]] w fun e w' => e = .returned (.int .i64 (Et.pos l nm : Nat)) ∧ Below w.heap.size w w' := by
  subst hz
  have hpl := Et.pos_le l nm
  have HP := Lib.hid (fun k (hk : k < l.length) => Et.pos_lt (nm := nm) hp hk)
  have HE := Lib.hid hE
  have H2 := Lib.hid h2
  have H3 := Lib.hid h3
  obtain ⟨ps, hps⟩ : ∃ ps, Et.pos l nm = ps := ⟨_, rfl⟩
  rw [hps] at hpl HP ⊢
  clear hps hp hE h2 h3
  go_enter Try.func34, Try.ntmps34
  go_wp2
  go_loopw [5, 6] (fun t5 t6 wr => ∃ i j : Nat, t5 = .int .i64 i ∧ t6 = .int .i64 j ∧ i ≤ ps ∧ ps ≤ j ∧ j ≤ l.length ∧ Below w.heap.size w wr) (fun t5 t6 _ => (intOf t6).toNat - (intOf t5).toNat)
  case atStart => exact ⟨0, l.length, rfl, rfl, Nat.zero_le _, hpl, Nat.le_refl _, Below.refl _ _⟩
  case round =>
    obtain ⟨i, j, rfl, rfl, hi, hj, hjl, hbr⟩ := hrel
    by_cases hlt : i < j
    · go_wp2_with fail
      obtain ⟨h, hh⟩ : ∃ h : Nat, ((i : Int) + (j : Int)) / 2 = h := ⟨(i + j) / 2, by omega⟩
      have hij : i ≤ h ∧ h < j := by omega
      simp only [hh]
      clear hh
      refine (srch1_any l nm A c b2 b3 B h _ rfl wr ((hbr.cell (p := ⟨b2, 0, none⟩) l2).trans H2.out) ((hbr.cell (p := ⟨b3, 0, none⟩) l3).trans H3.out) (Nat.lt_of_lt_of_le l2 hbr.size) (Nat.lt_of_lt_of_le l3 hbr.size) (Nat.le_trans hB hbr.size) (HE.out.below (hbr.mono hB)) (by omega)).mono ?_
      rintro e w5 ⟨rfl, b5⟩
      have hpk := HP.out h (by omega)
      have hob := Et.ord_bd (Et.at_ l h).n nm
      replace hbr := hbr.trans (b5.mono hbr.size)
      clear b5
      by_cases ho : 0 ≤ Tl.ord (Et.at_ l h).n nm
      · have hps : ps ≤ h := by
          rcases Nat.lt_or_ge h ps with h9 | h9
          · have := hpk.2 h9; omega
          · exact h9
        rw [decide_eq_true ho]
        clear hpk hob ho
        go_wp2
        go_roundw
        case rel => exact ⟨i, h, rfl, rfl, hi, hps, by omega, hbr⟩
        case measure => simp [intOf]; omega
      · have hps : h + 1 ≤ ps := hpk.1 (by omega)
        rw [decide_eq_false ho]
        clear hpk hob ho
        go_wp2
        go_roundw
        case rel => exact ⟨h + 1, j, by go_num, rfl, hps, hj, hjl, hbr⟩
        case measure => simp [intOf]; omega
    · obtain rfl : i = ps := by omega
      obtain rfl : i = j := by omega
      go_wp2
      go_ret
      exact ⟨rfl, hbr⟩

/-! ### search -/
set_option maxRecDepth 100000 in
set_option maxHeartbeats 4000000 in
theorem search_any (v : Value) (l : List E) (nm : List UInt8) (w : World) (hl : Ents w w.heap.size v l) (hs : Short l) (hn : nm.length < 1099511627776) :
    Calls Try.prog 23 #[v, .string ⟨nm.toArray⟩] w fun e w' => ∃ i : Nat, e = .returned (.tuple #[.int .i64 (i : Int), .int .i64 (Et.srchE l nm)]) ∧ (Et.srchE l nm = 0 ∨ Et.srchE l nm = 6 → i = Et.pos l nm) ∧ Below w.heap.size w w' := by
  obtain ⟨A, c, rfl, hlc, hcm, hE⟩ := hl.open_
  have HL := Lib.hid hl
  have HE := Lib.hid hE
  have HS := Lib.hid (show Et.srchE l nm = if Et.mayB l then (if Tl.isN nm then (if Et.hasN l nm then 0 else 6) else 11) else 1 from rfl)
  clear hl hE
  have k2 := (Blk.new w 22 #[.slice A l.length c]).alloc (.cells #[.string ⟨nm.toArray⟩] 9)
  have k3 := Blk.new (w.alloc (.cells #[.slice A l.length c] 22)) 9 #[.string ⟨nm.toArray⟩]
  rw [World.size_alloc] at k3
  have b0 := ((Below.refl w.heap.size w).alloc (Nat.le_refl _) (.cells #[.slice A l.length c] 22)).alloc (by simp) (.cells #[.string ⟨nm.toArray⟩] 9)
  go_enter Try.func23, Try.ntmps23
  go_upto_region 1 with fail
  obtain ⟨w0, hw0⟩ : ∃ w0, (w.alloc (.cells #[.slice A l.length c] 22)).alloc (.cells #[.string ⟨nm.toArray⟩] 9) = w0 := ⟨_, rfl⟩
  rw [hw0] at k2 k3 b0 ⊢
  clear hw0
  obtain ⟨gq, hgq⟩ : ∃ gq, w.heap.size = gq := ⟨_, rfl⟩
  rw [hgq] at k2 k3 ⊢
  clear hgq
  have c2 : w0.cell? ⟨gq, 0, none⟩ = some (.slice A l.length c) := k2.cell 0
  go_wp2_with fail
  refine (may_any _ l w0 ((HL.out.below b0).more b0.size) hs).mono ?_
  rintro e w1 ⟨rfl, b1⟩
  replace k2 := k2.ext b1
  replace k3 := k3.ext b1
  replace b0 := b0.trans (b1.mono b0.size)
  clear c2 b1
  cases hm : Et.mayB l with
  | false =>
    rw [hm, if_neg (by decide)] at HS
    clear hm
    go_wp2
    go_ret2
    refine ⟨0, by rw [HS.out]; rfl, fun h => ?_, b0⟩
    rw [HS.out] at h
    omega
  | true =>
    rw [hm, if_pos rfl] at HS
    have HM := Lib.hid hm
    clear hm
    have c3 : w1.cell? ⟨gq + 1, 0, none⟩ = some (.string ⟨nm.toArray⟩) := k3.cell 0
    go_wp2_with fail
    refine (is_any nm w1 hn).mono ?_
    rintro e w2 ⟨rfl, b2⟩
    replace k2 := k2.ext b2
    replace k3 := k3.ext b2
    replace b0 := b0.trans (b2.mono b0.size)
    clear c3 b2
    cases hi : Tl.isN nm with
    | false =>
      rw [hi, if_neg (by decide)] at HS
      clear hi
      go_wp2
      go_ret2
      refine ⟨0, by rw [HS.out]; rfl, fun h => ?_, b0⟩
      rw [HS.out] at h
      omega
    | true =>
      rw [hi, if_pos rfl] at HS
      clear hi
      have hp := Et.may_pw HM.out
      have h30 : l.length ≤ 30 := ((Et.may_iff l).1 HM.out).1
      have HHP := Lib.hid (Et.has_pos (nm := nm) hp)
      have c2 : w2.cell? ⟨gq, 0, none⟩ = some (.slice A l.length c) := k2.cell 0
      have c3 : w2.cell? ⟨gq + 1, 0, none⟩ = some (.string ⟨nm.toArray⟩) := k3.cell 0
      have l2 := k2.lt
      have l3 := k3.lt
      go_wp2_with fail
      refine (sortSearch_any l nm A c gq (gq + 1) w.heap.size _ rfl w2 c2 c3 l2 l3 b0.size (HE.out.below b0) hp (by omega)).mono ?_
      rintro e w3 ⟨rfl, b3⟩
      replace k2 := k2.ext b3
      replace k3 := k3.ext b3
      replace b0 := b0.trans (b3.mono b0.size)
      have hple := Et.pos_le l nm
      have HPS : ∃ ps, Hid (Et.pos l nm = ps) := ⟨_, Lib.hid rfl⟩
      obtain ⟨ps, HPS⟩ := HPS
      rw [HPS.out] at hple HHP ⊢
      clear c2 c3 l2 l3 b3 hp
      go_upto_region 6 with fail
      have hG0 : Below w3.heap.size w3 w3.drew := (Below.refl _ _).drew
      have l2 := k2.lt
      have l3 := k3.lt
      by_cases hpl : ps = l.length
      · have hno : Et.hasN l nm = false := by
          cases h : Et.hasN l nm with
          | false => rfl
          | true => have := (HHP.out.1 h).1; omega
        rw [hno, if_neg (by decide)] at HS
        have hpb : ((ps : Int) == (l.length : Int)) = true := by rw [beq_iff_eq]; omega
        clear hno HHP hpl
        refine wp_region_list 13 [(fun y_ _ => y_ = .int .i64 (ps : Int)),
          (fun y_ _ => y_ = .slice A l.length c),
          (fun y_ _ => y_ = .int .i64 ((l.length : Nat) : Int)),
          (fun y_ _ => y_ = .bool true),
          (fun y_ _ => y_ = .bool true),
          (fun y_ _ => y_ = undef),
          (fun y_ _ => y_ = undef),
          (fun y_ _ => y_ = undef),
          (fun y_ _ => y_ = undef),
          (fun y_ _ => y_ = undef),
          (fun y_ _ => y_ = undef),
          (fun y_ _ => y_ = undef),
          (fun y_ _ => y_ = .bool true)]
          (fun q => Below w3.heap.size w3 q) (by kernel_rfl) rfl (by kernel_rfl) ?_ ?_ ?_ ?_
        · exact hG0
        · exact ⟨stab_eq _, stab_eq _, stab_eq _, stab_eq _, stab_eq _, stab_eq _, stab_eq _, stab_eq _, stab_eq _, stab_eq _, stab_eq _, stab_eq _, stab_eq _, trivial⟩
        · refine ⟨?_, ?_, ?_, ?_, ?_, ?_, ?_, ?_, ?_, ?_, ?_, ?_, ?_, trivial⟩
          · intro a x hG hd hs K hK
            have h6 : a.tmps.getD 6 undef = .int .i64 (ps : Int) := hs 6 (by kernel_rfl)
            clear hd hs
            refine wpOp_plain rfl rfl ?_
            go_simp
            exact hK _ _ rfl hG (Below.refl _ _)
          · intro a x hG hd hs K hK
            have h2 : a.tmps.getD 2 undef = .pointer (some ⟨gq, 0, none⟩) := hs 2 (by kernel_rfl)
            clear hd hs
            refine wpOp_plain rfl rfl ?_
            have hc : x.cell? ⟨gq, 0, none⟩ = some (.slice A l.length c) := (k2.ext hG).cell 0
            go_simp
            exact hK _ _ rfl hG (Below.refl _ _)
          · intro a x hG hd hs K hK
            have h20 : a.tmps.getD 20 undef = .slice A l.length c := hd 1 20 (by kernel_rfl)
            clear hd hs
            refine wpOp_plain rfl rfl ?_
            go_simp
            exact hK _ _ rfl hG (Below.refl _ _)
          · intro a x hG hd hs K hK
            have h19 : a.tmps.getD 19 undef = .int .i64 (ps : Int) := hd 0 19 (by kernel_rfl)
            have h21 : a.tmps.getD 21 undef = .int .i64 ((l.length : Nat) : Int) := hd 2 21 (by kernel_rfl)
            clear hd hs
            refine wpOp_plain rfl rfl ?_
            go_simp
            exact hK _ _ rfl hG (Below.refl _ _)
          · intro a x hG hd hs K hK
            have h22 : a.tmps.getD 22 undef = .bool true := hd 3 22 (by kernel_rfl)
            clear hd hs
            refine wpOp_plain rfl rfl ?_
            go_simp
            exact hK _ _ rfl hG (Below.refl _ _)
          · intro a x hG hd hs K hK
            have h2 : a.tmps.getD 2 undef = .pointer (some ⟨gq, 0, none⟩) := hs 2 (by kernel_rfl)
            have h23 : a.tmps.getD 23 undef = .bool true := hd 4 23 (by kernel_rfl)
            clear hd hs
            refine wpOp_no rfl rfl rfl h23 ?_
            exact hK _ _ rfl hG (Below.refl _ _)
          · intro a x hG hd hs K hK
            have h6 : a.tmps.getD 6 undef = .int .i64 (ps : Int) := hs 6 (by kernel_rfl)
            have h23 : a.tmps.getD 23 undef = .bool true := hd 4 23 (by kernel_rfl)
            clear hd hs
            refine wpOp_no rfl rfl rfl h23 ?_
            exact hK _ _ rfl hG (Below.refl _ _)
          · intro a x hG hd hs K hK
            have h24 : a.tmps.getD 24 undef = undef := hd 5 24 (by kernel_rfl)
            have h25 : a.tmps.getD 25 undef = undef := hd 6 25 (by kernel_rfl)
            have h23 : a.tmps.getD 23 undef = .bool true := hd 4 23 (by kernel_rfl)
            clear hd hs
            refine wpOp_no rfl rfl rfl h23 ?_
            exact hK _ _ rfl hG (Below.refl _ _)
          · intro a x hG hd hs K hK
            have h26 : a.tmps.getD 26 undef = undef := hd 7 26 (by kernel_rfl)
            have h23 : a.tmps.getD 23 undef = .bool true := hd 4 23 (by kernel_rfl)
            clear hd hs
            refine wpOp_no rfl rfl rfl h23 ?_
            exact hK _ _ rfl hG (Below.refl _ _)
          · intro a x hG hd hs K hK
            have h27 : a.tmps.getD 27 undef = undef := hd 8 27 (by kernel_rfl)
            have h23 : a.tmps.getD 23 undef = .bool true := hd 4 23 (by kernel_rfl)
            clear hd hs
            refine wpOp_no rfl rfl rfl h23 ?_
            exact hK _ _ rfl hG (Below.refl _ _)
          · intro a x hG hd hs K hK
            have h3 : a.tmps.getD 3 undef = .pointer (some ⟨gq + 1, 0, none⟩) := hs 3 (by kernel_rfl)
            have h23 : a.tmps.getD 23 undef = .bool true := hd 4 23 (by kernel_rfl)
            clear hd hs
            refine wpOp_no rfl rfl rfl h23 ?_
            exact hK _ _ rfl hG (Below.refl _ _)
          · intro a x hG hd hs K hK
            have h28 : a.tmps.getD 28 undef = undef := hd 9 28 (by kernel_rfl)
            have h29 : a.tmps.getD 29 undef = undef := hd 10 29 (by kernel_rfl)
            have h23 : a.tmps.getD 23 undef = .bool true := hd 4 23 (by kernel_rfl)
            clear hd hs
            refine wpOp_no rfl rfl rfl h23 ?_
            exact hK _ _ rfl hG (Below.refl _ _)
          · intro a x hG hd hs K hK
            have h23 : a.tmps.getD 23 undef = .bool true := hd 4 23 (by kernel_rfl)
            have h30 : a.tmps.getD 30 undef = undef := hd 11 30 (by kernel_rfl)
            clear hd hs
            refine wpOp_plain rfl rfl ?_
            go_simp
            exact hK _ _ rfl hG (Below.refl _ _)
        · intro x hG
          rintro _ rfl _ rfl _ rfl _ rfl _ rfl _ rfl _ rfl _ rfl _ rfl _ rfl _ rfl _ rfl _ rfl
          simp only [Act.put, List.setIfInBounds_toArray, List.set_cons_zero, List.set_cons_succ, REnd]
          try simp only [Exit.then]
          have b9 := b0.trans (hG.mono b0.size)
          go_wp2
          go_ret2
          exact ⟨ps, by rw [HS.out]; rfl, fun _ => HPS.out.symm, b9⟩
      · have hpl' : ps < l.length := by omega
        have hpb : ((ps : Int) == (l.length : Int)) = false := by rw [beq_eq_false_iff_ne]; omega
        obtain ⟨b, off, rfl, hbB, h0, _, _⟩ := (HE.out.below b0) ps hpl'
        have hbw : b < w3.heap.size := Nat.lt_of_lt_of_le hbB b0.size
        generalize Et.at_ l ps = y at *
        obtain ⟨bb, hbb⟩ : ∃ bb, (y.n != nm) = bb := ⟨_, rfl⟩
        have hhas : Et.hasN l nm = !bb := by
          rw [← hbb, Bool.eq_iff_iff, HHP.out]
          simp [hpl']
        have HSE := Lib.hid (show ((⟨y.n.toArray⟩ : ByteArray).toList == (⟨nm.toArray⟩ : ByteArray).toList) = !bb by
          rw [ba_toList, ba_toList, ← hbb]
          exact (Bool.not_not _).symm)
        rw [hhas] at HS
        clear hhas hbb HHP hpl
        refine wp_region_list 13 [(fun y_ _ => y_ = .int .i64 (ps : Int)),
          (fun y_ _ => y_ = .slice (some ⟨b, off, none⟩) l.length c),
          (fun y_ _ => y_ = .int .i64 ((l.length : Nat) : Int)),
          (fun y_ _ => y_ = .bool false),
          (fun y_ _ => y_ = .bool false),
          (fun y_ _ => y_ = .slice (some ⟨b, off, none⟩) l.length c),
          (fun y_ _ => y_ = .int .i64 (ps : Int)),
          (fun y_ _ => y_ = .pointer (some ⟨b, off + ps * 3, none⟩)),
          (fun y_ _ => y_ = .pointer (some ⟨b, off + ps * 3, none⟩)),
          (fun y_ _ => y_ = .string ⟨y.n.toArray⟩),
          (fun y_ _ => y_ = .string ⟨nm.toArray⟩),
          (fun y_ _ => y_ = .bool bb),
          (fun y_ _ => y_ = .bool bb)]
          (fun q => Below w3.heap.size w3 q) (by kernel_rfl) rfl (by kernel_rfl) ?_ ?_ ?_ ?_
        · exact hG0
        · exact ⟨stab_eq _, stab_eq _, stab_eq _, stab_eq _, stab_eq _, stab_eq _, stab_eq _, stab_eq _, stab_eq _, stab_eq _, stab_eq _, stab_eq _, stab_eq _, trivial⟩
        · refine ⟨?_, ?_, ?_, ?_, ?_, ?_, ?_, ?_, ?_, ?_, ?_, ?_, ?_, trivial⟩
          · intro a x hG hd hs K hK
            have h6 : a.tmps.getD 6 undef = .int .i64 (ps : Int) := hs 6 (by kernel_rfl)
            clear hd hs
            refine wpOp_plain rfl rfl ?_
            go_simp
            exact hK _ _ rfl hG (Below.refl _ _)
          · intro a x hG hd hs K hK
            have h2 : a.tmps.getD 2 undef = .pointer (some ⟨gq, 0, none⟩) := hs 2 (by kernel_rfl)
            clear hd hs
            refine wpOp_plain rfl rfl ?_
            have hc : x.cell? ⟨gq, 0, none⟩ = some (.slice (some ⟨b, off, none⟩) l.length c) := (k2.ext hG).cell 0
            go_simp
            exact hK _ _ rfl hG (Below.refl _ _)
          · intro a x hG hd hs K hK
            have h20 : a.tmps.getD 20 undef = .slice (some ⟨b, off, none⟩) l.length c := hd 1 20 (by kernel_rfl)
            clear hd hs
            refine wpOp_plain rfl rfl ?_
            go_simp
            exact hK _ _ rfl hG (Below.refl _ _)
          · intro a x hG hd hs K hK
            have h19 : a.tmps.getD 19 undef = .int .i64 (ps : Int) := hd 0 19 (by kernel_rfl)
            have h21 : a.tmps.getD 21 undef = .int .i64 ((l.length : Nat) : Int) := hd 2 21 (by kernel_rfl)
            clear hd hs
            refine wpOp_plain rfl rfl ?_
            go_simp
            exact hK _ _ rfl hG (Below.refl _ _)
          · intro a x hG hd hs K hK
            have h22 : a.tmps.getD 22 undef = .bool false := hd 3 22 (by kernel_rfl)
            clear hd hs
            refine wpOp_plain rfl rfl ?_
            go_simp
            exact hK _ _ rfl hG (Below.refl _ _)
          · intro a x hG hd hs K hK
            have h2 : a.tmps.getD 2 undef = .pointer (some ⟨gq, 0, none⟩) := hs 2 (by kernel_rfl)
            have h23 : a.tmps.getD 23 undef = .bool false := hd 4 23 (by kernel_rfl)
            clear hd hs
            refine wpOp_yes rfl rfl rfl h23 ?_
            have hc : x.cell? ⟨gq, 0, none⟩ = some (.slice (some ⟨b, off, none⟩) l.length c) := (k2.ext hG).cell 0
            go_simp
            exact hK _ _ rfl hG (Below.refl _ _)
          · intro a x hG hd hs K hK
            have h6 : a.tmps.getD 6 undef = .int .i64 (ps : Int) := hs 6 (by kernel_rfl)
            have h23 : a.tmps.getD 23 undef = .bool false := hd 4 23 (by kernel_rfl)
            clear hd hs
            refine wpOp_yes rfl rfl rfl h23 ?_
            go_simp
            exact hK _ _ rfl hG (Below.refl _ _)
          · intro a x hG hd hs K hK
            have h24 : a.tmps.getD 24 undef = .slice (some ⟨b, off, none⟩) l.length c := hd 5 24 (by kernel_rfl)
            have h25 : a.tmps.getD 25 undef = .int .i64 (ps : Int) := hd 6 25 (by kernel_rfl)
            have h23 : a.tmps.getD 23 undef = .bool false := hd 4 23 (by kernel_rfl)
            clear hd hs
            refine wpOp_yes rfl rfl rfl h23 ?_
            go_simp
            exact hK _ _ rfl hG (Below.refl _ _)
          · intro a x hG hd hs K hK
            have h26 : a.tmps.getD 26 undef = .pointer (some ⟨b, off + ps * 3, none⟩) := hd 7 26 (by kernel_rfl)
            have h23 : a.tmps.getD 23 undef = .bool false := hd 4 23 (by kernel_rfl)
            clear hd hs
            refine wpOp_yes rfl rfl rfl h23 ?_
            go_simp
            exact hK _ _ rfl hG (Below.refl _ _)
          · intro a x hG hd hs K hK
            have h27 : a.tmps.getD 27 undef = .pointer (some ⟨b, off + ps * 3, none⟩) := hd 8 27 (by kernel_rfl)
            have h23 : a.tmps.getD 23 undef = .bool false := hd 4 23 (by kernel_rfl)
            clear hd hs
            refine wpOp_yes rfl rfl rfl h23 ?_
            have hc := (hG.cell (p := ⟨b, off + ps * 3, none⟩) hbw).trans h0
            go_simp
            exact hK _ _ rfl hG (Below.refl _ _)
          · intro a x hG hd hs K hK
            have h3 : a.tmps.getD 3 undef = .pointer (some ⟨gq + 1, 0, none⟩) := hs 3 (by kernel_rfl)
            have h23 : a.tmps.getD 23 undef = .bool false := hd 4 23 (by kernel_rfl)
            clear hd hs
            refine wpOp_yes rfl rfl rfl h23 ?_
            have hc : x.cell? ⟨gq + 1, 0, none⟩ = some (.string ⟨nm.toArray⟩) := (k3.ext hG).cell 0
            go_simp
            exact hK _ _ rfl hG (Below.refl _ _)
          · intro a x hG hd hs K hK
            have h28 : a.tmps.getD 28 undef = .string ⟨y.n.toArray⟩ := hd 9 28 (by kernel_rfl)
            have h29 : a.tmps.getD 29 undef = .string ⟨nm.toArray⟩ := hd 10 29 (by kernel_rfl)
            have h23 : a.tmps.getD 23 undef = .bool false := hd 4 23 (by kernel_rfl)
            clear hd hs
            refine wpOp_yes rfl rfl rfl h23 ?_
            have hse := HSE.out
            generalize (⟨y.n.toArray⟩ : ByteArray) = S1 at *
            generalize (⟨nm.toArray⟩ : ByteArray) = S2 at *
            go_simp
            exact hK _ _ rfl hG (Below.refl _ _)
          · intro a x hG hd hs K hK
            have h23 : a.tmps.getD 23 undef = .bool false := hd 4 23 (by kernel_rfl)
            have h30 : a.tmps.getD 30 undef = .bool bb := hd 11 30 (by kernel_rfl)
            clear hd hs
            refine wpOp_plain rfl rfl ?_
            go_simp
            exact hK _ _ rfl hG (Below.refl _ _)
        · intro x hG
          rintro _ rfl _ rfl _ rfl _ rfl _ rfl _ rfl _ rfl _ rfl _ rfl _ rfl _ rfl _ rfl _ rfl
          simp only [Act.put, List.setIfInBounds_toArray, List.set_cons_zero, List.set_cons_succ, REnd]
          try simp only [Exit.then]
          have b9 := b0.trans (hG.mono b0.size)
          cases bb with
          | true =>
            go_wp2
            go_ret2
            exact ⟨ps, by rw [HS.out]; rfl, fun _ => HPS.out.symm, b9⟩
          | false =>
            go_wp2
            go_ret2
            exact ⟨ps, by rw [HS.out]; rfl, fun _ => HPS.out.symm, b9⟩
end Go.Proofs.Ytahkhieoabbaaaa
