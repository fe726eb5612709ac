/-
  The reference of entries: Add. By an AI agent.
-/
import Derived.Test.YtahkhieoabbaaaaEntU
namespace Go.Proofs.Ytahkhieoabbaaaa
open Go.RowKit Go.ChangeShapes Go.WideShapes Go.ChangeAt Go.Lib
open Et (E)

theorem fP1 (l : List E) (xn : List UInt8) : l.filter (fun z : E => decide (Tl.ord z.n xn < 0)) = l.filter (Et.ahd xn) := List.filter_congr (fun y _ => by
  show decide (Tl.ord y.n xn < 0) = (Tl.ord y.n xn == -1)
  rcases Et.ord_bd y.n xn with h | h | h <;> rw [h] <;> decide)
theorem fP2 (l : List E) (xn : List UInt8) (hh : Et.hasN l xn = false) : l.filter (fun z : E => decide (0 < Tl.ord z.n xn)) = l.filter (fun y => !Et.ahd xn y) := List.filter_congr (fun y hy => by
  show decide (0 < Tl.ord y.n xn) = (!(Tl.ord y.n xn == -1))
  rcases Et.ord_bd y.n xn with h | h | h
  · rw [h]; decide
  · have := (Et.hasN_iff l xn).2 ⟨y, hy, (Tl.ord_zero _ _).1 h⟩
    rw [hh] at this
    cases this
  · rw [h]; decide)

set_option maxRecDepth 100000 in
set_option maxHeartbeats 1000000 in
theorem addR_any (v : Value) (l : List E) (xn : List UInt8) (xi xt : Int) (w : World) (hl : Ents w w.heap.size v l) (hs : Short l) (hn : xn.length < 1099511627776) (h0 : Et.addE l ⟨xn, xi, xt⟩ = 0) :
    Calls Try.prog 15 #[v, .agg #[.string ⟨xn.toArray⟩, .int .i64 xi, .int .i64 xt]] w fun e w' => ∃ u, e = .returned (.tuple #[u, .int .i64 (Et.addE l ⟨xn, xi, xt⟩)]) ∧ Ents w' w'.heap.size u (Et.addL l ⟨xn, xi, xt⟩) ∧ Below w.heap.size w w' := by
  obtain ⟨A, c, rfl, hlc, hcm, hE⟩ := hl.open_
  have HE := Lib.hid hE
  have HL := Lib.hid hl
  have HSH := Lib.hid hs
  have HZ := Lib.hid h0
  have hz := Et.add_zero h0
  clear hE hl hs h0
  have HM := Lib.hid hz.1
  obtain ⟨_, z2, z3, z4, z5⟩ := hz
  have hat : atR l xn = -1 := by unfold atR; rw [show Et.hasN l xn = false from z4]; rfl
  have k0 := Blk.new w 28 #[.string ⟨xn.toArray⟩, .int .i64 xi, .int .i64 xt]
  have b0 := (Below.refl w.heap.size w).alloc (Nat.le_refl _) (.cells #[.string ⟨xn.toArray⟩, .int .i64 xi, .int .i64 xt] 28)
  go_enter Try.func15, Try.ntmps15
  go_wp2_with fail
  obtain ⟨w0, hw0⟩ : ∃ w0, w.alloc (.cells #[.string ⟨xn.toArray⟩, .int .i64 xi, .int .i64 xt] 28) = w0 := ⟨_, rfl⟩
  rw [hw0] at k0 b0 ⊢
  clear hw0
  obtain ⟨g, hg⟩ : ∃ g, w.heap.size = g := ⟨_, rfl⟩
  rw [hg] at k0 ⊢
  clear hg
  have hgl := k0.lt
  have hl0 : Ents w0 w0.heap.size (.slice A l.length c) l := (HL.out.below b0).more b0.size
  have HE0 : Hid (EntsAt w0 w0.heap.size A l) := Lib.hid (by
    obtain ⟨_, _, e, _, _, h⟩ := hl0.open_
    cases e
    exact h)
  refine (mayR_any _ l w0 hl0 HSH.out).mono ?_
  rintro e w1 ⟨rfl, b1⟩
  rw [HM.out]
  have k1 := k0.ext b1
  have p0 := k1.cell 0
  go_wp2_with fail
  refine (isR_any xn w1 hn).mono ?_
  rintro e w2 ⟨rfl, b2⟩
  rw [z2]
  have k2 := k1.ext b2
  have c2' := b1.trans (b2.mono b1.size)
  clear p0
  have p0 := k2.cell 0
  have p1 := k2.cell 1
  have p2 := k2.cell 2
  go_wp2_with fail
  refine (right_any xn xi xt w2).mono ?_
  rintro e w3 ⟨rfl, b3⟩
  rw [z3]
  have k3 := k2.ext b3
  have c3' := c2'.trans (b3.mono c2'.size)
  clear p0 p1 p2 k0 k1 k2 b1 b2 b3 c2'
  have p0 := k3.cell 0
  go_wp2_with fail
  refine (at_any _ l xn w3 ((hl0.below c3').more c3'.size) HM.out).mono ?_
  rintro e w4 ⟨rfl, rfl⟩
  rw [hat]
  have g5 : ¬ (30 : Int) ≤ (l.length : Int) := by omega
  clear p0 hat z2 z3 z4 HE HL hl0
  have HE := HE0
  clear HE0
  go_wp2
  go_loopw [6, 7] (fun s i wr => ∃ k : Nat, k ≤ l.length ∧ i = .int .i64 k ∧ wr.ownsRow w0.heap.size 28 3 s (([] : List E) ++ (l.take k).filter (fun z : E => decide (Tl.ord z.n xn < 0))).length (ecells (([] : List E) ++ (l.take k).filter (fun z : E => decide (Tl.ord z.n xn < 0)))) ∧ Below w0.heap.size w0 wr ∧ Blk wr g 28 [.string ⟨xn.toArray⟩, .int .i64 xi, .int .i64 xt]) (fun _ i _ => l.length - (intOf i).toNat)
  case atStart => exact ⟨0, Nat.zero_le _, rfl, World.ownsRow_nil _ _ _ _, c3', k3⟩
  case round =>
    obtain ⟨k, hk, rfl, hown, hbr, kx⟩ := hrel
    by_cases hlt : k < l.length
    · obtain ⟨b, off, rfl, hbB, h0, h1, h2⟩ := (HE.out.below hbr) k hlt
      have hy := HSH.out.at_ k hlt
      have hFF := List.length_filter_le (fun z : E => decide (Tl.ord z.n xn < 0)) (l.take k)
      rw [List.length_take, Nat.min_eq_left hk] at hFF
      have HK := Lib.hid (show (l.take (k + 1)).filter (fun z : E => decide (Tl.ord z.n xn < 0)) = (l.take k).filter (fun z : E => decide (Tl.ord z.n xn < 0)) ++ [Et.at_ l k].filter (fun z : E => decide (Tl.ord z.n xn < 0)) by rw [List.take_succ_eq_append_getElem hlt, List.filter_append, Et.at_get l k hlt])
      have hbl : b < wr.heap.size := Nat.lt_of_lt_of_le hbB hbr.size
      have hcl : (([] : List E) ++ (l.take k).filter (fun z : E => decide (Tl.ord z.n xn < 0))).length ≤ 70 := by have hb0 : (([] : List E)).length ≤ 31 := (Nat.zero_le _); rw [List.length_append]; omega
      generalize Et.at_ l k = y at *
      obtain ⟨yn, yi, yt⟩ := y
      dsimp only at h0 h1 h2 hy
      obtain ⟨o, ho⟩ : ∃ o, Tl.ord yn xn = o := ⟨_, rfl⟩
      have HO := Lib.hid ho
      obtain ⟨bb, hbb⟩ : ∃ bb, decide (o < 0) = bb := ⟨_, rfl⟩
      have HBB := Lib.hid hbb
      have HP : Hid ([(⟨yn, yi, yt⟩ : E)].filter (fun z : E => decide (Tl.ord z.n xn < 0)) = if bb then [⟨yn, yi, yt⟩] else []) := Lib.hid (by simp only [List.filter_cons, List.filter_nil, ho, hbb])
      clear ho hbb hFF
      go_upto_region 15 with fail
      have hG0 : Below wr.heap.size wr wr.drew := (Below.refl _ _).drew
      refine wp_region_list 9 [(fun y_ _ => y_ = .slice (some ⟨b, off, none⟩) l.length c),
        (fun y_ _ => y_ = .int .i64 ((k : Nat) : Int)),
        (fun y_ _ => y_ = .pointer (some ⟨b, off + k * 3, none⟩)),
        (fun y_ _ => y_ = .pointer (some ⟨b, off + k * 3, none⟩)),
        (fun y_ _ => y_ = .string ⟨yn.toArray⟩),
        (fun y_ _ => y_ = .pointer (some ⟨g, 0, none⟩)),
        (fun y_ _ => y_ = .string ⟨xn.toArray⟩),
        (fun y_ _ => y_ = .int .i64 o),
        (fun y_ _ => y_ = .bool bb)]
        (fun q => Below wr.heap.size wr q) (by kernel_rfl) rfl (by kernel_rfl) ?_ ?_ ?_ ?_
      · exact hG0
      · exact ⟨stab_eq _, stab_eq _, stab_eq _, stab_eq _, stab_eq _, stab_eq _, stab_eq _, stab_eq _, stab_eq _, trivial⟩
      · refine ⟨?_, ?_, ?_, ?_, ?_, ?_, ?_, ?_, ?_, trivial⟩
        · intro a x hG hd hs K hK
          have h0 : a.tmps.getD 0 undef = .slice (some ⟨b, off, none⟩) l.length c := hs 0 (by kernel_rfl)
          clear hd hs
          refine wpOp_plain rfl rfl ?_
          go_simp
          exact hK _ _ rfl hG (Below.refl _ _)
        · intro a x hG hd hs K hK
          have h7 : a.tmps.getD 7 undef = .int .i64 ((k : Nat) : Int) := hs 7 (by kernel_rfl)
          clear hd hs
          refine wpOp_plain rfl rfl ?_
          go_simp
          exact hK _ _ rfl hG (Below.refl _ _)
        · intro a x hG hd hs K hK
          have h33 : a.tmps.getD 33 undef = .slice (some ⟨b, off, none⟩) l.length c := hd 0 33 (by kernel_rfl)
          have h34 : a.tmps.getD 34 undef = .int .i64 ((k : Nat) : Int) := hd 1 34 (by kernel_rfl)
          clear hd hs
          refine wpOp_plain rfl rfl ?_
          go_simp
          exact hK _ _ rfl hG (Below.refl _ _)
        · intro a x hG hd hs K hK
          have h35 : a.tmps.getD 35 undef = .pointer (some ⟨b, off + k * 3, none⟩) := hd 2 35 (by kernel_rfl)
          clear hd hs
          refine wpOp_plain rfl rfl ?_
          go_simp
          exact hK _ _ rfl hG (Below.refl _ _)
        · intro a x hG hd hs K hK
          have h36 : a.tmps.getD 36 undef = .pointer (some ⟨b, off + k * 3, none⟩) := hd 3 36 (by kernel_rfl)
          clear hd hs
          refine wpOp_plain rfl rfl ?_
          have hc := (hG.cell (p := ⟨b, off + k * 3, none⟩) hbl).trans h0
          go_simp
          exact hK _ _ rfl hG (Below.refl _ _)
        · intro a x hG hd hs K hK
          have h3 : a.tmps.getD 3 undef = .pointer (some ⟨g, 0, none⟩) := hs 3 (by kernel_rfl)
          clear hd hs
          refine wpOp_plain rfl rfl ?_
          go_simp
          exact hK _ _ rfl hG (Below.refl _ _)
        · intro a x hG hd hs K hK
          have h38 : a.tmps.getD 38 undef = .pointer (some ⟨g, 0, none⟩) := hd 5 38 (by kernel_rfl)
          clear hd hs
          refine wpOp_plain rfl rfl ?_
          have hc : x.cell? ⟨g, 0, none⟩ = some (.string ⟨xn.toArray⟩) := (kx.ext hG).cell 0
          go_simp
          exact hK _ _ rfl hG (Below.refl _ _)
        · intro a x hG hd hs K hK
          have h37 : a.tmps.getD 37 undef = .string ⟨yn.toArray⟩ := hd 4 37 (by kernel_rfl)
          have h39 : a.tmps.getD 39 undef = .string ⟨xn.toArray⟩ := hd 6 39 (by kernel_rfl)
          clear hd hs
          refine wpOp_plain rfl rfl ?_
          go_simp
          refine (orderR_any yn xn x hy hn).mono ?_
          rintro e w' ⟨rfl, hb⟩
          rw [HO.out]
          exact hK _ _ rfl (hG.trans (hb.mono hG.size)) hb
        · intro a x hG hd hs K hK
          have h40 : a.tmps.getD 40 undef = .int .i64 o := hd 7 40 (by kernel_rfl)
          clear hd hs
          refine wpOp_plain rfl rfl ?_
          have hbb := HBB.out
          go_simp
          exact hK _ _ rfl hG (Below.refl _ _)
      · intro x hG
        rintro _ rfl _ rfl _ rfl _ rfl _ rfl _ rfl _ rfl _ rfl _ rfl
        simp only [Act.put, List.setIfInBounds_toArray, List.set_cons_zero, List.set_cons_succ, REnd]
        try simp only [Exit.then]
        have b9 := hbr.trans (hG.mono hbr.size)
        have k9 := kx.ext hG
        have i0 := (hG.cell (p := ⟨b, off + k * 3, none⟩) hbl).trans h0
        have i1 := (hG.cell (p := ⟨b, off + k * 3 + 1, none⟩) hbl).trans h1
        have i2 := (hG.cell (p := ⟨b, off + k * 3 + 2, none⟩) hbl).trans h2
        have ho9 := own_ext hown hG
        clear hown h0 h1 h2 kx
        cases bb with
        | false =>
          have H := Lib.hid (show ([] : List E) ++ (l.take (k + 1)).filter (fun z : E => decide (Tl.ord z.n xn < 0)) = ([] : List E) ++ (l.take k).filter (fun z : E => decide (Tl.ord z.n xn < 0)) by rw [HK.out, HP.out, if_neg (by decide), List.append_nil])
          go_wp2
          go_roundw
          case rel => exact ⟨k + 1, by omega, by go_num, by rw [H.out]; exact ho9, b9, k9⟩
          case measure => simp [intOf]; omega
        | true =>
          have H := Lib.hid (show ([] : List E) ++ (l.take (k + 1)).filter (fun z : E => decide (Tl.ord z.n xn < 0)) = (([] : List E) ++ (l.take k).filter (fun z : E => decide (Tl.ord z.n xn < 0))) ++ [⟨yn, yi, yt⟩] by rw [HK.out, HP.out, if_pos rfl]; simp only [List.append_assoc])
          obtain ⟨fq, hfq⟩ : ∃ fq, ([] : List E) ++ (l.take k).filter (fun z : E => decide (Tl.ord z.n xn < 0)) = fq := ⟨_, rfl⟩
          rw [hfq] at H ho9 hcl
          clear hfq
          have hgx := k9.lt
          go_wp2_with (at_builtin; refine stop_ ?_)
          refine wpList_append_elem rfl _ _ rfl rfl rfl (by simp) Try.underlying22 infoEty rfl (by decide) ho9 rfl (by simp [Value.oneCell']) (by rw [maxLen_eq]; omega) (by omega) b9.size ?_
          rintro v2 wb hownb hgrb
          have hBb := b9.grown hgrb b9.size (fun j e => (ho9.lt j e).1)
          have kb := k9.grown hgrb (fun e => absurd (ho9.lt _ e.symm).1 (by omega))
          obtain ⟨A7, c7, rfl⟩ := own_slice hownb
          clear hgrb ho9 i0 i1 i2
          go_wp2
          go_roundw
          case rel =>
            refine ⟨k + 1, by omega, by go_num, ?_, hBb, kb⟩
            rw [H.out, ecells_app, List.length_append]
            exact hownb
          case measure => simp [intOf]; omega
    · obtain rfl : k = l.length := by omega
      rw [List.take_length] at hown
      obtain ⟨f1, hf1⟩ : ∃ f1, ([] : List E) ++ l.filter (fun z : E => decide (Tl.ord z.n xn < 0)) = f1 := ⟨_, rfl⟩
      have hfl : f1.length ≤ 30 := by rw [← hf1, List.nil_append]; have := List.length_filter_le (fun z : E => decide (Tl.ord z.n xn < 0)) l; omega
      rw [hf1] at hown
      have HF1 := Lib.hid hf1
      clear hf1 hlt
      have p0 := kx.cell 0
      have p1 := kx.cell 1
      have p2 := kx.cell 2
      generalize wr = w5 at *
      go_wp2_with (at_builtin; refine stop_ ?_)
      refine wpList_append_elem rfl _ _ rfl rfl rfl (by simp) Try.underlying22 infoEty rfl (by decide) hown rfl (by simp [Value.oneCell']) (by rw [maxLen_eq]; omega) (by omega) hbr.size ?_
      rintro v2 wb hownb hgrb
      have hBb := hbr.grown hgrb hbr.size (fun j e => (hown.lt j e).1)
      have kb := kx.grown hgrb (fun e => absurd (hown.lt _ e.symm).1 (by omega))
      obtain ⟨A2, c2, rfl⟩ := own_slice hownb
      clear hgrb hown kx hbr p0 p1 p2
      go_wp2
      go_loopw [6, 8] (fun s i wr => ∃ k : Nat, k ≤ l.length ∧ i = .int .i64 k ∧ wr.ownsRow w0.heap.size 28 3 s ((f1 ++ [(⟨xn, xi, xt⟩ : E)]) ++ (l.take k).filter (fun z : E => decide (0 < Tl.ord z.n xn))).length (ecells ((f1 ++ [(⟨xn, xi, xt⟩ : E)]) ++ (l.take k).filter (fun z : E => decide (0 < Tl.ord z.n xn)))) ∧ Below w0.heap.size w0 wr ∧ Blk wr g 28 [.string ⟨xn.toArray⟩, .int .i64 xi, .int .i64 xt]) (fun _ i _ => l.length - (intOf i).toNat)
      case atStart => exact ⟨0, Nat.zero_le _, rfl, by rw [List.take_zero, List.filter_nil, List.append_nil, ecells_app, List.length_append]; exact hownb, hBb, kb⟩
      case round =>
        obtain ⟨k, hk, rfl, hown, hbr, kx⟩ := hrel
        by_cases hlt : k < l.length
        · obtain ⟨b, off, rfl, hbB, h0, h1, h2⟩ := (HE.out.below hbr) k hlt
          have hy := HSH.out.at_ k hlt
          have hFF := List.length_filter_le (fun z : E => decide (0 < Tl.ord z.n xn)) (l.take k)
          rw [List.length_take, Nat.min_eq_left hk] at hFF
          have HK := Lib.hid (show (l.take (k + 1)).filter (fun z : E => decide (0 < Tl.ord z.n xn)) = (l.take k).filter (fun z : E => decide (0 < Tl.ord z.n xn)) ++ [Et.at_ l k].filter (fun z : E => decide (0 < Tl.ord z.n xn)) by rw [List.take_succ_eq_append_getElem hlt, List.filter_append, Et.at_get l k hlt])
          have hbl : b < wr.heap.size := Nat.lt_of_lt_of_le hbB hbr.size
          have hcl : ((f1 ++ [(⟨xn, xi, xt⟩ : E)]) ++ (l.take k).filter (fun z : E => decide (0 < Tl.ord z.n xn))).length ≤ 70 := by have hb0 : ((f1 ++ [(⟨xn, xi, xt⟩ : E)])).length ≤ 31 := (by rw [List.length_append, List.length_singleton]; omega); rw [List.length_append]; omega
          generalize Et.at_ l k = y at *
          obtain ⟨yn, yi, yt⟩ := y
          dsimp only at h0 h1 h2 hy
          obtain ⟨o, ho⟩ : ∃ o, Tl.ord yn xn = o := ⟨_, rfl⟩
          have HO := Lib.hid ho
          obtain ⟨bb, hbb⟩ : ∃ bb, decide (0 < o) = bb := ⟨_, rfl⟩
          have HBB := Lib.hid hbb
          have HP : Hid ([(⟨yn, yi, yt⟩ : E)].filter (fun z : E => decide (0 < Tl.ord z.n xn)) = if bb then [⟨yn, yi, yt⟩] else []) := Lib.hid (by simp only [List.filter_cons, List.filter_nil, ho, hbb])
          clear ho hbb hFF
          go_upto_region 21 with fail
          have hG0 : Below wr.heap.size wr wr.drew := (Below.refl _ _).drew
          refine wp_region_list 9 [(fun y_ _ => y_ = .slice (some ⟨b, off, none⟩) l.length c),
            (fun y_ _ => y_ = .int .i64 ((k : Nat) : Int)),
            (fun y_ _ => y_ = .pointer (some ⟨b, off + k * 3, none⟩)),
            (fun y_ _ => y_ = .pointer (some ⟨b, off + k * 3, none⟩)),
            (fun y_ _ => y_ = .string ⟨yn.toArray⟩),
            (fun y_ _ => y_ = .pointer (some ⟨g, 0, none⟩)),
            (fun y_ _ => y_ = .string ⟨xn.toArray⟩),
            (fun y_ _ => y_ = .int .i64 o),
            (fun y_ _ => y_ = .bool bb)]
            (fun q => Below wr.heap.size wr q) (by kernel_rfl) rfl (by kernel_rfl) ?_ ?_ ?_ ?_
          · exact hG0
          · exact ⟨stab_eq _, stab_eq _, stab_eq _, stab_eq _, stab_eq _, stab_eq _, stab_eq _, stab_eq _, stab_eq _, trivial⟩
          · refine ⟨?_, ?_, ?_, ?_, ?_, ?_, ?_, ?_, ?_, trivial⟩
            · intro a x hG hd hs K hK
              have h0 : a.tmps.getD 0 undef = .slice (some ⟨b, off, none⟩) l.length c := hs 0 (by kernel_rfl)
              clear hd hs
              refine wpOp_plain rfl rfl ?_
              go_simp
              exact hK _ _ rfl hG (Below.refl _ _)
            · intro a x hG hd hs K hK
              have h8 : a.tmps.getD 8 undef = .int .i64 ((k : Nat) : Int) := hs 8 (by kernel_rfl)
              clear hd hs
              refine wpOp_plain rfl rfl ?_
              go_simp
              exact hK _ _ rfl hG (Below.refl _ _)
            · intro a x hG hd hs K hK
              have h59 : a.tmps.getD 59 undef = .slice (some ⟨b, off, none⟩) l.length c := hd 0 59 (by kernel_rfl)
              have h60 : a.tmps.getD 60 undef = .int .i64 ((k : Nat) : Int) := hd 1 60 (by kernel_rfl)
              clear hd hs
              refine wpOp_plain rfl rfl ?_
              go_simp
              exact hK _ _ rfl hG (Below.refl _ _)
            · intro a x hG hd hs K hK
              have h61 : a.tmps.getD 61 undef = .pointer (some ⟨b, off + k * 3, none⟩) := hd 2 61 (by kernel_rfl)
              clear hd hs
              refine wpOp_plain rfl rfl ?_
              go_simp
              exact hK _ _ rfl hG (Below.refl _ _)
            · intro a x hG hd hs K hK
              have h62 : a.tmps.getD 62 undef = .pointer (some ⟨b, off + k * 3, none⟩) := hd 3 62 (by kernel_rfl)
              clear hd hs
              refine wpOp_plain rfl rfl ?_
              have hc := (hG.cell (p := ⟨b, off + k * 3, none⟩) hbl).trans h0
              go_simp
              exact hK _ _ rfl hG (Below.refl _ _)
            · intro a x hG hd hs K hK
              have h3 : a.tmps.getD 3 undef = .pointer (some ⟨g, 0, none⟩) := hs 3 (by kernel_rfl)
              clear hd hs
              refine wpOp_plain rfl rfl ?_
              go_simp
              exact hK _ _ rfl hG (Below.refl _ _)
            · intro a x hG hd hs K hK
              have h64 : a.tmps.getD 64 undef = .pointer (some ⟨g, 0, none⟩) := hd 5 64 (by kernel_rfl)
              clear hd hs
              refine wpOp_plain rfl rfl ?_
              have hc : x.cell? ⟨g, 0, none⟩ = some (.string ⟨xn.toArray⟩) := (kx.ext hG).cell 0
              go_simp
              exact hK _ _ rfl hG (Below.refl _ _)
            · intro a x hG hd hs K hK
              have h63 : a.tmps.getD 63 undef = .string ⟨yn.toArray⟩ := hd 4 63 (by kernel_rfl)
              have h65 : a.tmps.getD 65 undef = .string ⟨xn.toArray⟩ := hd 6 65 (by kernel_rfl)
              clear hd hs
              refine wpOp_plain rfl rfl ?_
              go_simp
              refine (orderR_any yn xn x hy hn).mono ?_
              rintro e w' ⟨rfl, hb⟩
              rw [HO.out]
              exact hK _ _ rfl (hG.trans (hb.mono hG.size)) hb
            · intro a x hG hd hs K hK
              have h66 : a.tmps.getD 66 undef = .int .i64 o := hd 7 66 (by kernel_rfl)
              clear hd hs
              refine wpOp_plain rfl rfl ?_
              have hbb := HBB.out
              go_simp
              exact hK _ _ rfl hG (Below.refl _ _)
          · intro x hG
            rintro _ rfl _ rfl _ rfl _ rfl _ rfl _ rfl _ rfl _ rfl _ rfl
            simp only [Act.put, List.setIfInBounds_toArray, List.set_cons_zero, List.set_cons_succ, REnd]
            try simp only [Exit.then]
            have b9 := hbr.trans (hG.mono hbr.size)
            have k9 := kx.ext hG
            have i0 := (hG.cell (p := ⟨b, off + k * 3, none⟩) hbl).trans h0
            have i1 := (hG.cell (p := ⟨b, off + k * 3 + 1, none⟩) hbl).trans h1
            have i2 := (hG.cell (p := ⟨b, off + k * 3 + 2, none⟩) hbl).trans h2
            have ho9 := own_ext hown hG
            clear hown h0 h1 h2 kx
            cases bb with
            | false =>
              have H := Lib.hid (show (f1 ++ [(⟨xn, xi, xt⟩ : E)]) ++ (l.take (k + 1)).filter (fun z : E => decide (0 < Tl.ord z.n xn)) = (f1 ++ [(⟨xn, xi, xt⟩ : E)]) ++ (l.take k).filter (fun z : E => decide (0 < Tl.ord z.n xn)) by rw [HK.out, HP.out, if_neg (by decide), List.append_nil])
              go_wp2
              go_roundw
              case rel => exact ⟨k + 1, by omega, by go_num, by rw [H.out]; exact ho9, b9, k9⟩
              case measure => simp [intOf]; omega
            | true =>
              have H := Lib.hid (show (f1 ++ [(⟨xn, xi, xt⟩ : E)]) ++ (l.take (k + 1)).filter (fun z : E => decide (0 < Tl.ord z.n xn)) = ((f1 ++ [(⟨xn, xi, xt⟩ : E)]) ++ (l.take k).filter (fun z : E => decide (0 < Tl.ord z.n xn))) ++ [⟨yn, yi, yt⟩] by rw [HK.out, HP.out, if_pos rfl]; simp only [List.append_assoc])
              obtain ⟨fq, hfq⟩ : ∃ fq, (f1 ++ [(⟨xn, xi, xt⟩ : E)]) ++ (l.take k).filter (fun z : E => decide (0 < Tl.ord z.n xn)) = fq := ⟨_, rfl⟩
              rw [hfq] at H ho9 hcl
              clear hfq
              have hgx := k9.lt
              go_wp2_with (at_builtin; refine stop_ ?_)
              refine wpList_append_elem rfl _ _ rfl rfl rfl (by simp) Try.underlying22 infoEty rfl (by decide) ho9 rfl (by simp [Value.oneCell']) (by rw [maxLen_eq]; omega) (by omega) b9.size ?_
              rintro v2 wb hownb hgrb
              have hBb := b9.grown hgrb b9.size (fun j e => (ho9.lt j e).1)
              have kb := k9.grown hgrb (fun e => absurd (ho9.lt _ e.symm).1 (by omega))
              obtain ⟨A7, c7, rfl⟩ := own_slice hownb
              clear hgrb ho9 i0 i1 i2
              go_wp2
              go_roundw
              case rel =>
                refine ⟨k + 1, by omega, by go_num, ?_, hBb, kb⟩
                rw [H.out, ecells_app, List.length_append]
                exact hownb
              case measure => simp [intOf]; omega
        · obtain rfl : k = l.length := by omega
          rw [List.take_length] at hown
          obtain ⟨A3, c3, rfl⟩ := own_slice hown
          have HFIN : f1 ++ [⟨xn, xi, xt⟩] ++ l.filter (fun z : E => decide (0 < Tl.ord z.n xn)) = Et.addL l ⟨xn, xi, xt⟩ := by
            rw [Et.add_filter HZ.out, ← HF1.out, fP1, fP2 l xn (Et.add_zero HZ.out).2.2.2.1, List.nil_append, List.append_assoc]
            rfl
          have HFI := Lib.hid HFIN
          clear HFIN
          go_wp2
          go_ret2
          exact ⟨_, by rw [HZ.out]; rfl, Ents.of_own hown HFI.out (by rw [HFI.out]), b0.trans (hbr.mono b0.size)⟩
set_option maxRecDepth 100000 in
set_option maxHeartbeats 1000000 in
theorem addR_no (v : Value) (l : List E) (xn : List UInt8) (xi xt : Int) (w : World) (hl : Ents w w.heap.size v l) (hs : Short l) (hn : xn.length < 1099511627776) (h0 : Et.addE l ⟨xn, xi, xt⟩ ≠ 0) :
    Calls Try.prog 15 #[v, .agg #[.string ⟨xn.toArray⟩, .int .i64 xi, .int .i64 xt]] w fun e w' => e = .returned (.tuple #[.slice none 0 0, .int .i64 (Et.addE l ⟨xn, xi, xt⟩)]) ∧ Below w.heap.size w w' := by
  obtain ⟨A, c, rfl, hlc, hcm, hE⟩ := hl.open_
  have HL := Lib.hid hl
  have HSH := Lib.hid hs
  have HN0 := Lib.hid h0
  have HA := Lib.hid (show Et.addE l ⟨xn, xi, xt⟩ = if Et.mayB l then (if Tl.isN xn then (if Et.inB ⟨xn, xi, xt⟩ then (if Et.hasN l xn then 7 else if 30 ≤ l.length then 8 else 0) else 1) else 11) else 1 from rfl)
  clear hE hl hs h0
  have k0 := Blk.new w 28 #[.string ⟨xn.toArray⟩, .int .i64 xi, .int .i64 xt]
  have b0 := (Below.refl w.heap.size w).alloc (Nat.le_refl _) (.cells #[.string ⟨xn.toArray⟩, .int .i64 xi, .int .i64 xt] 28)
  go_enter Try.func15, Try.ntmps15
  go_wp2_with fail
  obtain ⟨w0, hw0⟩ : ∃ w0, w.alloc (.cells #[.string ⟨xn.toArray⟩, .int .i64 xi, .int .i64 xt] 28) = w0 := ⟨_, rfl⟩
  rw [hw0] at k0 b0 ⊢
  clear hw0
  obtain ⟨g, hg⟩ : ∃ g, w.heap.size = g := ⟨_, rfl⟩
  rw [hg] at k0 ⊢
  clear hg
  have hl0 : Ents w0 w0.heap.size (.slice A l.length c) l := (HL.out.below b0).more b0.size
  refine (mayR_any _ l w0 hl0 HSH.out).mono ?_
  rintro e w1 ⟨rfl, b1⟩
  have k1 := k0.ext b1
  have c1' := b0.trans (b1.mono b0.size)
  have hl1 := (hl0.below b1).more b1.size
  clear hl0 b1 k0 b0
  cases hm : Et.mayB l with
  | false =>
    rw [hm, if_neg (by decide)] at HA
    clear hm
    go_wp2
    go_ret2
    exact ⟨by rw [HA.out]; rfl, c1'⟩
  | true =>
    rw [hm, if_pos rfl] at HA
    have HM := Lib.hid hm
    clear hm
    have p0 := k1.cell 0
    go_wp2_with fail
    refine (isR_any xn w1 hn).mono ?_
    rintro e w2 ⟨rfl, b2⟩
    have k2 := k1.ext b2
    have c2' := c1'.trans (b2.mono c1'.size)
    have hl2 := (hl1.below b2).more b2.size
    clear hl1 b2 k1 c1' p0
    cases hin : Tl.isN xn with
    | false =>
      rw [hin, if_neg (by decide)] at HA
      clear hin
      go_wp2
      go_ret2
      exact ⟨by rw [HA.out]; rfl, c2'⟩
    | true =>
      rw [hin, if_pos rfl] at HA
      clear hin
      have p0 := k2.cell 0
      have p1 := k2.cell 1
      have p2 := k2.cell 2
      go_wp2_with fail
      refine (right_any xn xi xt w2).mono ?_
      rintro e w3 ⟨rfl, b3⟩
      have k3 := k2.ext b3
      have c3' := c2'.trans (b3.mono c2'.size)
      have hl3 := (hl2.below b3).more b3.size
      clear hl2 b3 k2 c2' p0 p1 p2
      cases hib : Et.inB ⟨xn, xi, xt⟩ with
      | false =>
        rw [hib, if_neg (by decide)] at HA
        clear hib
        go_wp2
        go_ret2
        exact ⟨by rw [HA.out]; rfl, c3'⟩
      | true =>
        rw [hib, if_pos rfl] at HA
        clear hib
        have p0 := k3.cell 0
        go_wp2_with fail
        refine (at_any _ l xn w3 hl3 HM.out).mono ?_
        rintro e w4 ⟨rfl, rfl⟩
        clear p0
        cases hh : Et.hasN l xn with
        | true =>
          rw [hh, if_pos rfl] at HA
          have hat : atR l xn = (Et.pos l xn : Int) := by unfold atR; rw [hh]; rfl
          rw [hat]
          have hp0 : (0 : Int) ≤ (Et.pos l xn : Int) := by omega
          generalize Et.pos l xn = ps at *
          clear hh hat
          go_wp2
          go_ret2
          exact ⟨by rw [HA.out]; rfl, c3'⟩
        | false =>
          rw [hh, if_neg (by decide)] at HA
          have hat : atR l xn = -1 := by unfold atR; rw [hh]; rfl
          rw [hat]
          clear hh hat
          by_cases hful : 30 ≤ l.length
          · rw [if_pos hful] at HA
            have hf : (30 : Int) ≤ (l.length : Int) := by omega
            clear hful
            go_wp2
            go_ret2
            exact ⟨by rw [HA.out]; rfl, c3'⟩
          · rw [if_neg hful] at HA
            exact absurd HA.out HN0.out
end Go.Proofs.Ytahkhieoabbaaaa
