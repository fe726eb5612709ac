/-
  The reference of chapter 06: Encode. By an AI agent.
-/
import Derived.Test.YtieajlpkiheebaaDoorSumR
import Derived.Test.YtieajlpkiheebaaDoorCrcR
namespace Go.Proofs.YtieajlpkiheebaaDoor
open Go.RowKit Go.ChangeShapes Go.WideShapes Go.ChangeAt

theorem recs_appS (l m : List (Int × Nat)) : Pk.recs (l ++ m) = Pk.recs l ++ Pk.recs m := by unfold Pk.recs; rw [List.flatMap_append]
theorem recs_eS (y : Sm.En) : Pk.recs (eS y) = ((Pk.be y.k.toNat 1 ++ Pk.be y.i.toNat 1) ++ Pk.be y.x.toNat 2) ++ Pk.be y.s 4 := by
  unfold eS
  rw [Cd.recs_cons, Cd.recs_cons, Cd.recs_cons, Cd.recs_cons]
  unfold Pk.rec1
  simp [Pk.recs]
theorem recs_pS_len : ∀ l : List Sm.En, (Pk.recs (pS l)).length = 8 * l.length
  | [] => rfl
  | y :: l => by
    have h : pS (y :: l) = eS y ++ pS l := by unfold pS; rw [List.flatMap_cons]
    rw [h, recs_appS, recs_eS, List.length_append, recs_pS_len l]
    simp [Pk.length_be]; omega
theorem recs_pS_snoc (l : List Sm.En) (k : Nat) (h : k < l.length) : Pk.recs (pS (l.take (k + 1))) = Pk.recs (pS (l.take k)) ++ (((Pk.be l[k].k.toNat 1 ++ Pk.be l[k].i.toNat 1) ++ Pk.be l[k].x.toNat 2) ++ Pk.be l[k].s 4) := by
  rw [List.take_succ_eq_append_getElem h, pS_snoc, recs_appS, recs_eS]
def endB (e : Bool) : UInt8 := if e then 1 else 0
theorem sm_bytes (s n : Nat) (e : Bool) (l : List Sm.En) : Sm.smE ⟨s, n, e, l⟩ = Crc.sealed (((((([104, 115, 117, 109]) ++ Pk.be s 6) ++ Pk.be n 4) ++ Pk.be l.length 1) ++ [endB e]) ++ Pk.recs (pS l)) := by
  unfold Sm.smE
  rw [zip_sm, recs_appS]
  have h : Pk.recs (hS ⟨s, n, e, l⟩) = (((([104, 115, 117, 109]) ++ Pk.be s 6) ++ Pk.be n 4) ++ Pk.be l.length 1) ++ [endB e] := by
    unfold hS
    rw [Cd.recs_cons, Cd.recs_cons, Cd.recs_cons, Cd.recs_cons, Cd.recs_cons]
    have h1 : Pk.rec1 ((4 : Int), 1752397165) = [104, 115, 117, 109] := by decide
    have h2 : Pk.rec1 ((1 : Int), e.toNat) = [endB e] := by cases e <;> decide
    rw [h1, h2]
    unfold Pk.rec1
    simp [Pk.recs]
  rw [h]
theorem sack_len (s n m : Nat) : (((([104, 115, 117, 109]) ++ Pk.be s 6) ++ Pk.be n 4) ++ Pk.be m 1).length = 15 := by simp [Pk.length_be]
set_option maxRecDepth 100000 in
set_option maxHeartbeats 8000000 in
theorem rencodeS_nat (s n : Nat) (e : Bool) (vl : Value) (l : List Sm.En) (w : World) (hl : Ents w w.heap.size vl l) (hp : l.all Sm.enB = true) (hs : ∀ y ∈ l, y.s < 4294967296) (h1 : s < 281474976710656) (h2 : n < 4294967296) (h3 : l.length ≤ 13) :
    Calls Tryd.prog 14 #[.agg #[.int .i64 (s : Int), .int .i64 (n : Int), .bool e, vl]] w fun r w' => r = .returned (.string ⟨(Sm.smE ⟨s, n, e, l⟩).toArray⟩) ∧ Below w.heap.size w w' := by
  obtain ⟨A, c, rfl, hlc, hcm, hE⟩ := hl.open_
  have HEE := Lib.hid hE
  have HE := Lib.hid (sm_bytes s n e l)
  have HL0 := Lib.hid (sack_len s n l.length)
  have HPB := Lib.hid hp
  have HS := Lib.hid hs
  clear hl hE hp hs
  go_enter Tryd.func14, Tryd.ntmps14
  go_upto_region 1 with (fail)
  have hk := Blk.new w 24 #[.int .i64 (s : Int), .int .i64 (n : Int), .bool e, .slice A l.length c]
  have b0 := (Below.refl w.heap.size w).alloc (Nat.le_refl _) (.cells #[.int .i64 (s : Int), .int .i64 (n : Int), .bool e, .slice A l.length c] 24)
  obtain ⟨w0, hw0⟩ : ∃ w0, w.alloc (.cells #[.int .i64 (s : Int), .int .i64 (n : Int), .bool e, .slice A l.length c] 24) = w0 := ⟨_, rfl⟩
  rw [hw0] at hk b0 ⊢
  clear hw0
  obtain ⟨g, hgq⟩ : ∃ gq, w.heap.size = gq := ⟨_, rfl⟩
  rw [hgq] at hk ⊢
  clear hgq
  have hG0 : Below w0.heap.size w0 w0.drew := (Below.refl _ _).drew
  refine wp_region_list 17 [(fun y_ _ => y_ = .pointer (some ⟨g, 0, none⟩)),
    (fun y_ _ => y_ = .int .i64 (s : Int)),
    (fun y_ _ => y_ = .int .u64 (s : Int)),
    (fun y_ _ => y_ = .string ⟨(Pk.be s 6).toArray⟩),
    (fun y_ _ => y_ = .string ⟨(([104, 115, 117, 109]) ++ Pk.be s 6).toArray⟩),
    (fun y_ _ => y_ = .pointer (some ⟨g, 1, none⟩)),
    (fun y_ _ => y_ = .int .i64 (n : Int)),
    (fun y_ _ => y_ = .int .u64 (n : Int)),
    (fun y_ _ => y_ = .string ⟨(Pk.be n 4).toArray⟩),
    (fun y_ _ => y_ = .string ⟨((([104, 115, 117, 109]) ++ Pk.be s 6) ++ Pk.be n 4).toArray⟩),
    (fun y_ _ => y_ = .pointer (some ⟨g, 3, none⟩)),
    (fun y_ _ => y_ = .slice A l.length c),
    (fun y_ _ => y_ = .int .i64 ((l.length : Nat) : Int)),
    (fun y_ _ => y_ = .int .u64 ((l.length : Nat) : Int)),
    (fun y_ _ => y_ = .string ⟨(Pk.be l.length 1).toArray⟩),
    (fun y_ _ => y_ = .string ⟨(((([104, 115, 117, 109]) ++ Pk.be s 6) ++ Pk.be n 4) ++ Pk.be l.length 1).toArray⟩),
    (fun y_ _ => y_ = .string ⟨(((([104, 115, 117, 109]) ++ Pk.be s 6) ++ Pk.be n 4) ++ Pk.be l.length 1).toArray⟩)]
    (fun x => Below w0.heap.size w0 x) (by kernel_rfl) rfl (by kernel_rfl) ?_ ?_ ?_ ?_
  · exact hG0
  · exact ⟨stab_eq _, stab_eq _, stab_eq _, stab_eq _, stab_eq _, stab_eq _, stab_eq _, stab_eq _, stab_eq _, stab_eq _, stab_eq _, stab_eq _, stab_eq _, stab_eq _, stab_eq _, stab_eq _, stab_eq _, trivial⟩
  · refine ⟨?_, ?_, ?_, ?_, ?_, ?_, ?_, ?_, ?_, ?_, ?_, ?_, ?_, ?_, ?_, ?_, ?_, trivial⟩
    · intro a x hG hd hs K hK
      have h1 : a.tmps.getD 1 undef = .pointer (some ⟨g, 0, none⟩) := hs 1 (by kernel_rfl)
      clear hd hs
      refine wpOp_plain rfl rfl ?_
      go_simp
      exact hK _ _ rfl hG (Below.refl _ _)
    · intro a x hG hd hs K hK
      have h6 : a.tmps.getD 6 undef = .pointer (some ⟨g, 0, none⟩) := hd 0 6 (by kernel_rfl)
      clear hd hs
      refine wpOp_plain rfl rfl ?_
      have x0 : x.cell? ⟨g, 0, none⟩ = some (.int .i64 (s : Int)) := (hk.ext hG).cell 0
      go_simp
      exact hK _ _ rfl hG (Below.refl _ _)
    · intro a x hG hd hs K hK
      have h7 : a.tmps.getD 7 undef = .int .i64 (s : Int) := hd 1 7 (by kernel_rfl)
      clear hd hs
      refine wpOp_plain rfl rfl ?_
      have hwr : IntKind.u64.wrap (s : Int) = s := IntWalk.u64_in _ (by omega)
      go_simp
      exact hK _ _ rfl hG (Below.refl _ _)
    · intro a x hG hd hs K hK
      have h8 : a.tmps.getD 8 undef = .int .u64 (s : Int) := hd 2 8 (by kernel_rfl)
      clear hd hs
      refine wpOp_plain rfl rfl ?_
      go_simp
      refine (rof_eq s 6 _ _ rfl rfl _ (by omega) (by omega)).mono ?_
      rintro e w' ⟨rfl, hb⟩
      exact hK _ _ rfl (hG.trans (hb.mono hG.size)) hb
    · intro a x hG hd hs K hK
      have h9 : a.tmps.getD 9 undef = .string ⟨(Pk.be s 6).toArray⟩ := hd 3 9 (by kernel_rfl)
      clear hd hs
      refine wpOp_plain rfl rfl ?_
      have hcat := run_cat ([104, 115, 117, 109]) (Pk.be s 6) (by simp [Pk.length_be])
      go_simp
      exact hK _ _ rfl hG (Below.refl _ _)
    · intro a x hG hd hs K hK
      have h1 : a.tmps.getD 1 undef = .pointer (some ⟨g, 0, none⟩) := hs 1 (by kernel_rfl)
      clear hd hs
      refine wpOp_plain rfl rfl ?_
      go_simp
      exact hK _ _ rfl hG (Below.refl _ _)
    · intro a x hG hd hs K hK
      have h11 : a.tmps.getD 11 undef = .pointer (some ⟨g, 1, none⟩) := hd 5 11 (by kernel_rfl)
      clear hd hs
      refine wpOp_plain rfl rfl ?_
      have x0 : x.cell? ⟨g, 1, none⟩ = some (.int .i64 (n : Int)) := (hk.ext hG).cell 1
      go_simp
      exact hK _ _ rfl hG (Below.refl _ _)
    · intro a x hG hd hs K hK
      have h12 : a.tmps.getD 12 undef = .int .i64 (n : Int) := hd 6 12 (by kernel_rfl)
      clear hd hs
      refine wpOp_plain rfl rfl ?_
      have hwr : IntKind.u64.wrap (n : Int) = n := IntWalk.u64_in _ (by omega)
      go_simp
      exact hK _ _ rfl hG (Below.refl _ _)
    · intro a x hG hd hs K hK
      have h13 : a.tmps.getD 13 undef = .int .u64 (n : Int) := hd 7 13 (by kernel_rfl)
      clear hd hs
      refine wpOp_plain rfl rfl ?_
      go_simp
      refine (rof_eq n 4 _ _ rfl rfl _ (by omega) (by omega)).mono ?_
      rintro e w' ⟨rfl, hb⟩
      exact hK _ _ rfl (hG.trans (hb.mono hG.size)) hb
    · intro a x hG hd hs K hK
      have h10 : a.tmps.getD 10 undef = .string ⟨(([104, 115, 117, 109]) ++ Pk.be s 6).toArray⟩ := hd 4 10 (by kernel_rfl)
      have h14 : a.tmps.getD 14 undef = .string ⟨(Pk.be n 4).toArray⟩ := hd 8 14 (by kernel_rfl)
      clear hd hs
      refine wpOp_plain rfl rfl ?_
      have hcat := run_cat (([104, 115, 117, 109]) ++ Pk.be s 6) (Pk.be n 4) (by simp [Pk.length_be])
      go_simp
      exact hK _ _ rfl hG (Below.refl _ _)
    · intro a x hG hd hs K hK
      have h1 : a.tmps.getD 1 undef = .pointer (some ⟨g, 0, none⟩) := hs 1 (by kernel_rfl)
      clear hd hs
      refine wpOp_plain rfl rfl ?_
      go_simp
      exact hK _ _ rfl hG (Below.refl _ _)
    · intro a x hG hd hs K hK
      have h16 : a.tmps.getD 16 undef = .pointer (some ⟨g, 3, none⟩) := hd 10 16 (by kernel_rfl)
      clear hd hs
      refine wpOp_plain rfl rfl ?_
      have x0 : x.cell? ⟨g, 3, none⟩ = some (.slice A l.length c) := (hk.ext hG).cell 3
      go_simp
      exact hK _ _ rfl hG (Below.refl _ _)
    · intro a x hG hd hs K hK
      have h17 : a.tmps.getD 17 undef = .slice A l.length c := hd 11 17 (by kernel_rfl)
      clear hd hs
      refine wpOp_plain rfl rfl ?_
      go_simp
      exact hK _ _ rfl hG (Below.refl _ _)
    · intro a x hG hd hs K hK
      have h18 : a.tmps.getD 18 undef = .int .i64 ((l.length : Nat) : Int) := hd 12 18 (by kernel_rfl)
      clear hd hs
      refine wpOp_plain rfl rfl ?_
      have hwr : IntKind.u64.wrap (l.length : Int) = l.length := IntWalk.u64_in _ (by omega)
      go_simp
      exact hK _ _ rfl hG (Below.refl _ _)
    · intro a x hG hd hs K hK
      have h19 : a.tmps.getD 19 undef = .int .u64 ((l.length : Nat) : Int) := hd 13 19 (by kernel_rfl)
      clear hd hs
      refine wpOp_plain rfl rfl ?_
      go_simp
      refine (rof_eq l.length 1 _ _ rfl rfl _ (by omega) (by omega)).mono ?_
      rintro e w' ⟨rfl, hb⟩
      exact hK _ _ rfl (hG.trans (hb.mono hG.size)) hb
    · intro a x hG hd hs K hK
      have h15 : a.tmps.getD 15 undef = .string ⟨((([104, 115, 117, 109]) ++ Pk.be s 6) ++ Pk.be n 4).toArray⟩ := hd 9 15 (by kernel_rfl)
      have h20 : a.tmps.getD 20 undef = .string ⟨(Pk.be l.length 1).toArray⟩ := hd 14 20 (by kernel_rfl)
      clear hd hs
      refine wpOp_plain rfl rfl ?_
      have hcat := run_cat ((([104, 115, 117, 109]) ++ Pk.be s 6) ++ Pk.be n 4) (Pk.be l.length 1) (by simp [Pk.length_be])
      go_simp
      exact hK _ _ rfl hG (Below.refl _ _)
    · intro a x hG hd hs K hK
      have h21 : a.tmps.getD 21 undef = .string ⟨(((([104, 115, 117, 109]) ++ Pk.be s 6) ++ Pk.be n 4) ++ Pk.be l.length 1).toArray⟩ := hd 15 21 (by kernel_rfl)
      clear hd hs
      refine wpOp_plain rfl rfl ?_
      go_simp
      exact hK _ _ rfl hG (Below.refl _ _)
  · intro x hG
    rintro _ rfl _ rfl _ rfl _ rfl _ rfl _ rfl _ rfl _ rfl _ rfl _ rfl _ rfl _ rfl _ rfl _ rfl _ rfl _ rfl _ rfl
    simp only [Act.put, List.setIfInBounds_toArray, List.set_cons_zero, List.set_cons_succ, REnd]
    try simp only [Exit.then]
    have hbx := hG
    clear hG
    generalize ((([104, 115, 117, 109]) ++ Pk.be s 6) ++ Pk.be n 4) ++ Pk.be l.length 1 = S0 at *
    have ce : x.cell? ⟨g, 2, none⟩ = some (.bool e) := (hk.ext hbx).cell 2
    have hcat := run_cat S0 [endB e] (by rw [HL0.out]; simp)
    have HL1 := Lib.hid (show (S0 ++ [endB e]).length = 16 by rw [List.length_append, HL0.out]; rfl)
    cases e
    all_goals
      unfold endB at hcat HL1 HE
      simp only [if_true, if_false, Bool.false_eq_true] at hcat HL1 HE
      have hno : ¬ 9223372036854775807 < S0.length + 1 := by rw [HL0.out]; omega
      go_wp2
      clear hcat ce
      rw [ba_append] at *
      generalize (S0 ++ [_]) = S1 at *
      clear hno HL0
      go_loopw [3, 4] (fun y i wr => ∃ k : Nat, k ≤ l.length ∧ i = .int .i64 k ∧ y = .string ⟨(S1 ++ Pk.recs (pS (l.take k))).toArray⟩ ∧ Below w0.heap.size w0 wr) (fun _ i _ => l.length - (intOf i).toNat)
      case atStart => exact ⟨0, Nat.zero_le _, rfl, by rw [show Pk.recs (pS (l.take 0)) = [] from rfl, List.append_nil], hbx⟩
      case round =>
        obtain ⟨k, hk9, rfl, rfl, hbw⟩ := hrel
        clear hbx
        have hkr := hk.ext hbw
        have hbv := b0.trans (hbw.mono b0.size)
        have c3 := hkr.cell 3
        by_cases hlt : k < l.length
        · obtain ⟨b, off, rfl, hbB, q0, q1, q2, q3⟩ := (HEE.out.below hbv) k hlt
          have HSN := Lib.hid (congrArg (S1 ++ ·) (recs_pS_snoc l k hlt))
          have hb1 := HS.out _ (List.getElem_mem hlt)
          have hb2 := List.all_eq_true.1 HPB.out _ (List.getElem_mem hlt)
          have hlen : (S1 ++ Pk.recs (pS (l.take k))).length ≤ 120 := by rw [List.length_append, HL1.out, recs_pS_len, List.length_take]; omega
          generalize l[k] = y at *
          obtain ⟨yk, yi, yx, ys⟩ := y
          unfold Sm.enB at hb2
          rw [decide_eq_true_iff] at hb2
          simp only at hb2 hb1 q0 q1 q2 q3
          obtain ⟨m1, m2, m3, m4, m5, m6⟩ := hb2
          obtain ⟨yk, rfl⟩ := Int.eq_ofNat_of_zero_le (show 0 ≤ yk by omega)
          obtain ⟨yi, rfl⟩ := Int.eq_ofNat_of_zero_le m3
          obtain ⟨yx, rfl⟩ := Int.eq_ofNat_of_zero_le m5
          have HS2 := Lib.hid (show S1 ++ Pk.recs (pS (l.take (k + 1))) = (S1 ++ Pk.recs (pS (l.take k))) ++ (((Pk.be yk 1 ++ Pk.be yi 1) ++ Pk.be yx 2) ++ Pk.be ys 4) by rw [List.append_assoc]; exact HSN.out)
          clear HSN
          generalize S1 ++ Pk.recs (pS (l.take k)) = Y at *
          go_upto_region 9 with fail
          have hk5 := Blk.new wr 62 #[.int .i64 (yk : Int), .int .i64 (yi : Int), .int .i64 (yx : Int), .int .u32 (ys : Int)]
          have hbn := hbw.alloc hbw.size (.cells #[.int .i64 (yk : Int), .int .i64 (yi : Int), .int .i64 (yx : Int), .int .u32 (ys : Int)] 62)
          obtain ⟨w5, hw5⟩ : ∃ w5, wr.alloc (.cells #[.int .i64 (yk : Int), .int .i64 (yi : Int), .int .i64 (yx : Int), .int .u32 (ys : Int)] 62) = w5 := ⟨_, rfl⟩
          rw [hw5] at hk5 hbn ⊢
          clear hw5 c3 q0 q1 q2 q3
          obtain ⟨g5, hg5⟩ : ∃ g5, wr.heap.size = g5 := ⟨_, rfl⟩
          rw [hg5] at hk5 ⊢
          clear hg5 hkr
          have hG0 : Below w5.heap.size w5 w5.drew := (Below.refl _ _).drew
          refine wp_region_list 22 [(fun y_ _ => y_ = .string ⟨Y.toArray⟩),
            (fun y_ _ => y_ = .pointer (some ⟨g5, 0, none⟩)),
            (fun y_ _ => y_ = .int .i64 (yk : Int)),
            (fun y_ _ => y_ = .int .u64 (yk : Int)),
            (fun y_ _ => y_ = .string ⟨(Pk.be yk 1).toArray⟩),
            (fun y_ _ => y_ = .pointer (some ⟨g5, 1, none⟩)),
            (fun y_ _ => y_ = .int .i64 (yi : Int)),
            (fun y_ _ => y_ = .int .u64 (yi : Int)),
            (fun y_ _ => y_ = .string ⟨(Pk.be yi 1).toArray⟩),
            (fun y_ _ => y_ = .string ⟨(Pk.be yk 1 ++ Pk.be yi 1).toArray⟩),
            (fun y_ _ => y_ = .pointer (some ⟨g5, 2, none⟩)),
            (fun y_ _ => y_ = .int .i64 (yx : Int)),
            (fun y_ _ => y_ = .int .u64 (yx : Int)),
            (fun y_ _ => y_ = .string ⟨(Pk.be yx 2).toArray⟩),
            (fun y_ _ => y_ = .string ⟨((Pk.be yk 1 ++ Pk.be yi 1) ++ Pk.be yx 2).toArray⟩),
            (fun y_ _ => y_ = .pointer (some ⟨g5, 3, none⟩)),
            (fun y_ _ => y_ = .int .u32 (ys : Int)),
            (fun y_ _ => y_ = .int .u64 (ys : Int)),
            (fun y_ _ => y_ = .string ⟨(Pk.be ys 4).toArray⟩),
            (fun y_ _ => y_ = .string ⟨(((Pk.be yk 1 ++ Pk.be yi 1) ++ Pk.be yx 2) ++ Pk.be ys 4).toArray⟩),
            (fun y_ _ => y_ = .string ⟨(Y ++ (((Pk.be yk 1 ++ Pk.be yi 1) ++ Pk.be yx 2) ++ Pk.be ys 4)).toArray⟩),
            (fun y_ _ => y_ = .string ⟨(Y ++ (((Pk.be yk 1 ++ Pk.be yi 1) ++ Pk.be yx 2) ++ Pk.be ys 4)).toArray⟩)]
            (fun x => Below w5.heap.size w5 x) (by kernel_rfl) rfl (by kernel_rfl) ?_ ?_ ?_ ?_
          · exact hG0
          · exact ⟨stab_eq _, stab_eq _, stab_eq _, stab_eq _, stab_eq _, stab_eq _, stab_eq _, stab_eq _, stab_eq _, stab_eq _, stab_eq _, stab_eq _, stab_eq _, stab_eq _, stab_eq _, stab_eq _, stab_eq _, stab_eq _, stab_eq _, stab_eq _, stab_eq _, stab_eq _, trivial⟩
          · refine ⟨?_, ?_, ?_, ?_, ?_, ?_, ?_, ?_, ?_, ?_, ?_, ?_, ?_, ?_, ?_, ?_, ?_, ?_, ?_, ?_, ?_, ?_, trivial⟩
            · intro a x hG hd hs K hK
              have h3 : a.tmps.getD 3 undef = .string ⟨Y.toArray⟩ := hs 3 (by kernel_rfl)
              clear hd hs
              refine wpOp_plain rfl rfl ?_
              go_simp
              exact hK _ _ rfl hG (Below.refl _ _)
            · intro a x hG hd hs K hK
              have h5 : a.tmps.getD 5 undef = .pointer (some ⟨g5, 0, none⟩) := hs 5 (by kernel_rfl)
              clear hd hs
              refine wpOp_plain rfl rfl ?_
              go_simp
              exact hK _ _ rfl hG (Below.refl _ _)
            · intro a x hG hd hs K hK
              have h41 : a.tmps.getD 41 undef = .pointer (some ⟨g5, 0, none⟩) := hd 1 41 (by kernel_rfl)
              clear hd hs
              refine wpOp_plain rfl rfl ?_
              have x0 : x.cell? ⟨g5, 0, none⟩ = some (.int .i64 (yk : Int)) := (hk5.ext hG).cell 0
              go_simp
              exact hK _ _ rfl hG (Below.refl _ _)
            · intro a x hG hd hs K hK
              have h42 : a.tmps.getD 42 undef = .int .i64 (yk : Int) := hd 2 42 (by kernel_rfl)
              clear hd hs
              refine wpOp_plain rfl rfl ?_
              have hwr : IntKind.u64.wrap (yk : Int) = yk := IntWalk.u64_in _ (by omega)
              go_simp
              exact hK _ _ rfl hG (Below.refl _ _)
            · intro a x hG hd hs K hK
              have h43 : a.tmps.getD 43 undef = .int .u64 (yk : Int) := hd 3 43 (by kernel_rfl)
              clear hd hs
              refine wpOp_plain rfl rfl ?_
              go_simp
              refine (rof_eq yk 1 _ _ rfl rfl _ (by omega) (by omega)).mono ?_
              rintro e w' ⟨rfl, hb⟩
              exact hK _ _ rfl (hG.trans (hb.mono hG.size)) hb
            · intro a x hG hd hs K hK
              have h5 : a.tmps.getD 5 undef = .pointer (some ⟨g5, 0, none⟩) := hs 5 (by kernel_rfl)
              clear hd hs
              refine wpOp_plain rfl rfl ?_
              go_simp
              exact hK _ _ rfl hG (Below.refl _ _)
            · intro a x hG hd hs K hK
              have h45 : a.tmps.getD 45 undef = .pointer (some ⟨g5, 1, none⟩) := hd 5 45 (by kernel_rfl)
              clear hd hs
              refine wpOp_plain rfl rfl ?_
              have x0 : x.cell? ⟨g5, 1, none⟩ = some (.int .i64 (yi : Int)) := (hk5.ext hG).cell 1
              go_simp
              exact hK _ _ rfl hG (Below.refl _ _)
            · intro a x hG hd hs K hK
              have h46 : a.tmps.getD 46 undef = .int .i64 (yi : Int) := hd 6 46 (by kernel_rfl)
              clear hd hs
              refine wpOp_plain rfl rfl ?_
              have hwr : IntKind.u64.wrap (yi : Int) = yi := IntWalk.u64_in _ (by omega)
              go_simp
              exact hK _ _ rfl hG (Below.refl _ _)
            · intro a x hG hd hs K hK
              have h47 : a.tmps.getD 47 undef = .int .u64 (yi : Int) := hd 7 47 (by kernel_rfl)
              clear hd hs
              refine wpOp_plain rfl rfl ?_
              go_simp
              refine (rof_eq yi 1 _ _ rfl rfl _ (by omega) (by omega)).mono ?_
              rintro e w' ⟨rfl, hb⟩
              exact hK _ _ rfl (hG.trans (hb.mono hG.size)) hb
            · intro a x hG hd hs K hK
              have h44 : a.tmps.getD 44 undef = .string ⟨(Pk.be yk 1).toArray⟩ := hd 4 44 (by kernel_rfl)
              have h48 : a.tmps.getD 48 undef = .string ⟨(Pk.be yi 1).toArray⟩ := hd 8 48 (by kernel_rfl)
              clear hd hs
              refine wpOp_plain rfl rfl ?_
              have hcat := run_cat (Pk.be yk 1) (Pk.be yi 1) (by simp [Pk.length_be])
              go_simp
              exact hK _ _ rfl hG (Below.refl _ _)
            · intro a x hG hd hs K hK
              have h5 : a.tmps.getD 5 undef = .pointer (some ⟨g5, 0, none⟩) := hs 5 (by kernel_rfl)
              clear hd hs
              refine wpOp_plain rfl rfl ?_
              go_simp
              exact hK _ _ rfl hG (Below.refl _ _)
            · intro a x hG hd hs K hK
              have h50 : a.tmps.getD 50 undef = .pointer (some ⟨g5, 2, none⟩) := hd 10 50 (by kernel_rfl)
              clear hd hs
              refine wpOp_plain rfl rfl ?_
              have x0 : x.cell? ⟨g5, 2, none⟩ = some (.int .i64 (yx : Int)) := (hk5.ext hG).cell 2
              go_simp
              exact hK _ _ rfl hG (Below.refl _ _)
            · intro a x hG hd hs K hK
              have h51 : a.tmps.getD 51 undef = .int .i64 (yx : Int) := hd 11 51 (by kernel_rfl)
              clear hd hs
              refine wpOp_plain rfl rfl ?_
              have hwr : IntKind.u64.wrap (yx : Int) = yx := IntWalk.u64_in _ (by omega)
              go_simp
              exact hK _ _ rfl hG (Below.refl _ _)
            · intro a x hG hd hs K hK
              have h52 : a.tmps.getD 52 undef = .int .u64 (yx : Int) := hd 12 52 (by kernel_rfl)
              clear hd hs
              refine wpOp_plain rfl rfl ?_
              go_simp
              refine (rof_eq yx 2 _ _ rfl rfl _ (by omega) (by omega)).mono ?_
              rintro e w' ⟨rfl, hb⟩
              exact hK _ _ rfl (hG.trans (hb.mono hG.size)) hb
            · intro a x hG hd hs K hK
              have h49 : a.tmps.getD 49 undef = .string ⟨(Pk.be yk 1 ++ Pk.be yi 1).toArray⟩ := hd 9 49 (by kernel_rfl)
              have h53 : a.tmps.getD 53 undef = .string ⟨(Pk.be yx 2).toArray⟩ := hd 13 53 (by kernel_rfl)
              clear hd hs
              refine wpOp_plain rfl rfl ?_
              have hcat := run_cat (Pk.be yk 1 ++ Pk.be yi 1) (Pk.be yx 2) (by simp [Pk.length_be])
              go_simp
              exact hK _ _ rfl hG (Below.refl _ _)
            · intro a x hG hd hs K hK
              have h5 : a.tmps.getD 5 undef = .pointer (some ⟨g5, 0, none⟩) := hs 5 (by kernel_rfl)
              clear hd hs
              refine wpOp_plain rfl rfl ?_
              go_simp
              exact hK _ _ rfl hG (Below.refl _ _)
            · intro a x hG hd hs K hK
              have h55 : a.tmps.getD 55 undef = .pointer (some ⟨g5, 3, none⟩) := hd 15 55 (by kernel_rfl)
              clear hd hs
              refine wpOp_plain rfl rfl ?_
              have x0 : x.cell? ⟨g5, 3, none⟩ = some (.int .u32 (ys : Int)) := (hk5.ext hG).cell 3
              go_simp
              exact hK _ _ rfl hG (Below.refl _ _)
            · intro a x hG hd hs K hK
              have h56 : a.tmps.getD 56 undef = .int .u32 (ys : Int) := hd 16 56 (by kernel_rfl)
              clear hd hs
              refine wpOp_plain rfl rfl ?_
              have hwr : IntKind.u64.wrap (ys : Int) = ys := IntWalk.u64_in _ (by omega)
              go_simp
              exact hK _ _ rfl hG (Below.refl _ _)
            · intro a x hG hd hs K hK
              have h57 : a.tmps.getD 57 undef = .int .u64 (ys : Int) := hd 17 57 (by kernel_rfl)
              clear hd hs
              refine wpOp_plain rfl rfl ?_
              go_simp
              refine (rof_eq ys 4 _ _ rfl rfl _ (by omega) (by omega)).mono ?_
              rintro e w' ⟨rfl, hb⟩
              exact hK _ _ rfl (hG.trans (hb.mono hG.size)) hb
            · intro a x hG hd hs K hK
              have h54 : a.tmps.getD 54 undef = .string ⟨((Pk.be yk 1 ++ Pk.be yi 1) ++ Pk.be yx 2).toArray⟩ := hd 14 54 (by kernel_rfl)
              have h58 : a.tmps.getD 58 undef = .string ⟨(Pk.be ys 4).toArray⟩ := hd 18 58 (by kernel_rfl)
              clear hd hs
              refine wpOp_plain rfl rfl ?_
              have hcat := run_cat ((Pk.be yk 1 ++ Pk.be yi 1) ++ Pk.be yx 2) (Pk.be ys 4) (by simp [Pk.length_be])
              go_simp
              exact hK _ _ rfl hG (Below.refl _ _)
            · intro a x hG hd hs K hK
              have h40 : a.tmps.getD 40 undef = .string ⟨Y.toArray⟩ := hd 0 40 (by kernel_rfl)
              have h59 : a.tmps.getD 59 undef = .string ⟨(((Pk.be yk 1 ++ Pk.be yi 1) ++ Pk.be yx 2) ++ Pk.be ys 4).toArray⟩ := hd 19 59 (by kernel_rfl)
              clear hd hs
              refine wpOp_plain rfl rfl ?_
              have hno : ¬ 9223372036854775807 < Y.length + ((Pk.be yk 1).length + ((Pk.be yi 1).length + ((Pk.be yx 2).length + (Pk.be ys 4).length))) := by simp only [Pk.length_be]; omega
              go_simp
              rw [ba_append]
              exact hK _ _ (congrArg (fun q : List UInt8 => Value.string ⟨q.toArray⟩) (show Y ++ (Pk.be yk 1 ++ (Pk.be yi 1 ++ (Pk.be yx 2 ++ Pk.be ys 4))) = Y ++ (((Pk.be yk 1 ++ Pk.be yi 1) ++ Pk.be yx 2) ++ Pk.be ys 4) by simp only [List.append_assoc])) hG (Below.refl _ _)
            · intro a x hG hd hs K hK
              have h60 : a.tmps.getD 60 undef = .string ⟨(Y ++ (((Pk.be yk 1 ++ Pk.be yi 1) ++ Pk.be yx 2) ++ Pk.be ys 4)).toArray⟩ := hd 20 60 (by kernel_rfl)
              clear hd hs
              refine wpOp_plain rfl rfl ?_
              go_simp
              exact hK _ _ rfl hG (Below.refl _ _)
          · intro x hG
            rintro _ rfl _ rfl _ rfl _ rfl _ rfl _ rfl _ rfl _ rfl _ rfl _ rfl _ rfl _ rfl _ rfl _ rfl _ rfl _ rfl _ rfl _ rfl _ rfl _ rfl _ rfl _ rfl
            simp only [Act.put, List.setIfInBounds_toArray, List.set_cons_zero, List.set_cons_succ, REnd]
            try simp only [Exit.then]
            have hb9 := hbn.trans (hG.mono hbn.size)
            generalize Y ++ _ = Y2 at *
            go_wp2
            go_roundw
            case rel => exact ⟨k + 1, by omega, by go_num, by rw [HS2.out], hb9⟩
            case measure => simp [intOf]; omega
        · obtain rfl : k = l.length := by omega
          rw [List.take_length]
          have hlen : (S1 ++ Pk.recs (pS l)).length ≤ 124 := by rw [List.length_append, HL1.out, recs_pS_len]; omega
          generalize S1 ++ Pk.recs (pS l) = Y at *
          go_wp2_with fail
          refine (rseal_any _ Y hlen).mono ?_
          rintro e w5 ⟨rfl, hb3⟩
          go_wp2
          go_ret
          have c2 := hbw.trans (hb3.mono hbw.size)
          exact ⟨by rw [HE.out]; rfl, b0.trans (c2.mono b0.size)⟩
theorem rencodeS_any (p : Sm.Pt) (vl : Value) (w : World) (hl : Ents w w.heap.size vl p.l) (hg : Sm.Good p) (hm : Sm.mayB p = true) :
    Calls Tryd.prog 14 #[.agg #[.int .i64 p.s, .int .i64 p.n, .bool p.e, vl]] w fun r w' => r = .returned (.string ⟨(Sm.smE p).toArray⟩) ∧ Below w.heap.size w w' := by
  obtain ⟨s, n, e, l⟩ := p
  obtain ⟨p1, p2⟩ := Sm.may_parts hm
  simp only at p1 p2 hl
  obtain ⟨s, rfl⟩ := Int.eq_ofNat_of_zero_le (show 0 ≤ s by omega)
  obtain ⟨n, rfl⟩ := Int.eq_ofNat_of_zero_le (show 0 ≤ n by omega)
  exact rencodeS_nat s n e vl l w hl p2 hg (by omega) (by omega) (by omega)
end Go.Proofs.YtieajlpkiheebaaDoor
