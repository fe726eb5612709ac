/-
  The reference of entries: right, May, At. By an AI agent.
-/
import Derived.Test.YtahkhieoabbaaaaEntG
import Derived.Test.YtahkhieoabbaaaaRegU
namespace Go.Proofs.Ytahkhieoabbaaaa
open Go.RowKit Go.ChangeShapes Go.WideShapes Go.ChangeAt Go.Lib
open Et (E)

set_option maxRecDepth 100000 in
set_option maxHeartbeats 1000000 in
theorem right_any (n : List UInt8) (i t : Int) (w : World) :
    Calls Try.prog 29 #[.agg #[.string ⟨n.toArray⟩, .int .i64 i, .int .i64 t]] w fun e w' => e = .returned (.bool (Et.inB ⟨n, i, t⟩)) ∧ Below w.heap.size w w' := by
  have HI := Lib.hid (show Et.inB ⟨n, i, t⟩ = decide (1 ≤ i ∧ i ≤ 39 ∧ (t = 1 ∨ t = 2)) from rfl)
  have hb : ∀ o, Below w.heap.size w (w.alloc o) := fun o => (Below.refl _ w).alloc (Nat.le_refl _) o
  have HB := Lib.hid hb
  clear hb
  by_cases h1 : 1 ≤ i
  rotate_left
  · skip
    rw [decide_eq_false (by omega)] at HI
    go_enter Try.func29, Try.ntmps29
    go_wp2
    go_ret
    exact ⟨by rw [HI.out]; rfl, HB.out _⟩
  by_cases h2 : i ≤ 39
  rotate_left
  · skip
    rw [decide_eq_false (by omega)] at HI
    go_enter Try.func29, Try.ntmps29
    go_wp2
    go_ret
    exact ⟨by rw [HI.out]; rfl, HB.out _⟩
  by_cases h3 : t = 1
  · rw [decide_eq_true (by omega)] at HI
    have h3' : (t == 1) = true := beq_iff_eq.2 h3
    clear h3
    go_enter Try.func29, Try.ntmps29
    go_wp2
    go_ret
    exact ⟨by rw [HI.out]; rfl, HB.out _⟩
  have h3' : (t == 1) = false := beq_eq_false_iff_ne.2 h3
  by_cases h4 : t = 2
  · rw [decide_eq_true (by omega)] at HI
    have h4' : (t == 2) = true := beq_iff_eq.2 h4
    clear h3 h4
    go_enter Try.func29, Try.ntmps29
    go_wp2
    go_ret
    exact ⟨by rw [HI.out]; rfl, HB.out _⟩
  · rw [decide_eq_false (by omega)] at HI
    have h4' : (t == 2) = false := beq_eq_false_iff_ne.2 h4
    clear h3 h4
    go_enter Try.func29, Try.ntmps29
    go_wp2
    go_ret
    exact ⟨by rw [HI.out]; rfl, HB.out _⟩


set_option maxRecDepth 100000 in
set_option maxHeartbeats 4000000 in
theorem mayR_any (v : Value) (l : List E) (w : World) (hl : Ents w w.heap.size v l) (hs : Short l) :
    Calls Try.prog 21 #[v] w fun e w' => e = .returned (.bool (Et.mayB l)) ∧ Below w.heap.size w w' := by
  obtain ⟨A, c, rfl, hlc, hcm, hE⟩ := hl.open_
  have HE := Lib.hid hE
  have HS := Lib.hid hs
  clear hl hE hs
  have HM := Lib.hid (show Et.mayB l = (decide (l.length ≤ 30) && Et.upTo l l.length) from rfl)
  have HNO := Lib.hid (fun k (hk : k < l.length) h => Et.mayB_no (l := l) hk h)
  go_enter Try.func21, Try.ntmps21
  go_wp2
  go_loopw [3] (fun t wr => ∃ k : Nat, k ≤ l.length ∧ t = .int .i64 k ∧ Hid (Et.upTo l k = true) ∧ Below w.heap.size w wr) (fun t _ => l.length - (intOf t).toNat)
  case atStart => exact ⟨0, Nat.zero_le _, rfl, Lib.hid rfl, Below.refl _ _⟩
  case round =>
    obtain ⟨k, hk, rfl, hall, hbr⟩ := hrel
    by_cases hlt : k < l.length
    · obtain ⟨b, off, rfl, hbB, h0, h1, h2⟩ := (HE.out.below hbr) k hlt
      have hy := HS.out.at_ k hlt
      have hz := HS.out.at_ (k - 1) (by omega)
      have HST := Lib.hid (show Et.stepB l k = (Et.okB (Et.at_ l k) && (k == 0 || Tl.ord (Et.at_ l (k - 1)).n (Et.at_ l k).n == -1)) from rfl)
      have HOK := Lib.hid (show Et.okB (Et.at_ l k) = (Tl.isN (Et.at_ l k).n && Et.inB (Et.at_ l k)) from rfl)
      have HUP := Lib.hid (fun h : Et.stepB l k = true => show Et.upTo l (k + 1) = true by rw [Et.upTo_succ, hall.out, h]; rfl)
      have HN1 := Lib.hid (HNO.out k hlt)
      have HPR := Lib.hid (show ∀ q, k = q + 1 → wr.cell? ⟨b, off + q * 3, none⟩ = some (.string ⟨(Et.at_ l (k - 1)).n.toArray⟩) from fun q hq => by
        obtain ⟨b2, off2, e2, _, c0, _, _⟩ := (HE.out.below hbr) q (by omega)
        injection e2 with e2
        injection e2 with e3 e4
        subst e3 e4
        rw [show k - 1 = q by omega]
        exact c0)
      have hbl : b < wr.heap.size := Nat.lt_of_lt_of_le hbB hbr.size
      generalize Et.at_ l k = y at *
      generalize Et.at_ l (k - 1) = z at *
      generalize Et.stepB l k = st at *
      obtain ⟨yn, yi, yt⟩ := y
      dsimp only at h0 h1 h2 hy HST HOK
      cases hn : Tl.isN yn with
      | false =>
        rw [HOK.out, hn, Bool.false_and, Bool.false_and] at HST
        have H := Lib.hid (HN1.out HST.out)
        go_upto_region 4 with fail
        have hG0 : Below wr.heap.size wr wr.drew := (Below.refl _ _).drew
        refine wp_region_list 34 [(fun y_ _ => y_ = .slice (some ⟨b, off, none⟩) l.length c),
          (fun y_ _ => y_ = .int .i64 ((k : Nat) : Int)),
          (fun y_ _ => y_ = .pointer (some ⟨b, off + k * 3, none⟩)),
          (fun y_ _ => y_ = .pointer (some ⟨b, off + k * 3, none⟩)),
          (fun y_ _ => y_ = .string ⟨yn.toArray⟩),
          (fun y_ _ => y_ = .bool false),
          (fun y_ _ => y_ = .bool true),
          (fun y_ _ => y_ = .bool true),
          (fun y_ _ => y_ = undef),
          (fun y_ _ => y_ = undef),
          (fun y_ _ => y_ = undef),
          (fun y_ _ => y_ = undef),
          (fun y_ _ => y_ = undef),
          (fun y_ _ => y_ = undef),
          (fun y_ _ => y_ = .bool true),
          (fun y_ _ => y_ = .bool true),
          (fun y_ _ => y_ = undef),
          (fun y_ _ => y_ = undef),
          (fun y_ _ => y_ = undef),
          (fun y_ _ => y_ = undef),
          (fun y_ _ => y_ = undef),
          (fun y_ _ => y_ = undef),
          (fun y_ _ => y_ = undef),
          (fun y_ _ => y_ = undef),
          (fun y_ _ => y_ = undef),
          (fun y_ _ => y_ = undef),
          (fun y_ _ => y_ = undef),
          (fun y_ _ => y_ = undef),
          (fun y_ _ => y_ = undef),
          (fun y_ _ => y_ = undef),
          (fun y_ _ => y_ = undef),
          (fun y_ _ => y_ = undef),
          (fun y_ _ => y_ = undef),
          (fun y_ _ => y_ = .bool true)]
          (fun q => Below wr.heap.size wr q) (by kernel_rfl) rfl (by kernel_rfl) ?_ ?_ ?_ ?_
        · exact hG0
        · exact ⟨stab_eq _, stab_eq _, stab_eq _, stab_eq _, stab_eq _, stab_eq _, stab_eq _, stab_eq _, stab_eq _, stab_eq _, stab_eq _, stab_eq _, stab_eq _, stab_eq _, stab_eq _, stab_eq _, stab_eq _, stab_eq _, stab_eq _, stab_eq _, stab_eq _, stab_eq _, stab_eq _, stab_eq _, stab_eq _, stab_eq _, stab_eq _, stab_eq _, stab_eq _, stab_eq _, stab_eq _, stab_eq _, stab_eq _, stab_eq _, trivial⟩
        · refine ⟨?_, ?_, ?_, ?_, ?_, ?_, ?_, ?_, ?_, ?_, ?_, ?_, ?_, ?_, ?_, ?_, ?_, ?_, ?_, ?_, ?_, ?_, ?_, ?_, ?_, ?_, ?_, ?_, ?_, ?_, ?_, ?_, ?_, ?_, trivial⟩
          · intro a x hG hd hs K hK
            have h0 : a.tmps.getD 0 undef = .slice (some ⟨b, off, none⟩) l.length c := hs 0 (by kernel_rfl)
            clear hd hs
            refine wpOp_plain rfl rfl ?_
            go_simp
            exact hK _ _ rfl hG (Below.refl _ _)
          · intro a x hG hd hs K hK
            have h3 : a.tmps.getD 3 undef = .int .i64 ((k : Nat) : Int) := hs 3 (by kernel_rfl)
            clear hd hs
            refine wpOp_plain rfl rfl ?_
            go_simp
            exact hK _ _ rfl hG (Below.refl _ _)
          · intro a x hG hd hs K hK
            have h10 : a.tmps.getD 10 undef = .slice (some ⟨b, off, none⟩) l.length c := hd 0 10 (by kernel_rfl)
            have h11 : a.tmps.getD 11 undef = .int .i64 ((k : Nat) : Int) := hd 1 11 (by kernel_rfl)
            clear hd hs
            refine wpOp_plain rfl rfl ?_
            go_simp
            exact hK _ _ rfl hG (Below.refl _ _)
          · intro a x hG hd hs K hK
            have h12 : a.tmps.getD 12 undef = .pointer (some ⟨b, off + k * 3, none⟩) := hd 2 12 (by kernel_rfl)
            clear hd hs
            refine wpOp_plain rfl rfl ?_
            go_simp
            exact hK _ _ rfl hG (Below.refl _ _)
          · intro a x hG hd hs K hK
            have h13 : a.tmps.getD 13 undef = .pointer (some ⟨b, off + k * 3, none⟩) := hd 3 13 (by kernel_rfl)
            clear hd hs
            refine wpOp_plain rfl rfl ?_
            have hc := (hG.cell (p := ⟨b, off + k * 3, none⟩) hbl).trans h0
            go_simp
            exact hK _ _ rfl hG (Below.refl _ _)
          · intro a x hG hd hs K hK
            have h14 : a.tmps.getD 14 undef = .string ⟨yn.toArray⟩ := hd 4 14 (by kernel_rfl)
            clear hd hs
            refine wpOp_plain rfl rfl ?_
            go_simp
            refine (isR_any yn x hy).mono ?_
            rintro e w' ⟨rfl, hb⟩
            rw [hn]
            exact hK _ _ rfl (hG.trans (hb.mono hG.size)) hb
          · intro a x hG hd hs K hK
            have h15 : a.tmps.getD 15 undef = .bool false := hd 5 15 (by kernel_rfl)
            clear hd hs
            refine wpOp_plain rfl rfl ?_
            go_simp
            exact hK _ _ rfl hG (Below.refl _ _)
          · intro a x hG hd hs K hK
            have h16 : a.tmps.getD 16 undef = .bool true := hd 6 16 (by kernel_rfl)
            clear hd hs
            refine wpOp_plain rfl rfl ?_
            go_simp
            exact hK _ _ rfl hG (Below.refl _ _)
          · intro a x hG hd hs K hK
            have h0 : a.tmps.getD 0 undef = .slice (some ⟨b, off, none⟩) l.length c := hs 0 (by kernel_rfl)
            have h17 : a.tmps.getD 17 undef = .bool true := hd 7 17 (by kernel_rfl)
            clear hd hs
            refine wpOp_no rfl rfl rfl h17 ?_
            exact hK _ _ rfl hG (Below.refl _ _)
          · intro a x hG hd hs K hK
            have h3 : a.tmps.getD 3 undef = .int .i64 ((k : Nat) : Int) := hs 3 (by kernel_rfl)
            have h17 : a.tmps.getD 17 undef = .bool true := hd 7 17 (by kernel_rfl)
            clear hd hs
            refine wpOp_no rfl rfl rfl h17 ?_
            exact hK _ _ rfl hG (Below.refl _ _)
          · intro a x hG hd hs K hK
            have h18 : a.tmps.getD 18 undef = undef := hd 8 18 (by kernel_rfl)
            have h19 : a.tmps.getD 19 undef = undef := hd 9 19 (by kernel_rfl)
            have h17 : a.tmps.getD 17 undef = .bool true := hd 7 17 (by kernel_rfl)
            clear hd hs
            refine wpOp_no rfl rfl rfl h17 ?_
            exact hK _ _ rfl hG (Below.refl _ _)
          · intro a x hG hd hs K hK
            have h20 : a.tmps.getD 20 undef = undef := hd 10 20 (by kernel_rfl)
            have h17 : a.tmps.getD 17 undef = .bool true := hd 7 17 (by kernel_rfl)
            clear hd hs
            refine wpOp_no rfl rfl rfl h17 ?_
            exact hK _ _ rfl hG (Below.refl _ _)
          · intro a x hG hd hs K hK
            have h21 : a.tmps.getD 21 undef = undef := hd 11 21 (by kernel_rfl)
            have h17 : a.tmps.getD 17 undef = .bool true := hd 7 17 (by kernel_rfl)
            clear hd hs
            refine wpOp_no rfl rfl rfl h17 ?_
            exact hK _ _ rfl hG (Below.refl _ _)
          · intro a x hG hd hs K hK
            have h22 : a.tmps.getD 22 undef = undef := hd 12 22 (by kernel_rfl)
            have h17 : a.tmps.getD 17 undef = .bool true := hd 7 17 (by kernel_rfl)
            clear hd hs
            refine wpOp_no rfl rfl rfl h17 ?_
            exact hK _ _ rfl hG (Below.refl _ _)
          · intro a x hG hd hs K hK
            have h17 : a.tmps.getD 17 undef = .bool true := hd 7 17 (by kernel_rfl)
            have h23 : a.tmps.getD 23 undef = undef := hd 13 23 (by kernel_rfl)
            clear hd hs
            refine wpOp_plain rfl rfl ?_
            go_simp
            exact hK _ _ rfl hG (Below.refl _ _)
          · intro a x hG hd hs K hK
            have h24 : a.tmps.getD 24 undef = .bool true := hd 14 24 (by kernel_rfl)
            clear hd hs
            refine wpOp_plain rfl rfl ?_
            go_simp
            exact hK _ _ rfl hG (Below.refl _ _)
          · intro a x hG hd hs K hK
            have h3 : a.tmps.getD 3 undef = .int .i64 ((k : Nat) : Int) := hs 3 (by kernel_rfl)
            have h25 : a.tmps.getD 25 undef = .bool true := hd 15 25 (by kernel_rfl)
            clear hd hs
            refine wpOp_no rfl rfl rfl h25 ?_
            exact hK _ _ rfl hG (Below.refl _ _)
          · intro a x hG hd hs K hK
            have h26 : a.tmps.getD 26 undef = undef := hd 16 26 (by kernel_rfl)
            have h25 : a.tmps.getD 25 undef = .bool true := hd 15 25 (by kernel_rfl)
            clear hd hs
            refine wpOp_no rfl rfl rfl h25 ?_
            exact hK _ _ rfl hG (Below.refl _ _)
          · intro a x hG hd hs K hK
            have h27 : a.tmps.getD 27 undef = undef := hd 17 27 (by kernel_rfl)
            have h25 : a.tmps.getD 25 undef = .bool true := hd 15 25 (by kernel_rfl)
            clear hd hs
            refine wpOp_no rfl rfl rfl h25 ?_
            exact hK _ _ rfl hG (Below.refl _ _)
          · intro a x hG hd hs K hK
            have h0 : a.tmps.getD 0 undef = .slice (some ⟨b, off, none⟩) l.length c := hs 0 (by kernel_rfl)
            have h28 : a.tmps.getD 28 undef = undef := hd 18 28 (by kernel_rfl)
            clear hd hs
            refine wpOp_undef rfl rfl rfl h28 ?_
            exact hK _ _ rfl hG (Below.refl _ _)
          · intro a x hG hd hs K hK
            have h3 : a.tmps.getD 3 undef = .int .i64 ((k : Nat) : Int) := hs 3 (by kernel_rfl)
            have h28 : a.tmps.getD 28 undef = undef := hd 18 28 (by kernel_rfl)
            clear hd hs
            refine wpOp_undef rfl rfl rfl h28 ?_
            exact hK _ _ rfl hG (Below.refl _ _)
          · intro a x hG hd hs K hK
            have h30 : a.tmps.getD 30 undef = undef := hd 20 30 (by kernel_rfl)
            have h28 : a.tmps.getD 28 undef = undef := hd 18 28 (by kernel_rfl)
            clear hd hs
            refine wpOp_undef rfl rfl rfl h28 ?_
            exact hK _ _ rfl hG (Below.refl _ _)
          · intro a x hG hd hs K hK
            have h29 : a.tmps.getD 29 undef = undef := hd 19 29 (by kernel_rfl)
            have h31 : a.tmps.getD 31 undef = undef := hd 21 31 (by kernel_rfl)
            have h28 : a.tmps.getD 28 undef = undef := hd 18 28 (by kernel_rfl)
            clear hd hs
            refine wpOp_undef rfl rfl rfl h28 ?_
            exact hK _ _ rfl hG (Below.refl _ _)
          · intro a x hG hd hs K hK
            have h32 : a.tmps.getD 32 undef = undef := hd 22 32 (by kernel_rfl)
            have h28 : a.tmps.getD 28 undef = undef := hd 18 28 (by kernel_rfl)
            clear hd hs
            refine wpOp_undef rfl rfl rfl h28 ?_
            exact hK _ _ rfl hG (Below.refl _ _)
          · intro a x hG hd hs K hK
            have h33 : a.tmps.getD 33 undef = undef := hd 23 33 (by kernel_rfl)
            have h28 : a.tmps.getD 28 undef = undef := hd 18 28 (by kernel_rfl)
            clear hd hs
            refine wpOp_undef rfl rfl rfl h28 ?_
            exact hK _ _ rfl hG (Below.refl _ _)
          · intro a x hG hd hs K hK
            have h0 : a.tmps.getD 0 undef = .slice (some ⟨b, off, none⟩) l.length c := hs 0 (by kernel_rfl)
            have h28 : a.tmps.getD 28 undef = undef := hd 18 28 (by kernel_rfl)
            clear hd hs
            refine wpOp_undef rfl rfl rfl h28 ?_
            exact hK _ _ rfl hG (Below.refl _ _)
          · intro a x hG hd hs K hK
            have h3 : a.tmps.getD 3 undef = .int .i64 ((k : Nat) : Int) := hs 3 (by kernel_rfl)
            have h28 : a.tmps.getD 28 undef = undef := hd 18 28 (by kernel_rfl)
            clear hd hs
            refine wpOp_undef rfl rfl rfl h28 ?_
            exact hK _ _ rfl hG (Below.refl _ _)
          · intro a x hG hd hs K hK
            have h35 : a.tmps.getD 35 undef = undef := hd 25 35 (by kernel_rfl)
            have h36 : a.tmps.getD 36 undef = undef := hd 26 36 (by kernel_rfl)
            have h28 : a.tmps.getD 28 undef = undef := hd 18 28 (by kernel_rfl)
            clear hd hs
            refine wpOp_undef rfl rfl rfl h28 ?_
            exact hK _ _ rfl hG (Below.refl _ _)
          · intro a x hG hd hs K hK
            have h37 : a.tmps.getD 37 undef = undef := hd 27 37 (by kernel_rfl)
            have h28 : a.tmps.getD 28 undef = undef := hd 18 28 (by kernel_rfl)
            clear hd hs
            refine wpOp_undef rfl rfl rfl h28 ?_
            exact hK _ _ rfl hG (Below.refl _ _)
          · intro a x hG hd hs K hK
            have h38 : a.tmps.getD 38 undef = undef := hd 28 38 (by kernel_rfl)
            have h28 : a.tmps.getD 28 undef = undef := hd 18 28 (by kernel_rfl)
            clear hd hs
            refine wpOp_undef rfl rfl rfl h28 ?_
            exact hK _ _ rfl hG (Below.refl _ _)
          · intro a x hG hd hs K hK
            have h34 : a.tmps.getD 34 undef = undef := hd 24 34 (by kernel_rfl)
            have h39 : a.tmps.getD 39 undef = undef := hd 29 39 (by kernel_rfl)
            have h28 : a.tmps.getD 28 undef = undef := hd 18 28 (by kernel_rfl)
            clear hd hs
            refine wpOp_undef rfl rfl rfl h28 ?_
            exact hK _ _ rfl hG (Below.refl _ _)
          · intro a x hG hd hs K hK
            have h40 : a.tmps.getD 40 undef = undef := hd 30 40 (by kernel_rfl)
            have h28 : a.tmps.getD 28 undef = undef := hd 18 28 (by kernel_rfl)
            clear hd hs
            refine wpOp_undef rfl rfl rfl h28 ?_
            exact hK _ _ rfl hG (Below.refl _ _)
          · intro a x hG hd hs K hK
            have h28 : a.tmps.getD 28 undef = undef := hd 18 28 (by kernel_rfl)
            have h41 : a.tmps.getD 41 undef = undef := hd 31 41 (by kernel_rfl)
            have h25 : a.tmps.getD 25 undef = .bool true := hd 15 25 (by kernel_rfl)
            clear hd hs
            refine wpOp_no rfl rfl rfl h25 ?_
            exact hK _ _ rfl hG (Below.refl _ _)
          · intro a x hG hd hs K hK
            have h25 : a.tmps.getD 25 undef = .bool true := hd 15 25 (by kernel_rfl)
            have h42 : a.tmps.getD 42 undef = undef := hd 32 42 (by kernel_rfl)
            clear hd hs
            refine wpOp_plain rfl rfl ?_
            go_simp
            exact hK _ _ rfl hG (Below.refl _ _)
        · intro x hG
          rintro _ rfl _ rfl _ rfl _ rfl _ rfl _ rfl _ rfl _ rfl _ rfl _ rfl _ rfl _ rfl _ rfl _ rfl _ rfl _ rfl _ rfl _ rfl _ rfl _ rfl _ rfl _ rfl _ rfl _ rfl _ rfl _ rfl _ rfl _ rfl _ rfl _ rfl _ rfl _ rfl _ rfl _ rfl
          simp only [Act.put, List.setIfInBounds_toArray, List.set_cons_zero, List.set_cons_succ, REnd]
          try simp only [Exit.then]
          have b9 := hbr.trans (hG.mono hbr.size)
          go_wp2
          go_ret
          exact ⟨by rw [H.out]; rfl, b9⟩
      | true =>
        rw [hn, Bool.true_and] at HOK
        cases hi : Et.inB ⟨yn, yi, yt⟩ with
        | false =>
          rw [HOK.out, hi, Bool.false_and] at HST
          have H := Lib.hid (HN1.out HST.out)
          go_upto_region 4 with fail
          have hG0 : Below wr.heap.size wr wr.drew := (Below.refl _ _).drew
          refine wp_region_list 34 [(fun y_ _ => y_ = .slice (some ⟨b, off, none⟩) l.length c),
            (fun y_ _ => y_ = .int .i64 ((k : Nat) : Int)),
            (fun y_ _ => y_ = .pointer (some ⟨b, off + k * 3, none⟩)),
            (fun y_ _ => y_ = .pointer (some ⟨b, off + k * 3, none⟩)),
            (fun y_ _ => y_ = .string ⟨yn.toArray⟩),
            (fun y_ _ => y_ = .bool true),
            (fun y_ _ => y_ = .bool false),
            (fun y_ _ => y_ = .bool false),
            (fun y_ _ => y_ = .slice (some ⟨b, off, none⟩) l.length c),
            (fun y_ _ => y_ = .int .i64 ((k : Nat) : Int)),
            (fun y_ _ => y_ = .pointer (some ⟨b, off + k * 3, none⟩)),
            (fun y_ _ => y_ = .agg #[.string ⟨yn.toArray⟩, .int .i64 yi, .int .i64 yt]),
            (fun y_ _ => y_ = .bool false),
            (fun y_ _ => y_ = .bool true),
            (fun y_ _ => y_ = .bool true),
            (fun y_ _ => y_ = .bool true),
            (fun y_ _ => y_ = undef),
            (fun y_ _ => y_ = undef),
            (fun y_ _ => y_ = undef),
            (fun y_ _ => y_ = undef),
            (fun y_ _ => y_ = undef),
            (fun y_ _ => y_ = undef),
            (fun y_ _ => y_ = undef),
            (fun y_ _ => y_ = undef),
            (fun y_ _ => y_ = undef),
            (fun y_ _ => y_ = undef),
            (fun y_ _ => y_ = undef),
            (fun y_ _ => y_ = undef),
            (fun y_ _ => y_ = undef),
            (fun y_ _ => y_ = undef),
            (fun y_ _ => y_ = undef),
            (fun y_ _ => y_ = undef),
            (fun y_ _ => y_ = undef),
            (fun y_ _ => y_ = .bool true)]
            (fun q => Below wr.heap.size wr q) (by kernel_rfl) rfl (by kernel_rfl) ?_ ?_ ?_ ?_
          · exact hG0
          · exact ⟨stab_eq _, stab_eq _, stab_eq _, stab_eq _, stab_eq _, stab_eq _, stab_eq _, stab_eq _, stab_eq _, stab_eq _, stab_eq _, stab_eq _, stab_eq _, stab_eq _, stab_eq _, stab_eq _, stab_eq _, stab_eq _, stab_eq _, stab_eq _, stab_eq _, stab_eq _, stab_eq _, stab_eq _, stab_eq _, stab_eq _, stab_eq _, stab_eq _, stab_eq _, stab_eq _, stab_eq _, stab_eq _, stab_eq _, stab_eq _, trivial⟩
          · refine ⟨?_, ?_, ?_, ?_, ?_, ?_, ?_, ?_, ?_, ?_, ?_, ?_, ?_, ?_, ?_, ?_, ?_, ?_, ?_, ?_, ?_, ?_, ?_, ?_, ?_, ?_, ?_, ?_, ?_, ?_, ?_, ?_, ?_, ?_, trivial⟩
            · intro a x hG hd hs K hK
              have h0 : a.tmps.getD 0 undef = .slice (some ⟨b, off, none⟩) l.length c := hs 0 (by kernel_rfl)
              clear hd hs
              refine wpOp_plain rfl rfl ?_
              go_simp
              exact hK _ _ rfl hG (Below.refl _ _)
            · intro a x hG hd hs K hK
              have h3 : a.tmps.getD 3 undef = .int .i64 ((k : Nat) : Int) := hs 3 (by kernel_rfl)
              clear hd hs
              refine wpOp_plain rfl rfl ?_
              go_simp
              exact hK _ _ rfl hG (Below.refl _ _)
            · intro a x hG hd hs K hK
              have h10 : a.tmps.getD 10 undef = .slice (some ⟨b, off, none⟩) l.length c := hd 0 10 (by kernel_rfl)
              have h11 : a.tmps.getD 11 undef = .int .i64 ((k : Nat) : Int) := hd 1 11 (by kernel_rfl)
              clear hd hs
              refine wpOp_plain rfl rfl ?_
              go_simp
              exact hK _ _ rfl hG (Below.refl _ _)
            · intro a x hG hd hs K hK
              have h12 : a.tmps.getD 12 undef = .pointer (some ⟨b, off + k * 3, none⟩) := hd 2 12 (by kernel_rfl)
              clear hd hs
              refine wpOp_plain rfl rfl ?_
              go_simp
              exact hK _ _ rfl hG (Below.refl _ _)
            · intro a x hG hd hs K hK
              have h13 : a.tmps.getD 13 undef = .pointer (some ⟨b, off + k * 3, none⟩) := hd 3 13 (by kernel_rfl)
              clear hd hs
              refine wpOp_plain rfl rfl ?_
              have hc := (hG.cell (p := ⟨b, off + k * 3, none⟩) hbl).trans h0
              go_simp
              exact hK _ _ rfl hG (Below.refl _ _)
            · intro a x hG hd hs K hK
              have h14 : a.tmps.getD 14 undef = .string ⟨yn.toArray⟩ := hd 4 14 (by kernel_rfl)
              clear hd hs
              refine wpOp_plain rfl rfl ?_
              go_simp
              refine (isR_any yn x hy).mono ?_
              rintro e w' ⟨rfl, hb⟩
              rw [hn]
              exact hK _ _ rfl (hG.trans (hb.mono hG.size)) hb
            · intro a x hG hd hs K hK
              have h15 : a.tmps.getD 15 undef = .bool true := hd 5 15 (by kernel_rfl)
              clear hd hs
              refine wpOp_plain rfl rfl ?_
              go_simp
              exact hK _ _ rfl hG (Below.refl _ _)
            · intro a x hG hd hs K hK
              have h16 : a.tmps.getD 16 undef = .bool false := hd 6 16 (by kernel_rfl)
              clear hd hs
              refine wpOp_plain rfl rfl ?_
              go_simp
              exact hK _ _ rfl hG (Below.refl _ _)
            · intro a x hG hd hs K hK
              have h0 : a.tmps.getD 0 undef = .slice (some ⟨b, off, none⟩) l.length c := hs 0 (by kernel_rfl)
              have h17 : a.tmps.getD 17 undef = .bool false := hd 7 17 (by kernel_rfl)
              clear hd hs
              refine wpOp_yes rfl rfl rfl h17 ?_
              go_simp
              exact hK _ _ rfl hG (Below.refl _ _)
            · intro a x hG hd hs K hK
              have h3 : a.tmps.getD 3 undef = .int .i64 ((k : Nat) : Int) := hs 3 (by kernel_rfl)
              have h17 : a.tmps.getD 17 undef = .bool false := hd 7 17 (by kernel_rfl)
              clear hd hs
              refine wpOp_yes rfl rfl rfl h17 ?_
              go_simp
              exact hK _ _ rfl hG (Below.refl _ _)
            · intro a x hG hd hs K hK
              have h18 : a.tmps.getD 18 undef = .slice (some ⟨b, off, none⟩) l.length c := hd 8 18 (by kernel_rfl)
              have h19 : a.tmps.getD 19 undef = .int .i64 ((k : Nat) : Int) := hd 9 19 (by kernel_rfl)
              have h17 : a.tmps.getD 17 undef = .bool false := hd 7 17 (by kernel_rfl)
              clear hd hs
              refine wpOp_yes rfl rfl rfl h17 ?_
              go_simp
              exact hK _ _ rfl hG (Below.refl _ _)
            · intro a x hG hd hs K hK
              have h20 : a.tmps.getD 20 undef = .pointer (some ⟨b, off + k * 3, none⟩) := hd 10 20 (by kernel_rfl)
              have h17 : a.tmps.getD 17 undef = .bool false := hd 7 17 (by kernel_rfl)
              clear hd hs
              refine wpOp_yes rfl rfl rfl h17 ?_
              have e0 := (hG.cell (p := ⟨b, off + k * 3, none⟩) hbl).trans h0
              have e1 := (hG.cell (p := ⟨b, off + k * 3 + 1, none⟩) hbl).trans h1
              have e2 := (hG.cell (p := ⟨b, off + k * 3 + 2, none⟩) hbl).trans h2
              go_simp
              exact hK _ _ rfl hG (Below.refl _ _)
            · intro a x hG hd hs K hK
              have h21 : a.tmps.getD 21 undef = .agg #[.string ⟨yn.toArray⟩, .int .i64 yi, .int .i64 yt] := hd 11 21 (by kernel_rfl)
              have h17 : a.tmps.getD 17 undef = .bool false := hd 7 17 (by kernel_rfl)
              clear hd hs
              refine wpOp_yes rfl rfl rfl h17 ?_
              go_simp
              refine (right_any yn yi yt x).mono ?_
              rintro e w' ⟨rfl, hb⟩
              rw [hi]
              exact hK _ _ rfl (hG.trans (hb.mono hG.size)) hb
            · intro a x hG hd hs K hK
              have h22 : a.tmps.getD 22 undef = .bool false := hd 12 22 (by kernel_rfl)
              have h17 : a.tmps.getD 17 undef = .bool false := hd 7 17 (by kernel_rfl)
              clear hd hs
              refine wpOp_yes rfl rfl rfl h17 ?_
              go_simp
              exact hK _ _ rfl hG (Below.refl _ _)
            · intro a x hG hd hs K hK
              have h17 : a.tmps.getD 17 undef = .bool false := hd 7 17 (by kernel_rfl)
              have h23 : a.tmps.getD 23 undef = .bool true := hd 13 23 (by kernel_rfl)
              clear hd hs
              refine wpOp_plain rfl rfl ?_
              go_simp
              exact hK _ _ rfl hG (Below.refl _ _)
            · intro a x hG hd hs K hK
              have h24 : a.tmps.getD 24 undef = .bool true := hd 14 24 (by kernel_rfl)
              clear hd hs
              refine wpOp_plain rfl rfl ?_
              go_simp
              exact hK _ _ rfl hG (Below.refl _ _)
            · intro a x hG hd hs K hK
              have h3 : a.tmps.getD 3 undef = .int .i64 ((k : Nat) : Int) := hs 3 (by kernel_rfl)
              have h25 : a.tmps.getD 25 undef = .bool true := hd 15 25 (by kernel_rfl)
              clear hd hs
              refine wpOp_no rfl rfl rfl h25 ?_
              exact hK _ _ rfl hG (Below.refl _ _)
            · intro a x hG hd hs K hK
              have h26 : a.tmps.getD 26 undef = undef := hd 16 26 (by kernel_rfl)
              have h25 : a.tmps.getD 25 undef = .bool true := hd 15 25 (by kernel_rfl)
              clear hd hs
              refine wpOp_no rfl rfl rfl h25 ?_
              exact hK _ _ rfl hG (Below.refl _ _)
            · intro a x hG hd hs K hK
              have h27 : a.tmps.getD 27 undef = undef := hd 17 27 (by kernel_rfl)
              have h25 : a.tmps.getD 25 undef = .bool true := hd 15 25 (by kernel_rfl)
              clear hd hs
              refine wpOp_no rfl rfl rfl h25 ?_
              exact hK _ _ rfl hG (Below.refl _ _)
            · intro a x hG hd hs K hK
              have h0 : a.tmps.getD 0 undef = .slice (some ⟨b, off, none⟩) l.length c := hs 0 (by kernel_rfl)
              have h28 : a.tmps.getD 28 undef = undef := hd 18 28 (by kernel_rfl)
              clear hd hs
              refine wpOp_undef rfl rfl rfl h28 ?_
              exact hK _ _ rfl hG (Below.refl _ _)
            · intro a x hG hd hs K hK
              have h3 : a.tmps.getD 3 undef = .int .i64 ((k : Nat) : Int) := hs 3 (by kernel_rfl)
              have h28 : a.tmps.getD 28 undef = undef := hd 18 28 (by kernel_rfl)
              clear hd hs
              refine wpOp_undef rfl rfl rfl h28 ?_
              exact hK _ _ rfl hG (Below.refl _ _)
            · intro a x hG hd hs K hK
              have h30 : a.tmps.getD 30 undef = undef := hd 20 30 (by kernel_rfl)
              have h28 : a.tmps.getD 28 undef = undef := hd 18 28 (by kernel_rfl)
              clear hd hs
              refine wpOp_undef rfl rfl rfl h28 ?_
              exact hK _ _ rfl hG (Below.refl _ _)
            · intro a x hG hd hs K hK
              have h29 : a.tmps.getD 29 undef = undef := hd 19 29 (by kernel_rfl)
              have h31 : a.tmps.getD 31 undef = undef := hd 21 31 (by kernel_rfl)
              have h28 : a.tmps.getD 28 undef = undef := hd 18 28 (by kernel_rfl)
              clear hd hs
              refine wpOp_undef rfl rfl rfl h28 ?_
              exact hK _ _ rfl hG (Below.refl _ _)
            · intro a x hG hd hs K hK
              have h32 : a.tmps.getD 32 undef = undef := hd 22 32 (by kernel_rfl)
              have h28 : a.tmps.getD 28 undef = undef := hd 18 28 (by kernel_rfl)
              clear hd hs
              refine wpOp_undef rfl rfl rfl h28 ?_
              exact hK _ _ rfl hG (Below.refl _ _)
            · intro a x hG hd hs K hK
              have h33 : a.tmps.getD 33 undef = undef := hd 23 33 (by kernel_rfl)
              have h28 : a.tmps.getD 28 undef = undef := hd 18 28 (by kernel_rfl)
              clear hd hs
              refine wpOp_undef rfl rfl rfl h28 ?_
              exact hK _ _ rfl hG (Below.refl _ _)
            · intro a x hG hd hs K hK
              have h0 : a.tmps.getD 0 undef = .slice (some ⟨b, off, none⟩) l.length c := hs 0 (by kernel_rfl)
              have h28 : a.tmps.getD 28 undef = undef := hd 18 28 (by kernel_rfl)
              clear hd hs
              refine wpOp_undef rfl rfl rfl h28 ?_
              exact hK _ _ rfl hG (Below.refl _ _)
            · intro a x hG hd hs K hK
              have h3 : a.tmps.getD 3 undef = .int .i64 ((k : Nat) : Int) := hs 3 (by kernel_rfl)
              have h28 : a.tmps.getD 28 undef = undef := hd 18 28 (by kernel_rfl)
              clear hd hs
              refine wpOp_undef rfl rfl rfl h28 ?_
              exact hK _ _ rfl hG (Below.refl _ _)
            · intro a x hG hd hs K hK
              have h35 : a.tmps.getD 35 undef = undef := hd 25 35 (by kernel_rfl)
              have h36 : a.tmps.getD 36 undef = undef := hd 26 36 (by kernel_rfl)
              have h28 : a.tmps.getD 28 undef = undef := hd 18 28 (by kernel_rfl)
              clear hd hs
              refine wpOp_undef rfl rfl rfl h28 ?_
              exact hK _ _ rfl hG (Below.refl _ _)
            · intro a x hG hd hs K hK
              have h37 : a.tmps.getD 37 undef = undef := hd 27 37 (by kernel_rfl)
              have h28 : a.tmps.getD 28 undef = undef := hd 18 28 (by kernel_rfl)
              clear hd hs
              refine wpOp_undef rfl rfl rfl h28 ?_
              exact hK _ _ rfl hG (Below.refl _ _)
            · intro a x hG hd hs K hK
              have h38 : a.tmps.getD 38 undef = undef := hd 28 38 (by kernel_rfl)
              have h28 : a.tmps.getD 28 undef = undef := hd 18 28 (by kernel_rfl)
              clear hd hs
              refine wpOp_undef rfl rfl rfl h28 ?_
              exact hK _ _ rfl hG (Below.refl _ _)
            · intro a x hG hd hs K hK
              have h34 : a.tmps.getD 34 undef = undef := hd 24 34 (by kernel_rfl)
              have h39 : a.tmps.getD 39 undef = undef := hd 29 39 (by kernel_rfl)
              have h28 : a.tmps.getD 28 undef = undef := hd 18 28 (by kernel_rfl)
              clear hd hs
              refine wpOp_undef rfl rfl rfl h28 ?_
              exact hK _ _ rfl hG (Below.refl _ _)
            · intro a x hG hd hs K hK
              have h40 : a.tmps.getD 40 undef = undef := hd 30 40 (by kernel_rfl)
              have h28 : a.tmps.getD 28 undef = undef := hd 18 28 (by kernel_rfl)
              clear hd hs
              refine wpOp_undef rfl rfl rfl h28 ?_
              exact hK _ _ rfl hG (Below.refl _ _)
            · intro a x hG hd hs K hK
              have h28 : a.tmps.getD 28 undef = undef := hd 18 28 (by kernel_rfl)
              have h41 : a.tmps.getD 41 undef = undef := hd 31 41 (by kernel_rfl)
              have h25 : a.tmps.getD 25 undef = .bool true := hd 15 25 (by kernel_rfl)
              clear hd hs
              refine wpOp_no rfl rfl rfl h25 ?_
              exact hK _ _ rfl hG (Below.refl _ _)
            · intro a x hG hd hs K hK
              have h25 : a.tmps.getD 25 undef = .bool true := hd 15 25 (by kernel_rfl)
              have h42 : a.tmps.getD 42 undef = undef := hd 32 42 (by kernel_rfl)
              clear hd hs
              refine wpOp_plain rfl rfl ?_
              go_simp
              exact hK _ _ rfl hG (Below.refl _ _)
          · intro x hG
            rintro _ rfl _ rfl _ rfl _ rfl _ rfl _ rfl _ rfl _ rfl _ rfl _ rfl _ rfl _ rfl _ rfl _ rfl _ rfl _ rfl _ rfl _ rfl _ rfl _ rfl _ rfl _ rfl _ rfl _ rfl _ rfl _ rfl _ rfl _ rfl _ rfl _ rfl _ rfl _ rfl _ rfl _ rfl
            simp only [Act.put, List.setIfInBounds_toArray, List.set_cons_zero, List.set_cons_succ, REnd]
            try simp only [Exit.then]
            have b9 := hbr.trans (hG.mono hbr.size)
            go_wp2
            go_ret
            exact ⟨by rw [H.out]; rfl, b9⟩
        | true =>
          rw [HOK.out, hi, Bool.true_and] at HST
          rcases (show k = 0 ∨ ∃ q, k = q + 1 from by cases k with | zero => exact .inl rfl | succ q => exact .inr ⟨q, rfl⟩) with rfl | ⟨q, rfl⟩
          · have H := Lib.hid (HUP.out (by rw [HST.out]; rfl))
            clear HPR
            rw [Nat.zero_mul, Nat.add_zero] at h0 h1 h2
            go_upto_region 4 with fail
            have hG0 : Below wr.heap.size wr wr.drew := (Below.refl _ _).drew
            refine wp_region_list 34 [(fun y_ _ => y_ = .slice (some ⟨b, off, none⟩) l.length c),
              (fun y_ _ => y_ = .int .i64 ((0 : Nat) : Int)),
              (fun y_ _ => y_ = .pointer (some ⟨b, off, none⟩)),
              (fun y_ _ => y_ = .pointer (some ⟨b, off, none⟩)),
              (fun y_ _ => y_ = .string ⟨yn.toArray⟩),
              (fun y_ _ => y_ = .bool true),
              (fun y_ _ => y_ = .bool false),
              (fun y_ _ => y_ = .bool false),
              (fun y_ _ => y_ = .slice (some ⟨b, off, none⟩) l.length c),
              (fun y_ _ => y_ = .int .i64 ((0 : Nat) : Int)),
              (fun y_ _ => y_ = .pointer (some ⟨b, off, none⟩)),
              (fun y_ _ => y_ = .agg #[.string ⟨yn.toArray⟩, .int .i64 yi, .int .i64 yt]),
              (fun y_ _ => y_ = .bool true),
              (fun y_ _ => y_ = .bool false),
              (fun y_ _ => y_ = .bool false),
              (fun y_ _ => y_ = .bool false),
              (fun y_ _ => y_ = .int .i64 ((0 : Nat) : Int)),
              (fun y_ _ => y_ = .bool false),
              (fun y_ _ => y_ = .bool false),
              (fun y_ _ => y_ = undef),
              (fun y_ _ => y_ = undef),
              (fun y_ _ => y_ = undef),
              (fun y_ _ => y_ = undef),
              (fun y_ _ => y_ = undef),
              (fun y_ _ => y_ = undef),
              (fun y_ _ => y_ = undef),
              (fun y_ _ => y_ = undef),
              (fun y_ _ => y_ = undef),
              (fun y_ _ => y_ = undef),
              (fun y_ _ => y_ = undef),
              (fun y_ _ => y_ = undef),
              (fun y_ _ => y_ = undef),
              (fun y_ _ => y_ = .bool false),
              (fun y_ _ => y_ = .bool false)]
              (fun q => Below wr.heap.size wr q) (by kernel_rfl) rfl (by kernel_rfl) ?_ ?_ ?_ ?_
            · exact hG0
            · exact ⟨stab_eq _, stab_eq _, stab_eq _, stab_eq _, stab_eq _, stab_eq _, stab_eq _, stab_eq _, stab_eq _, stab_eq _, stab_eq _, stab_eq _, stab_eq _, stab_eq _, stab_eq _, stab_eq _, stab_eq _, stab_eq _, stab_eq _, stab_eq _, stab_eq _, stab_eq _, stab_eq _, stab_eq _, stab_eq _, stab_eq _, stab_eq _, stab_eq _, stab_eq _, stab_eq _, stab_eq _, stab_eq _, stab_eq _, stab_eq _, trivial⟩
            · refine ⟨?_, ?_, ?_, ?_, ?_, ?_, ?_, ?_, ?_, ?_, ?_, ?_, ?_, ?_, ?_, ?_, ?_, ?_, ?_, ?_, ?_, ?_, ?_, ?_, ?_, ?_, ?_, ?_, ?_, ?_, ?_, ?_, ?_, ?_, trivial⟩
              · intro a x hG hd hs K hK
                have h0 : a.tmps.getD 0 undef = .slice (some ⟨b, off, none⟩) l.length c := hs 0 (by kernel_rfl)
                clear hd hs
                refine wpOp_plain rfl rfl ?_
                go_simp
                exact hK _ _ rfl hG (Below.refl _ _)
              · intro a x hG hd hs K hK
                have h3 : a.tmps.getD 3 undef = .int .i64 ((0 : Nat) : Int) := hs 3 (by kernel_rfl)
                clear hd hs
                refine wpOp_plain rfl rfl ?_
                go_simp
                exact hK _ _ rfl hG (Below.refl _ _)
              · intro a x hG hd hs K hK
                have h10 : a.tmps.getD 10 undef = .slice (some ⟨b, off, none⟩) l.length c := hd 0 10 (by kernel_rfl)
                have h11 : a.tmps.getD 11 undef = .int .i64 ((0 : Nat) : Int) := hd 1 11 (by kernel_rfl)
                clear hd hs
                refine wpOp_plain rfl rfl ?_
                go_simp
                exact hK _ _ rfl hG (Below.refl _ _)
              · intro a x hG hd hs K hK
                have h12 : a.tmps.getD 12 undef = .pointer (some ⟨b, off, none⟩) := hd 2 12 (by kernel_rfl)
                clear hd hs
                refine wpOp_plain rfl rfl ?_
                go_simp
                exact hK _ _ rfl hG (Below.refl _ _)
              · intro a x hG hd hs K hK
                have h13 : a.tmps.getD 13 undef = .pointer (some ⟨b, off, none⟩) := hd 3 13 (by kernel_rfl)
                clear hd hs
                refine wpOp_plain rfl rfl ?_
                have hc := (hG.cell (p := ⟨b, off, none⟩) hbl).trans h0
                go_simp
                exact hK _ _ rfl hG (Below.refl _ _)
              · intro a x hG hd hs K hK
                have h14 : a.tmps.getD 14 undef = .string ⟨yn.toArray⟩ := hd 4 14 (by kernel_rfl)
                clear hd hs
                refine wpOp_plain rfl rfl ?_
                go_simp
                refine (isR_any yn x hy).mono ?_
                rintro e w' ⟨rfl, hb⟩
                rw [hn]
                exact hK _ _ rfl (hG.trans (hb.mono hG.size)) hb
              · intro a x hG hd hs K hK
                have h15 : a.tmps.getD 15 undef = .bool true := hd 5 15 (by kernel_rfl)
                clear hd hs
                refine wpOp_plain rfl rfl ?_
                go_simp
                exact hK _ _ rfl hG (Below.refl _ _)
              · intro a x hG hd hs K hK
                have h16 : a.tmps.getD 16 undef = .bool false := hd 6 16 (by kernel_rfl)
                clear hd hs
                refine wpOp_plain rfl rfl ?_
                go_simp
                exact hK _ _ rfl hG (Below.refl _ _)
              · intro a x hG hd hs K hK
                have h0 : a.tmps.getD 0 undef = .slice (some ⟨b, off, none⟩) l.length c := hs 0 (by kernel_rfl)
                have h17 : a.tmps.getD 17 undef = .bool false := hd 7 17 (by kernel_rfl)
                clear hd hs
                refine wpOp_yes rfl rfl rfl h17 ?_
                go_simp
                exact hK _ _ rfl hG (Below.refl _ _)
              · intro a x hG hd hs K hK
                have h3 : a.tmps.getD 3 undef = .int .i64 ((0 : Nat) : Int) := hs 3 (by kernel_rfl)
                have h17 : a.tmps.getD 17 undef = .bool false := hd 7 17 (by kernel_rfl)
                clear hd hs
                refine wpOp_yes rfl rfl rfl h17 ?_
                go_simp
                exact hK _ _ rfl hG (Below.refl _ _)
              · intro a x hG hd hs K hK
                have h18 : a.tmps.getD 18 undef = .slice (some ⟨b, off, none⟩) l.length c := hd 8 18 (by kernel_rfl)
                have h19 : a.tmps.getD 19 undef = .int .i64 ((0 : Nat) : Int) := hd 9 19 (by kernel_rfl)
                have h17 : a.tmps.getD 17 undef = .bool false := hd 7 17 (by kernel_rfl)
                clear hd hs
                refine wpOp_yes rfl rfl rfl h17 ?_
                go_simp
                exact hK _ _ rfl hG (Below.refl _ _)
              · intro a x hG hd hs K hK
                have h20 : a.tmps.getD 20 undef = .pointer (some ⟨b, off, none⟩) := hd 10 20 (by kernel_rfl)
                have h17 : a.tmps.getD 17 undef = .bool false := hd 7 17 (by kernel_rfl)
                clear hd hs
                refine wpOp_yes rfl rfl rfl h17 ?_
                have e0 := (hG.cell (p := ⟨b, off, none⟩) hbl).trans h0
                have e1 := (hG.cell (p := ⟨b, off + 1, none⟩) hbl).trans h1
                have e2 := (hG.cell (p := ⟨b, off + 2, none⟩) hbl).trans h2
                go_simp
                exact hK _ _ rfl hG (Below.refl _ _)
              · intro a x hG hd hs K hK
                have h21 : a.tmps.getD 21 undef = .agg #[.string ⟨yn.toArray⟩, .int .i64 yi, .int .i64 yt] := hd 11 21 (by kernel_rfl)
                have h17 : a.tmps.getD 17 undef = .bool false := hd 7 17 (by kernel_rfl)
                clear hd hs
                refine wpOp_yes rfl rfl rfl h17 ?_
                go_simp
                refine (right_any yn yi yt x).mono ?_
                rintro e w' ⟨rfl, hb⟩
                rw [hi]
                exact hK _ _ rfl (hG.trans (hb.mono hG.size)) hb
              · intro a x hG hd hs K hK
                have h22 : a.tmps.getD 22 undef = .bool true := hd 12 22 (by kernel_rfl)
                have h17 : a.tmps.getD 17 undef = .bool false := hd 7 17 (by kernel_rfl)
                clear hd hs
                refine wpOp_yes rfl rfl rfl h17 ?_
                go_simp
                exact hK _ _ rfl hG (Below.refl _ _)
              · intro a x hG hd hs K hK
                have h17 : a.tmps.getD 17 undef = .bool false := hd 7 17 (by kernel_rfl)
                have h23 : a.tmps.getD 23 undef = .bool false := hd 13 23 (by kernel_rfl)
                clear hd hs
                refine wpOp_plain rfl rfl ?_
                go_simp
                exact hK _ _ rfl hG (Below.refl _ _)
              · intro a x hG hd hs K hK
                have h24 : a.tmps.getD 24 undef = .bool false := hd 14 24 (by kernel_rfl)
                clear hd hs
                refine wpOp_plain rfl rfl ?_
                go_simp
                exact hK _ _ rfl hG (Below.refl _ _)
              · intro a x hG hd hs K hK
                have h3 : a.tmps.getD 3 undef = .int .i64 ((0 : Nat) : Int) := hs 3 (by kernel_rfl)
                have h25 : a.tmps.getD 25 undef = .bool false := hd 15 25 (by kernel_rfl)
                clear hd hs
                refine wpOp_yes rfl rfl rfl h25 ?_
                go_simp
                exact hK _ _ rfl hG (Below.refl _ _)
              · intro a x hG hd hs K hK
                have h26 : a.tmps.getD 26 undef = .int .i64 ((0 : Nat) : Int) := hd 16 26 (by kernel_rfl)
                have h25 : a.tmps.getD 25 undef = .bool false := hd 15 25 (by kernel_rfl)
                clear hd hs
                refine wpOp_yes rfl rfl rfl h25 ?_
                go_simp
                exact hK _ _ rfl hG (Below.refl _ _)
              · intro a x hG hd hs K hK
                have h27 : a.tmps.getD 27 undef = .bool false := hd 17 27 (by kernel_rfl)
                have h25 : a.tmps.getD 25 undef = .bool false := hd 15 25 (by kernel_rfl)
                clear hd hs
                refine wpOp_yes rfl rfl rfl h25 ?_
                go_simp
                exact hK _ _ rfl hG (Below.refl _ _)
              · intro a x hG hd hs K hK
                have h0 : a.tmps.getD 0 undef = .slice (some ⟨b, off, none⟩) l.length c := hs 0 (by kernel_rfl)
                have h28 : a.tmps.getD 28 undef = .bool false := hd 18 28 (by kernel_rfl)
                clear hd hs
                refine wpOp_no rfl rfl rfl h28 ?_
                exact hK _ _ rfl hG (Below.refl _ _)
              · intro a x hG hd hs K hK
                have h3 : a.tmps.getD 3 undef = .int .i64 ((0 : Nat) : Int) := hs 3 (by kernel_rfl)
                have h28 : a.tmps.getD 28 undef = .bool false := hd 18 28 (by kernel_rfl)
                clear hd hs
                refine wpOp_no rfl rfl rfl h28 ?_
                exact hK _ _ rfl hG (Below.refl _ _)
              · intro a x hG hd hs K hK
                have h30 : a.tmps.getD 30 undef = undef := hd 20 30 (by kernel_rfl)
                have h28 : a.tmps.getD 28 undef = .bool false := hd 18 28 (by kernel_rfl)
                clear hd hs
                refine wpOp_no rfl rfl rfl h28 ?_
                exact hK _ _ rfl hG (Below.refl _ _)
              · intro a x hG hd hs K hK
                have h29 : a.tmps.getD 29 undef = undef := hd 19 29 (by kernel_rfl)
                have h31 : a.tmps.getD 31 undef = undef := hd 21 31 (by kernel_rfl)
                have h28 : a.tmps.getD 28 undef = .bool false := hd 18 28 (by kernel_rfl)
                clear hd hs
                refine wpOp_no rfl rfl rfl h28 ?_
                exact hK _ _ rfl hG (Below.refl _ _)
              · intro a x hG hd hs K hK
                have h32 : a.tmps.getD 32 undef = undef := hd 22 32 (by kernel_rfl)
                have h28 : a.tmps.getD 28 undef = .bool false := hd 18 28 (by kernel_rfl)
                clear hd hs
                refine wpOp_no rfl rfl rfl h28 ?_
                exact hK _ _ rfl hG (Below.refl _ _)
              · intro a x hG hd hs K hK
                have h33 : a.tmps.getD 33 undef = undef := hd 23 33 (by kernel_rfl)
                have h28 : a.tmps.getD 28 undef = .bool false := hd 18 28 (by kernel_rfl)
                clear hd hs
                refine wpOp_no rfl rfl rfl h28 ?_
                exact hK _ _ rfl hG (Below.refl _ _)
              · intro a x hG hd hs K hK
                have h0 : a.tmps.getD 0 undef = .slice (some ⟨b, off, none⟩) l.length c := hs 0 (by kernel_rfl)
                have h28 : a.tmps.getD 28 undef = .bool false := hd 18 28 (by kernel_rfl)
                clear hd hs
                refine wpOp_no rfl rfl rfl h28 ?_
                exact hK _ _ rfl hG (Below.refl _ _)
              · intro a x hG hd hs K hK
                have h3 : a.tmps.getD 3 undef = .int .i64 ((0 : Nat) : Int) := hs 3 (by kernel_rfl)
                have h28 : a.tmps.getD 28 undef = .bool false := hd 18 28 (by kernel_rfl)
                clear hd hs
                refine wpOp_no rfl rfl rfl h28 ?_
                exact hK _ _ rfl hG (Below.refl _ _)
              · intro a x hG hd hs K hK
                have h35 : a.tmps.getD 35 undef = undef := hd 25 35 (by kernel_rfl)
                have h36 : a.tmps.getD 36 undef = undef := hd 26 36 (by kernel_rfl)
                have h28 : a.tmps.getD 28 undef = .bool false := hd 18 28 (by kernel_rfl)
                clear hd hs
                refine wpOp_no rfl rfl rfl h28 ?_
                exact hK _ _ rfl hG (Below.refl _ _)
              · intro a x hG hd hs K hK
                have h37 : a.tmps.getD 37 undef = undef := hd 27 37 (by kernel_rfl)
                have h28 : a.tmps.getD 28 undef = .bool false := hd 18 28 (by kernel_rfl)
                clear hd hs
                refine wpOp_no rfl rfl rfl h28 ?_
                exact hK _ _ rfl hG (Below.refl _ _)
              · intro a x hG hd hs K hK
                have h38 : a.tmps.getD 38 undef = undef := hd 28 38 (by kernel_rfl)
                have h28 : a.tmps.getD 28 undef = .bool false := hd 18 28 (by kernel_rfl)
                clear hd hs
                refine wpOp_no rfl rfl rfl h28 ?_
                exact hK _ _ rfl hG (Below.refl _ _)
              · intro a x hG hd hs K hK
                have h34 : a.tmps.getD 34 undef = undef := hd 24 34 (by kernel_rfl)
                have h39 : a.tmps.getD 39 undef = undef := hd 29 39 (by kernel_rfl)
                have h28 : a.tmps.getD 28 undef = .bool false := hd 18 28 (by kernel_rfl)
                clear hd hs
                refine wpOp_no rfl rfl rfl h28 ?_
                exact hK _ _ rfl hG (Below.refl _ _)
              · intro a x hG hd hs K hK
                have h40 : a.tmps.getD 40 undef = undef := hd 30 40 (by kernel_rfl)
                have h28 : a.tmps.getD 28 undef = .bool false := hd 18 28 (by kernel_rfl)
                clear hd hs
                refine wpOp_no rfl rfl rfl h28 ?_
                exact hK _ _ rfl hG (Below.refl _ _)
              · intro a x hG hd hs K hK
                have h28 : a.tmps.getD 28 undef = .bool false := hd 18 28 (by kernel_rfl)
                have h41 : a.tmps.getD 41 undef = undef := hd 31 41 (by kernel_rfl)
                have h25 : a.tmps.getD 25 undef = .bool false := hd 15 25 (by kernel_rfl)
                clear hd hs
                refine wpOp_yes rfl rfl rfl h25 ?_
                go_simp
                exact hK _ _ rfl hG (Below.refl _ _)
              · intro a x hG hd hs K hK
                have h25 : a.tmps.getD 25 undef = .bool false := hd 15 25 (by kernel_rfl)
                have h42 : a.tmps.getD 42 undef = .bool false := hd 32 42 (by kernel_rfl)
                clear hd hs
                refine wpOp_plain rfl rfl ?_
                go_simp
                exact hK _ _ rfl hG (Below.refl _ _)
            · intro x hG
              rintro _ rfl _ rfl _ rfl _ rfl _ rfl _ rfl _ rfl _ rfl _ rfl _ rfl _ rfl _ rfl _ rfl _ rfl _ rfl _ rfl _ rfl _ rfl _ rfl _ rfl _ rfl _ rfl _ rfl _ rfl _ rfl _ rfl _ rfl _ rfl _ rfl _ rfl _ rfl _ rfl _ rfl _ rfl
              simp only [Act.put, List.setIfInBounds_toArray, List.set_cons_zero, List.set_cons_succ, REnd]
              try simp only [Exit.then]
              have b9 := hbr.trans (hG.mono hbr.size)
              go_wp2
              go_roundw
              case rel => exact ⟨0 + 1, by omega, by go_num, H, b9⟩
              case measure => simp [intOf]; omega
          · have hc9 := HPR.out q rfl
            clear HPR
            rw [show ((q + 1 : Nat) == 0) = false from rfl, Bool.false_or] at HST
            obtain ⟨o, ho⟩ : ∃ o, Tl.ord z.n yn = o := ⟨_, rfl⟩
            have HO := Lib.hid ho
            rw [ho] at HST
            clear ho
            obtain ⟨bb, hbb⟩ : ∃ bb, (o != -1) = bb := ⟨_, rfl⟩
            have HBB := Lib.hid hbb
            clear hbb
            go_upto_region 4 with fail
            have hG0 : Below wr.heap.size wr wr.drew := (Below.refl _ _).drew
            refine wp_region_list 34 [(fun y_ _ => y_ = .slice (some ⟨b, off, none⟩) l.length c),
              (fun y_ _ => y_ = .int .i64 ((q + 1 : Nat) : Int)),
              (fun y_ _ => y_ = .pointer (some ⟨b, off + (q + 1) * 3, none⟩)),
              (fun y_ _ => y_ = .pointer (some ⟨b, off + (q + 1) * 3, none⟩)),
              (fun y_ _ => y_ = .string ⟨yn.toArray⟩),
              (fun y_ _ => y_ = .bool true),
              (fun y_ _ => y_ = .bool false),
              (fun y_ _ => y_ = .bool false),
              (fun y_ _ => y_ = .slice (some ⟨b, off, none⟩) l.length c),
              (fun y_ _ => y_ = .int .i64 ((q + 1 : Nat) : Int)),
              (fun y_ _ => y_ = .pointer (some ⟨b, off + (q + 1) * 3, none⟩)),
              (fun y_ _ => y_ = .agg #[.string ⟨yn.toArray⟩, .int .i64 yi, .int .i64 yt]),
              (fun y_ _ => y_ = .bool true),
              (fun y_ _ => y_ = .bool false),
              (fun y_ _ => y_ = .bool false),
              (fun y_ _ => y_ = .bool false),
              (fun y_ _ => y_ = .int .i64 ((q + 1 : Nat) : Int)),
              (fun y_ _ => y_ = .bool true),
              (fun y_ _ => y_ = .bool true),
              (fun y_ _ => y_ = .slice (some ⟨b, off, none⟩) l.length c),
              (fun y_ _ => y_ = .int .i64 ((q + 1 : Nat) : Int)),
              (fun y_ _ => y_ = .int .i64 (q : Int)),
              (fun y_ _ => y_ = .pointer (some ⟨b, off + q * 3, none⟩)),
              (fun y_ _ => y_ = .pointer (some ⟨b, off + q * 3, none⟩)),
              (fun y_ _ => y_ = .string ⟨z.n.toArray⟩),
              (fun y_ _ => y_ = .slice (some ⟨b, off, none⟩) l.length c),
              (fun y_ _ => y_ = .int .i64 ((q + 1 : Nat) : Int)),
              (fun y_ _ => y_ = .pointer (some ⟨b, off + (q + 1) * 3, none⟩)),
              (fun y_ _ => y_ = .pointer (some ⟨b, off + (q + 1) * 3, none⟩)),
              (fun y_ _ => y_ = .string ⟨yn.toArray⟩),
              (fun y_ _ => y_ = .int .i64 o),
              (fun y_ _ => y_ = .bool bb),
              (fun y_ _ => y_ = .bool bb),
              (fun y_ _ => y_ = .bool bb)]
              (fun q => Below wr.heap.size wr q) (by kernel_rfl) rfl (by kernel_rfl) ?_ ?_ ?_ ?_
            · exact hG0
            · exact ⟨stab_eq _, stab_eq _, stab_eq _, stab_eq _, stab_eq _, stab_eq _, stab_eq _, stab_eq _, stab_eq _, stab_eq _, stab_eq _, stab_eq _, stab_eq _, stab_eq _, stab_eq _, stab_eq _, stab_eq _, stab_eq _, stab_eq _, stab_eq _, stab_eq _, stab_eq _, stab_eq _, stab_eq _, stab_eq _, stab_eq _, stab_eq _, stab_eq _, stab_eq _, stab_eq _, stab_eq _, stab_eq _, stab_eq _, stab_eq _, trivial⟩
            · refine ⟨?_, ?_, ?_, ?_, ?_, ?_, ?_, ?_, ?_, ?_, ?_, ?_, ?_, ?_, ?_, ?_, ?_, ?_, ?_, ?_, ?_, ?_, ?_, ?_, ?_, ?_, ?_, ?_, ?_, ?_, ?_, ?_, ?_, ?_, trivial⟩
              · intro a x hG hd hs K hK
                have h0 : a.tmps.getD 0 undef = .slice (some ⟨b, off, none⟩) l.length c := hs 0 (by kernel_rfl)
                clear hd hs
                refine wpOp_plain rfl rfl ?_
                go_simp
                exact hK _ _ rfl hG (Below.refl _ _)
              · intro a x hG hd hs K hK
                have h3 : a.tmps.getD 3 undef = .int .i64 ((q + 1 : Nat) : Int) := hs 3 (by kernel_rfl)
                clear hd hs
                refine wpOp_plain rfl rfl ?_
                go_simp
                exact hK _ _ rfl hG (Below.refl _ _)
              · intro a x hG hd hs K hK
                have h10 : a.tmps.getD 10 undef = .slice (some ⟨b, off, none⟩) l.length c := hd 0 10 (by kernel_rfl)
                have h11 : a.tmps.getD 11 undef = .int .i64 ((q + 1 : Nat) : Int) := hd 1 11 (by kernel_rfl)
                clear hd hs
                refine wpOp_plain rfl rfl ?_
                go_simp
                exact hK _ _ rfl hG (Below.refl _ _)
              · intro a x hG hd hs K hK
                have h12 : a.tmps.getD 12 undef = .pointer (some ⟨b, off + (q + 1) * 3, none⟩) := hd 2 12 (by kernel_rfl)
                clear hd hs
                refine wpOp_plain rfl rfl ?_
                go_simp
                exact hK _ _ rfl hG (Below.refl _ _)
              · intro a x hG hd hs K hK
                have h13 : a.tmps.getD 13 undef = .pointer (some ⟨b, off + (q + 1) * 3, none⟩) := hd 3 13 (by kernel_rfl)
                clear hd hs
                refine wpOp_plain rfl rfl ?_
                have hc := (hG.cell (p := ⟨b, off + (q + 1) * 3, none⟩) hbl).trans h0
                go_simp
                exact hK _ _ rfl hG (Below.refl _ _)
              · intro a x hG hd hs K hK
                have h14 : a.tmps.getD 14 undef = .string ⟨yn.toArray⟩ := hd 4 14 (by kernel_rfl)
                clear hd hs
                refine wpOp_plain rfl rfl ?_
                go_simp
                refine (isR_any yn x hy).mono ?_
                rintro e w' ⟨rfl, hb⟩
                rw [hn]
                exact hK _ _ rfl (hG.trans (hb.mono hG.size)) hb
              · intro a x hG hd hs K hK
                have h15 : a.tmps.getD 15 undef = .bool true := hd 5 15 (by kernel_rfl)
                clear hd hs
                refine wpOp_plain rfl rfl ?_
                go_simp
                exact hK _ _ rfl hG (Below.refl _ _)
              · intro a x hG hd hs K hK
                have h16 : a.tmps.getD 16 undef = .bool false := hd 6 16 (by kernel_rfl)
                clear hd hs
                refine wpOp_plain rfl rfl ?_
                go_simp
                exact hK _ _ rfl hG (Below.refl _ _)
              · intro a x hG hd hs K hK
                have h0 : a.tmps.getD 0 undef = .slice (some ⟨b, off, none⟩) l.length c := hs 0 (by kernel_rfl)
                have h17 : a.tmps.getD 17 undef = .bool false := hd 7 17 (by kernel_rfl)
                clear hd hs
                refine wpOp_yes rfl rfl rfl h17 ?_
                go_simp
                exact hK _ _ rfl hG (Below.refl _ _)
              · intro a x hG hd hs K hK
                have h3 : a.tmps.getD 3 undef = .int .i64 ((q + 1 : Nat) : Int) := hs 3 (by kernel_rfl)
                have h17 : a.tmps.getD 17 undef = .bool false := hd 7 17 (by kernel_rfl)
                clear hd hs
                refine wpOp_yes rfl rfl rfl h17 ?_
                go_simp
                exact hK _ _ rfl hG (Below.refl _ _)
              · intro a x hG hd hs K hK
                have h18 : a.tmps.getD 18 undef = .slice (some ⟨b, off, none⟩) l.length c := hd 8 18 (by kernel_rfl)
                have h19 : a.tmps.getD 19 undef = .int .i64 ((q + 1 : Nat) : Int) := hd 9 19 (by kernel_rfl)
                have h17 : a.tmps.getD 17 undef = .bool false := hd 7 17 (by kernel_rfl)
                clear hd hs
                refine wpOp_yes rfl rfl rfl h17 ?_
                go_simp
                exact hK _ _ rfl hG (Below.refl _ _)
              · intro a x hG hd hs K hK
                have h20 : a.tmps.getD 20 undef = .pointer (some ⟨b, off + (q + 1) * 3, none⟩) := hd 10 20 (by kernel_rfl)
                have h17 : a.tmps.getD 17 undef = .bool false := hd 7 17 (by kernel_rfl)
                clear hd hs
                refine wpOp_yes rfl rfl rfl h17 ?_
                have e0 := (hG.cell (p := ⟨b, off + (q + 1) * 3, none⟩) hbl).trans h0
                have e1 := (hG.cell (p := ⟨b, off + (q + 1) * 3 + 1, none⟩) hbl).trans h1
                have e2 := (hG.cell (p := ⟨b, off + (q + 1) * 3 + 2, none⟩) hbl).trans h2
                go_simp
                exact hK _ _ rfl hG (Below.refl _ _)
              · intro a x hG hd hs K hK
                have h21 : a.tmps.getD 21 undef = .agg #[.string ⟨yn.toArray⟩, .int .i64 yi, .int .i64 yt] := hd 11 21 (by kernel_rfl)
                have h17 : a.tmps.getD 17 undef = .bool false := hd 7 17 (by kernel_rfl)
                clear hd hs
                refine wpOp_yes rfl rfl rfl h17 ?_
                go_simp
                refine (right_any yn yi yt x).mono ?_
                rintro e w' ⟨rfl, hb⟩
                rw [hi]
                exact hK _ _ rfl (hG.trans (hb.mono hG.size)) hb
              · intro a x hG hd hs K hK
                have h22 : a.tmps.getD 22 undef = .bool true := hd 12 22 (by kernel_rfl)
                have h17 : a.tmps.getD 17 undef = .bool false := hd 7 17 (by kernel_rfl)
                clear hd hs
                refine wpOp_yes rfl rfl rfl h17 ?_
                go_simp
                exact hK _ _ rfl hG (Below.refl _ _)
              · intro a x hG hd hs K hK
                have h17 : a.tmps.getD 17 undef = .bool false := hd 7 17 (by kernel_rfl)
                have h23 : a.tmps.getD 23 undef = .bool false := hd 13 23 (by kernel_rfl)
                clear hd hs
                refine wpOp_plain rfl rfl ?_
                go_simp
                exact hK _ _ rfl hG (Below.refl _ _)
              · intro a x hG hd hs K hK
                have h24 : a.tmps.getD 24 undef = .bool false := hd 14 24 (by kernel_rfl)
                clear hd hs
                refine wpOp_plain rfl rfl ?_
                go_simp
                exact hK _ _ rfl hG (Below.refl _ _)
              · intro a x hG hd hs K hK
                have h3 : a.tmps.getD 3 undef = .int .i64 ((q + 1 : Nat) : Int) := hs 3 (by kernel_rfl)
                have h25 : a.tmps.getD 25 undef = .bool false := hd 15 25 (by kernel_rfl)
                clear hd hs
                refine wpOp_yes rfl rfl rfl h25 ?_
                go_simp
                exact hK _ _ rfl hG (Below.refl _ _)
              · intro a x hG hd hs K hK
                have h26 : a.tmps.getD 26 undef = .int .i64 ((q + 1 : Nat) : Int) := hd 16 26 (by kernel_rfl)
                have h25 : a.tmps.getD 25 undef = .bool false := hd 15 25 (by kernel_rfl)
                clear hd hs
                refine wpOp_yes rfl rfl rfl h25 ?_
                have hq9 : (0 : Int) < ((q + 1 : Nat) : Int) := by omega
                go_simp
                exact hK _ _ rfl hG (Below.refl _ _)
              · intro a x hG hd hs K hK
                have h27 : a.tmps.getD 27 undef = .bool true := hd 17 27 (by kernel_rfl)
                have h25 : a.tmps.getD 25 undef = .bool false := hd 15 25 (by kernel_rfl)
                clear hd hs
                refine wpOp_yes rfl rfl rfl h25 ?_
                go_simp
                exact hK _ _ rfl hG (Below.refl _ _)
              · intro a x hG hd hs K hK
                have h0 : a.tmps.getD 0 undef = .slice (some ⟨b, off, none⟩) l.length c := hs 0 (by kernel_rfl)
                have h28 : a.tmps.getD 28 undef = .bool true := hd 18 28 (by kernel_rfl)
                clear hd hs
                refine wpOp_yes rfl rfl rfl h28 ?_
                go_simp
                exact hK _ _ rfl hG (Below.refl _ _)
              · intro a x hG hd hs K hK
                have h3 : a.tmps.getD 3 undef = .int .i64 ((q + 1 : Nat) : Int) := hs 3 (by kernel_rfl)
                have h28 : a.tmps.getD 28 undef = .bool true := hd 18 28 (by kernel_rfl)
                clear hd hs
                refine wpOp_yes rfl rfl rfl h28 ?_
                go_simp
                exact hK _ _ rfl hG (Below.refl _ _)
              · intro a x hG hd hs K hK
                have h30 : a.tmps.getD 30 undef = .int .i64 ((q + 1 : Nat) : Int) := hd 20 30 (by kernel_rfl)
                have h28 : a.tmps.getD 28 undef = .bool true := hd 18 28 (by kernel_rfl)
                clear hd hs
                refine wpOp_yes rfl rfl rfl h28 ?_
                have hwr : IntKind.i64.wrap (q : Int) = (q : Int) := IntWalk.i64_in _ (by omega)
                go_simp
                exact hK _ _ rfl hG (Below.refl _ _)
              · intro a x hG hd hs K hK
                have h29 : a.tmps.getD 29 undef = .slice (some ⟨b, off, none⟩) l.length c := hd 19 29 (by kernel_rfl)
                have h31 : a.tmps.getD 31 undef = .int .i64 (q : Int) := hd 21 31 (by kernel_rfl)
                have h28 : a.tmps.getD 28 undef = .bool true := hd 18 28 (by kernel_rfl)
                clear hd hs
                refine wpOp_yes rfl rfl rfl h28 ?_
                have hq9 : q < l.length := by omega
                go_simp
                exact hK _ _ rfl hG (Below.refl _ _)
              · intro a x hG hd hs K hK
                have h32 : a.tmps.getD 32 undef = .pointer (some ⟨b, off + q * 3, none⟩) := hd 22 32 (by kernel_rfl)
                have h28 : a.tmps.getD 28 undef = .bool true := hd 18 28 (by kernel_rfl)
                clear hd hs
                refine wpOp_yes rfl rfl rfl h28 ?_
                go_simp
                exact hK _ _ rfl hG (Below.refl _ _)
              · intro a x hG hd hs K hK
                have h33 : a.tmps.getD 33 undef = .pointer (some ⟨b, off + q * 3, none⟩) := hd 23 33 (by kernel_rfl)
                have h28 : a.tmps.getD 28 undef = .bool true := hd 18 28 (by kernel_rfl)
                clear hd hs
                refine wpOp_yes rfl rfl rfl h28 ?_
                have hc := (hG.cell (p := ⟨b, off + q * 3, none⟩) hbl).trans hc9
                go_simp
                exact hK _ _ rfl hG (Below.refl _ _)
              · intro a x hG hd hs K hK
                have h0 : a.tmps.getD 0 undef = .slice (some ⟨b, off, none⟩) l.length c := hs 0 (by kernel_rfl)
                have h28 : a.tmps.getD 28 undef = .bool true := hd 18 28 (by kernel_rfl)
                clear hd hs
                refine wpOp_yes rfl rfl rfl h28 ?_
                go_simp
                exact hK _ _ rfl hG (Below.refl _ _)
              · intro a x hG hd hs K hK
                have h3 : a.tmps.getD 3 undef = .int .i64 ((q + 1 : Nat) : Int) := hs 3 (by kernel_rfl)
                have h28 : a.tmps.getD 28 undef = .bool true := hd 18 28 (by kernel_rfl)
                clear hd hs
                refine wpOp_yes rfl rfl rfl h28 ?_
                go_simp
                exact hK _ _ rfl hG (Below.refl _ _)
              · intro a x hG hd hs K hK
                have h35 : a.tmps.getD 35 undef = .slice (some ⟨b, off, none⟩) l.length c := hd 25 35 (by kernel_rfl)
                have h36 : a.tmps.getD 36 undef = .int .i64 ((q + 1 : Nat) : Int) := hd 26 36 (by kernel_rfl)
                have h28 : a.tmps.getD 28 undef = .bool true := hd 18 28 (by kernel_rfl)
                clear hd hs
                refine wpOp_yes rfl rfl rfl h28 ?_
                go_simp
                exact hK _ _ rfl hG (Below.refl _ _)
              · intro a x hG hd hs K hK
                have h37 : a.tmps.getD 37 undef = .pointer (some ⟨b, off + (q + 1) * 3, none⟩) := hd 27 37 (by kernel_rfl)
                have h28 : a.tmps.getD 28 undef = .bool true := hd 18 28 (by kernel_rfl)
                clear hd hs
                refine wpOp_yes rfl rfl rfl h28 ?_
                go_simp
                exact hK _ _ rfl hG (Below.refl _ _)
              · intro a x hG hd hs K hK
                have h38 : a.tmps.getD 38 undef = .pointer (some ⟨b, off + (q + 1) * 3, none⟩) := hd 28 38 (by kernel_rfl)
                have h28 : a.tmps.getD 28 undef = .bool true := hd 18 28 (by kernel_rfl)
                clear hd hs
                refine wpOp_yes rfl rfl rfl h28 ?_
                have hc := (hG.cell (p := ⟨b, off + (q + 1) * 3, none⟩) hbl).trans h0
                go_simp
                exact hK _ _ rfl hG (Below.refl _ _)
              · intro a x hG hd hs K hK
                have h34 : a.tmps.getD 34 undef = .string ⟨z.n.toArray⟩ := hd 24 34 (by kernel_rfl)
                have h39 : a.tmps.getD 39 undef = .string ⟨yn.toArray⟩ := hd 29 39 (by kernel_rfl)
                have h28 : a.tmps.getD 28 undef = .bool true := hd 18 28 (by kernel_rfl)
                clear hd hs
                refine wpOp_yes rfl rfl rfl h28 ?_
                go_simp
                refine (orderR_any z.n yn x hz hy).mono ?_
                rintro e w' ⟨rfl, hb⟩
                rw [HO.out]
                exact hK _ _ rfl (hG.trans (hb.mono hG.size)) hb
              · intro a x hG hd hs K hK
                have h40 : a.tmps.getD 40 undef = .int .i64 o := hd 30 40 (by kernel_rfl)
                have h28 : a.tmps.getD 28 undef = .bool true := hd 18 28 (by kernel_rfl)
                clear hd hs
                refine wpOp_yes rfl rfl rfl h28 ?_
                have hbb := HBB.out
                go_simp
                exact hK _ _ rfl hG (Below.refl _ _)
              · intro a x hG hd hs K hK
                have h28 : a.tmps.getD 28 undef = .bool true := hd 18 28 (by kernel_rfl)
                have h41 : a.tmps.getD 41 undef = .bool bb := hd 31 41 (by kernel_rfl)
                have h25 : a.tmps.getD 25 undef = .bool false := hd 15 25 (by kernel_rfl)
                clear hd hs
                refine wpOp_yes rfl rfl rfl h25 ?_
                go_simp
                exact hK _ _ rfl hG (Below.refl _ _)
              · intro a x hG hd hs K hK
                have h25 : a.tmps.getD 25 undef = .bool false := hd 15 25 (by kernel_rfl)
                have h42 : a.tmps.getD 42 undef = .bool bb := hd 32 42 (by kernel_rfl)
                clear hd hs
                refine wpOp_plain rfl rfl ?_
                go_simp
                exact hK _ _ rfl hG (Below.refl _ _)
            · intro x hG
              rintro _ rfl _ rfl _ rfl _ rfl _ rfl _ rfl _ rfl _ rfl _ rfl _ rfl _ rfl _ rfl _ rfl _ rfl _ rfl _ rfl _ rfl _ rfl _ rfl _ rfl _ rfl _ rfl _ rfl _ rfl _ rfl _ rfl _ rfl _ rfl _ rfl _ rfl _ rfl _ rfl _ rfl _ rfl
              simp only [Act.put, List.setIfInBounds_toArray, List.set_cons_zero, List.set_cons_succ, REnd]
              try simp only [Exit.then]
              cases bb with
              | true =>
                have hge := HBB.out
                have H := Lib.hid (HN1.out (by rw [HST.out]; simpa using hge))
                clear hge HBB
                have b9 := hbr.trans (hG.mono hbr.size)
                go_wp2
                go_ret
                exact ⟨by rw [H.out]; rfl, b9⟩
              | false =>
                have hge := HBB.out
                have H := Lib.hid (HUP.out (by rw [HST.out]; simpa using hge))
                clear hge HBB
                have b9 := hbr.trans (hG.mono hbr.size)
                go_wp2
                go_roundw
                case rel => exact ⟨q + 1 + 1, by omega, by go_num, H, b9⟩
                case measure => simp [intOf]; omega
    · obtain rfl : k = l.length := by omega
      by_cases h30 : l.length ≤ 30
      · have g1 : (l.length : Int) ≤ 30 := by omega
        have H := Lib.hid (show Et.mayB l = true by rw [HM.out, hall.out, decide_eq_true h30]; rfl)
        go_wp2
        go_ret
        exact ⟨by rw [H.out]; rfl, hbr⟩
      · have g1 : ¬ (l.length : Int) ≤ 30 := by omega
        have H := Lib.hid (show Et.mayB l = false by rw [HM.out, decide_eq_false h30]; rfl)
        go_wp2
        go_ret
        exact ⟨by rw [H.out]; rfl, hbr⟩
end Go.Proofs.Ytahkhieoabbaaaa
