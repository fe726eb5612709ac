/-
  The walks of the document's answers of layer 13, first part: May, Encode. By an AI agent.
-/
import Derived.Test.YtkkbmhlmgbepjaaDoorCkC
namespace Go.Proofs.YtkkbmhlmgbepjaaDoor
open Go.RowKit Go.ChangeShapes Go.WideShapes Go.ChangeAt

theorem all_takeB {α : Type} {f : α → Bool} {ps : List α} {k : Nat} (hlt : k < ps.length) (h : (ps.take k).all f = true) (h2 : f ps[k] = true) : (ps.take (k + 1)).all f = true := by
  rw [List.take_succ_eq_append_getElem hlt, List.all_append, h]
  simp [h2]
theorem all_noB {α : Type} {f : α → Bool} {ps : List α} {k : Nat} (hlt : k < ps.length) (h2 : f ps[k] = false) : ps.all f = false := by
  cases h : ps.all f with
  | false => rfl
  | true =>
    have := List.all_eq_true.1 h ps[k] (List.getElem_mem hlt)
    rw [h2] at this; cases this
set_option maxRecDepth 100000 in
set_option maxHeartbeats 4000000 in
theorem rmayC_any (x : Ck.Ck) (w : World) (hm : x.mp.length = 4) (hu : x.us.length = 8) :
    Calls Tryd.prog 11 #[cagg x] w fun e w' => e = .returned (.bool (Ck.mayB x)) ∧ Below w.heap.size w w' := by
  have HM := Lib.hid (show Ck.mayB x = (Ck.hdB x.s x.n x.a && (x.mp.all Ck.ptB && x.us.all Ck.usB)) from rfl)
  unfold cagg
  go_enter Tryd.func11, Tryd.ntmps11
  go_upto_region 1 with (fail)
  have hk := Blk.new w 28 (ccells x).toArray
  have hb := (Below.refl w.heap.size w).alloc (Nat.le_refl _) (.cells (ccells x).toArray 28)
  change Blk _ _ _ (ccells x) at hk
  generalize w.alloc (.cells (ccells x).toArray 28) = w0 at *
  generalize w.heap.size = gq at hk ⊢
  have HK := Lib.hid hk
  have c0 := hk.cell 0
  have c1 := hk.cell 1
  have c2 := hk.cell 2
  unfold ccells at c0 c1 c2
  simp only [List.getElem?_cons_zero, List.getElem?_cons_succ] at c0 c1 c2
  have HCC := Lib.hid (And.intro c0 (And.intro c1 c2))
  have HU := Lib.hid (And.intro hm hu)
  clear hk hm hu c0 c1 c2
  go_wp2
  go_loop [3] (fun i => ∃ j : Nat, j ≤ 4 ∧ i = .int .i64 j ∧ (x.mp.take j).all Ck.ptB = true) (fun i => 4 - (intOf i).toNat)
  case atStart => exact ⟨0, by omega, rfl, by simp⟩
  case round =>
    obtain ⟨j, hj, rfl, hall⟩ := hrel
    by_cases hlt : j < 4
    · have hjl : j < x.mp.length := by rw [HU.out.1]; exact hlt
      have hx := HK.out.cell (3 + j * 2)
      rw [(ccells_map x j hjl).1] at hx
      have HY := Lib.hid (fun h => all_takeB hjl hall h)
      have HN := Lib.hid (fun h => all_noB (f := Ck.ptB) hjl h)
      clear hall
      have HP := Lib.hid (show Ck.ptB x.mp[j] = decide (1 ≤ x.mp[j].1 ∧ x.mp[j].1 ≤ 2147483647) from rfl)
      generalize x.mp[j] = p at *
      generalize p.1 = pa at *
      by_cases h1 : pa < 1
      · have H := Lib.hid (HN.out (by rw [HP.out]; simp; omega))
        clear HN HY HP
        go_wp2
        go_ret
        exact ⟨by rw [HM.out, H.out, Bool.false_and, Bool.and_false]; rfl, hb⟩
      by_cases h2 : 2147483647 < pa
      · have H := Lib.hid (HN.out (by rw [HP.out]; simp; omega))
        clear HN HY HP
        go_wp2
        go_ret
        exact ⟨by rw [HM.out, H.out, Bool.false_and, Bool.and_false]; rfl, hb⟩
      have H := Lib.hid (HY.out (by rw [HP.out]; simp; omega))
      clear HN HY HP
      go_wp2
      go_round
      case rel => exact ⟨j + 1, by omega, by go_num, H.out⟩
      case measure => simp [intOf]; omega
    · obtain rfl : j = 4 := by omega
      rw [List.take_of_length_le (by rw [HU.out.1]; omega)] at hall
      rw [hall, Bool.true_and] at HM
      clear hall
      rw [show (((4 : Nat) : Int)) = 4 from rfl]
      go_wp2
      go_loop [4] (fun i => ∃ j : Nat, j ≤ 8 ∧ i = .int .i64 j ∧ (x.us.take j).all Ck.usB = true) (fun i => 8 - (intOf i).toNat)
      case atStart => exact ⟨0, by omega, rfl, by simp⟩
      case round =>
        obtain ⟨j, hj, rfl, hall⟩ := hrel
        by_cases hlt : j < 8
        · have hjl : j < x.us.length := by rw [HU.out.2]; exact hlt
          have hx := HK.out.cell (11 + j)
          rw [ccells_used x HU.out.1 j hjl] at hx
          have HY := Lib.hid (fun h => all_takeB hjl hall h)
          have HN := Lib.hid (fun h => all_noB (f := Ck.usB) hjl h)
          clear hall
          have HP := Lib.hid (show Ck.usB x.us[j] = decide (0 ≤ x.us[j] ∧ x.us[j] ≤ 256) from rfl)
          generalize x.us[j] = pa at *
          by_cases h1 : pa < 0
          · have H := Lib.hid (HN.out (by rw [HP.out]; simp; omega))
            clear HN HY HP
            go_wp2
            go_ret
            exact ⟨by rw [HM.out, H.out, Bool.and_false]; rfl, hb⟩
          by_cases h2 : 256 < pa
          · have H := Lib.hid (HN.out (by rw [HP.out]; simp; omega))
            clear HN HY HP
            go_wp2
            go_ret
            exact ⟨by rw [HM.out, H.out, Bool.and_false]; rfl, hb⟩
          have H := Lib.hid (HY.out (by rw [HP.out]; simp; omega))
          clear HN HY HP
          go_wp2
          go_round
          case rel => exact ⟨j + 1, by omega, by go_num, H.out⟩
          case measure => simp [intOf]; omega
        · obtain rfl : j = 8 := by omega
          rw [List.take_of_length_le (by rw [HU.out.2]; omega)] at hall
          rw [hall, Bool.and_true] at HM
          clear hall HK
          rw [show (((8 : Nat) : Int)) = 8 from rfl]
          obtain ⟨c0, c1, c2⟩ := HCC.out
          clear HCC
          obtain ⟨s, n, a, mp, us⟩ := x
          simp only at c0 c1 c2 HM
          have HH := Lib.hid (show Ck.hdB s n a = decide (1 ≤ s ∧ s ≤ 281474976710655 ∧ 1 ≤ n ∧ n ≤ 281474976710655 ∧ 1 ≤ a ∧ a ≤ 2147483647) from rfl)
          by_cases s1 : 1 ≤ s
          rotate_left
          · skip
            rw [HH.out, decide_eq_false (by omega)] at HM
            go_wp2
            go_ret
            exact ⟨by rw [HM.out]; rfl, hb⟩
          by_cases s2 : s ≤ 281474976710655
          rotate_left
          · skip
            rw [HH.out, decide_eq_false (by omega)] at HM
            go_wp2
            go_ret
            exact ⟨by rw [HM.out]; rfl, hb⟩
          by_cases n1 : 1 ≤ n
          rotate_left
          · skip
            rw [HH.out, decide_eq_false (by omega)] at HM
            go_wp2
            go_ret
            exact ⟨by rw [HM.out]; rfl, hb⟩
          by_cases n2 : n ≤ 281474976710655
          rotate_left
          · skip
            rw [HH.out, decide_eq_false (by omega)] at HM
            go_wp2
            go_ret
            exact ⟨by rw [HM.out]; rfl, hb⟩
          by_cases a1 : 1 ≤ a
          rotate_left
          · skip
            rw [HH.out, decide_eq_false (by omega)] at HM
            go_wp2
            go_ret
            exact ⟨by rw [HM.out]; rfl, hb⟩
          by_cases a2 : a ≤ 2147483647
          rotate_left
          · skip
            rw [HH.out, decide_eq_false (by omega)] at HM
            go_wp2
            go_ret
            exact ⟨by rw [HM.out]; rfl, hb⟩
          rw [HH.out, decide_eq_true (by omega)] at HM
          go_wp2
          go_ret
          exact ⟨by rw [HM.out]; rfl, hb⟩

theorem ck_bytes (s n qa : Nat) (mp : List (Int × Nat)) (us : List Int) (h : mp.length = 4) (h' : us.length = 8) : Ck.ckE ⟨s, n, qa, mp, us⟩ = Crc.sealed (((((([99, 107, 112, 116]) ++ Pk.be s 6) ++ Pk.be n 6) ++ Pk.be qa 4) ++ Pk.recs (pN mp)) ++ Pk.recs (uN us)) := by
  unfold Ck.ckE
  rw [ckN_eq _ h h', recs_app, recs_app]
  rw [← List.append_assoc]
  rfl
theorem ackC_len (s n qa : Nat) : (((([99, 107, 112, 116]) ++ Pk.be s 6) ++ Pk.be n 6) ++ Pk.be qa 4).length = 20 := by simp [Pk.length_be]
theorem recs_uN_len : ∀ us : List Int, (Pk.recs (uN us)).length = 2 * us.length
  | [] => rfl
  | u :: us => by
    show (Pk.be u.toNat 2 ++ Pk.recs (uN us)).length = _
    rw [List.length_append, Pk.length_be, recs_uN_len us, List.length_cons]; omega
theorem recs_uN_snoc (us : List Int) (k : Nat) (h : k < us.length) : Pk.recs (uN (us.take (k + 1))) = Pk.recs (uN (us.take k)) ++ Pk.be us[k].toNat 2 := by
  rw [uN_snoc us k h, recs_app]
  congr 1
set_option maxRecDepth 100000 in
set_option maxHeartbeats 4000000 in
theorem rencodeC_nat (s n qa : Nat) (mp : List (Int × Nat)) (us : List Int) (w : World) (hm : mp.length = 4) (hu : us.length = 8) (hp : mp.all Ck.ptB = true) (hq : us.all Ck.usB = true) (hs : ∀ p ∈ mp, p.2 < 4294967296) (h1 : s < 281474976710656) (h2 : n < 281474976710656) (h3 : qa < 4294967296) :
    Calls Tryd.prog 15 #[cagg ⟨s, n, qa, mp, us⟩] w fun e w' => e = .returned (.string ⟨(Ck.ckE ⟨s, n, qa, mp, us⟩).toArray⟩) ∧ Below w.heap.size w w' := by
  have HE := Lib.hid (ck_bytes s n qa mp us hm hu)
  have HL0 := Lib.hid (ackC_len s n qa)
  have HU := Lib.hid (And.intro hm hu)
  have HPB := Lib.hid hp
  have HUB := Lib.hid hq
  have HS := Lib.hid hs
  clear hm hu hp hq hs
  unfold cagg
  go_enter Tryd.func15, Tryd.ntmps15
  go_wp2_with fail
  have hk := Blk.new w 28 (ccells ⟨s, n, qa, mp, us⟩).toArray
  have b0 := (Below.refl w.heap.size w).alloc (Nat.le_refl _) (.cells (ccells ⟨s, n, qa, mp, us⟩).toArray 28)
  change Blk _ _ _ (ccells ⟨s, n, qa, mp, us⟩) at hk
  generalize w.alloc (.cells (ccells ⟨s, n, qa, mp, us⟩).toArray 28) = w0 at *
  generalize w.heap.size = g at hk ⊢
  have hG0 : Below w0.heap.size w0 w0.drew := (Below.refl _ _).drew
  refine wp_region_list 16 [(fun y_ _ => y_ = .pointer (some ⟨g, 0, none⟩)),
    (fun y_ _ => y_ = .int .i64 (s : Int)),
    (fun y_ _ => y_ = .int .u64 (s : Int)),
    (fun y_ _ => y_ = .string ⟨(Pk.be s 6).toArray⟩),
    (fun y_ _ => y_ = .string ⟨(([99, 107, 112, 116]) ++ Pk.be s 6).toArray⟩),
    (fun y_ _ => y_ = .pointer (some ⟨g, 1, none⟩)),
    (fun y_ _ => y_ = .int .i64 (n : Int)),
    (fun y_ _ => y_ = .int .u64 (n : Int)),
    (fun y_ _ => y_ = .string ⟨(Pk.be n 6).toArray⟩),
    (fun y_ _ => y_ = .string ⟨((([99, 107, 112, 116]) ++ Pk.be s 6) ++ Pk.be n 6).toArray⟩),
    (fun y_ _ => y_ = .pointer (some ⟨g, 2, none⟩)),
    (fun y_ _ => y_ = .int .i64 (qa : Int)),
    (fun y_ _ => y_ = .int .u64 (qa : Int)),
    (fun y_ _ => y_ = .string ⟨(Pk.be qa 4).toArray⟩),
    (fun y_ _ => y_ = .string ⟨(((([99, 107, 112, 116]) ++ Pk.be s 6) ++ Pk.be n 6) ++ Pk.be qa 4).toArray⟩),
    (fun y_ _ => y_ = .string ⟨(((([99, 107, 112, 116]) ++ Pk.be s 6) ++ Pk.be n 6) ++ Pk.be qa 4).toArray⟩)]
    (fun x => Below w0.heap.size w0 x) (by kernel_rfl) rfl (by kernel_rfl) ?_ ?_ ?_ ?_
  · exact hG0
  · exact ⟨stab_eq _, stab_eq _, stab_eq _, stab_eq _, stab_eq _, stab_eq _, stab_eq _, stab_eq _, stab_eq _, stab_eq _, stab_eq _, stab_eq _, stab_eq _, stab_eq _, stab_eq _, stab_eq _, trivial⟩
  · refine ⟨?_, ?_, ?_, ?_, ?_, ?_, ?_, ?_, ?_, ?_, ?_, ?_, ?_, ?_, ?_, ?_, trivial⟩
    · intro a x hG hd hs K hK
      have h1 : a.tmps.getD 1 undef = .pointer (some ⟨g, 0, none⟩) := hs 1 (by kernel_rfl)
      clear hd hs
      refine wpOp_plain rfl rfl ?_
      go_simp
      exact hK _ _ rfl hG (Below.refl _ _)
    · intro a x hG hd hs K hK
      have h6 : a.tmps.getD 6 undef = .pointer (some ⟨g, 0, none⟩) := hd 0 6 (by kernel_rfl)
      clear hd hs
      refine wpOp_plain rfl rfl ?_
      have x0 := (hk.ext hG).cell 0
      unfold ccells at x0
      simp only [List.getElem?_cons_zero] at x0
      go_simp
      exact hK _ _ rfl hG (Below.refl _ _)
    · intro a x hG hd hs K hK
      have h7 : a.tmps.getD 7 undef = .int .i64 (s : Int) := hd 1 7 (by kernel_rfl)
      clear hd hs
      refine wpOp_plain rfl rfl ?_
      have hwr : IntKind.u64.wrap (s : Int) = s := IntWalk.u64_in _ (by omega)
      go_simp
      exact hK _ _ rfl hG (Below.refl _ _)
    · intro a x hG hd hs K hK
      have h8 : a.tmps.getD 8 undef = .int .u64 (s : Int) := hd 2 8 (by kernel_rfl)
      clear hd hs
      refine wpOp_plain rfl rfl ?_
      go_simp
      refine (rof_eq s 6 _ _ rfl rfl _ (by omega) (by omega)).mono ?_
      rintro e w' ⟨rfl, hb⟩
      exact hK _ _ rfl (hG.trans (hb.mono hG.size)) hb
    · intro a x hG hd hs K hK
      have h9 : a.tmps.getD 9 undef = .string ⟨(Pk.be s 6).toArray⟩ := hd 3 9 (by kernel_rfl)
      clear hd hs
      refine wpOp_plain rfl rfl ?_
      have hcat := run_cat ([99, 107, 112, 116]) (Pk.be s 6) (by simp [Pk.length_be])
      go_simp
      exact hK _ _ rfl hG (Below.refl _ _)
    · intro a x hG hd hs K hK
      have h1 : a.tmps.getD 1 undef = .pointer (some ⟨g, 0, none⟩) := hs 1 (by kernel_rfl)
      clear hd hs
      refine wpOp_plain rfl rfl ?_
      go_simp
      exact hK _ _ rfl hG (Below.refl _ _)
    · intro a x hG hd hs K hK
      have h11 : a.tmps.getD 11 undef = .pointer (some ⟨g, 1, none⟩) := hd 5 11 (by kernel_rfl)
      clear hd hs
      refine wpOp_plain rfl rfl ?_
      have x0 := (hk.ext hG).cell 1
      unfold ccells at x0
      simp only [List.getElem?_cons_zero, List.getElem?_cons_succ] at x0
      go_simp
      exact hK _ _ rfl hG (Below.refl _ _)
    · intro a x hG hd hs K hK
      have h12 : a.tmps.getD 12 undef = .int .i64 (n : Int) := hd 6 12 (by kernel_rfl)
      clear hd hs
      refine wpOp_plain rfl rfl ?_
      have hwr : IntKind.u64.wrap (n : Int) = n := IntWalk.u64_in _ (by omega)
      go_simp
      exact hK _ _ rfl hG (Below.refl _ _)
    · intro a x hG hd hs K hK
      have h13 : a.tmps.getD 13 undef = .int .u64 (n : Int) := hd 7 13 (by kernel_rfl)
      clear hd hs
      refine wpOp_plain rfl rfl ?_
      go_simp
      refine (rof_eq n 6 _ _ rfl rfl _ (by omega) (by omega)).mono ?_
      rintro e w' ⟨rfl, hb⟩
      exact hK _ _ rfl (hG.trans (hb.mono hG.size)) hb
    · intro a x hG hd hs K hK
      have h10 : a.tmps.getD 10 undef = .string ⟨(([99, 107, 112, 116]) ++ Pk.be s 6).toArray⟩ := hd 4 10 (by kernel_rfl)
      have h14 : a.tmps.getD 14 undef = .string ⟨(Pk.be n 6).toArray⟩ := hd 8 14 (by kernel_rfl)
      clear hd hs
      refine wpOp_plain rfl rfl ?_
      have hcat := run_cat (([99, 107, 112, 116]) ++ Pk.be s 6) (Pk.be n 6) (by simp [Pk.length_be])
      go_simp
      exact hK _ _ rfl hG (Below.refl _ _)
    · intro a x hG hd hs K hK
      have h1 : a.tmps.getD 1 undef = .pointer (some ⟨g, 0, none⟩) := hs 1 (by kernel_rfl)
      clear hd hs
      refine wpOp_plain rfl rfl ?_
      go_simp
      exact hK _ _ rfl hG (Below.refl _ _)
    · intro a x hG hd hs K hK
      have h16 : a.tmps.getD 16 undef = .pointer (some ⟨g, 2, none⟩) := hd 10 16 (by kernel_rfl)
      clear hd hs
      refine wpOp_plain rfl rfl ?_
      have x0 := (hk.ext hG).cell 2
      unfold ccells at x0
      simp only [List.getElem?_cons_zero, List.getElem?_cons_succ] at x0
      go_simp
      exact hK _ _ rfl hG (Below.refl _ _)
    · intro a x hG hd hs K hK
      have h17 : a.tmps.getD 17 undef = .int .i64 (qa : Int) := hd 11 17 (by kernel_rfl)
      clear hd hs
      refine wpOp_plain rfl rfl ?_
      have hwr : IntKind.u64.wrap (qa : Int) = qa := IntWalk.u64_in _ (by omega)
      go_simp
      exact hK _ _ rfl hG (Below.refl _ _)
    · intro a x hG hd hs K hK
      have h18 : a.tmps.getD 18 undef = .int .u64 (qa : Int) := hd 12 18 (by kernel_rfl)
      clear hd hs
      refine wpOp_plain rfl rfl ?_
      go_simp
      refine (rof_eq qa 4 _ _ rfl rfl _ (by omega) (by omega)).mono ?_
      rintro e w' ⟨rfl, hb⟩
      exact hK _ _ rfl (hG.trans (hb.mono hG.size)) hb
    · intro a x hG hd hs K hK
      have h15 : a.tmps.getD 15 undef = .string ⟨((([99, 107, 112, 116]) ++ Pk.be s 6) ++ Pk.be n 6).toArray⟩ := hd 9 15 (by kernel_rfl)
      have h19 : a.tmps.getD 19 undef = .string ⟨(Pk.be qa 4).toArray⟩ := hd 13 19 (by kernel_rfl)
      clear hd hs
      refine wpOp_plain rfl rfl ?_
      have hcat := run_cat ((([99, 107, 112, 116]) ++ Pk.be s 6) ++ Pk.be n 6) (Pk.be qa 4) (by simp [Pk.length_be])
      go_simp
      exact hK _ _ rfl hG (Below.refl _ _)
    · intro a x hG hd hs K hK
      have h20 : a.tmps.getD 20 undef = .string ⟨(((([99, 107, 112, 116]) ++ Pk.be s 6) ++ Pk.be n 6) ++ Pk.be qa 4).toArray⟩ := hd 14 20 (by kernel_rfl)
      clear hd hs
      refine wpOp_plain rfl rfl ?_
      go_simp
      exact hK _ _ rfl hG (Below.refl _ _)
  · intro x hG
    rintro _ rfl _ rfl _ rfl _ rfl _ rfl _ rfl _ rfl _ rfl _ rfl _ rfl _ rfl _ rfl _ rfl _ rfl _ rfl _ rfl
    simp only [Act.put, List.setIfInBounds_toArray, List.set_cons_zero, List.set_cons_succ, REnd]
    try simp only [Exit.then]
    have hbx := hG
    have HKM := Lib.hid (fun (W : World) (b : Below w0.heap.size w0 W) k (h : k < mp.length) => And.intro (((hk.ext b).cell (3 + k * 2)).trans (ccells_map ⟨s, n, qa, mp, us⟩ k h).1) (((hk.ext b).cell (3 + k * 2 + 1)).trans (ccells_map ⟨s, n, qa, mp, us⟩ k h).2))
    have HKU := Lib.hid (fun (W : World) (b : Below w0.heap.size w0 W) k (h : k < us.length) => ((hk.ext b).cell (11 + k)).trans (ccells_used ⟨s, n, qa, mp, us⟩ HU.out.1 k h))
    clear hG hk
    generalize ((([99, 107, 112, 116]) ++ Pk.be s 6) ++ Pk.be n 6) ++ Pk.be qa 4 = S0 at *
    go_wp2
    go_loopw [3, 4] (fun y i wr => ∃ j : Nat, j ≤ 4 ∧ i = .int .i64 j ∧ y = .string ⟨(S0 ++ Pk.recs (pN (mp.take j))).toArray⟩ ∧ Below w0.heap.size w0 wr) (fun _ i _ => 4 - (intOf i).toNat)
    case atStart => exact ⟨0, by omega, rfl, by rw [show Pk.recs (pN (mp.take 0)) = [] from rfl, List.append_nil], hbx⟩
    case round =>
      obtain ⟨j, hj, rfl, rfl, hbw⟩ := hrel
      clear hbx
      by_cases hlt : j < 4
      · have hjl : j < mp.length := by rw [HU.out.1]; exact hlt
        have HX := Lib.hid (fun W b => HKM.out W b j hjl)
        have HSN := Lib.hid (congrArg (S0 ++ ·) (recs_pN_snoc mp j hjl))
        have hb1 := HS.out _ (List.getElem_mem hjl)
        have hb2 := List.all_eq_true.1 HPB.out _ (List.getElem_mem hjl)
        have hlen : (S0 ++ Pk.recs (pN (mp.take j))).length ≤ 100 := by rw [List.length_append, HL0.out, recs_pN_len, List.length_take]; omega
        generalize mp[j] = p at *
        obtain ⟨pa, sm⟩ := p
        simp only at hb1 HX
        unfold Ck.ptB at hb2
        rw [decide_eq_true_iff] at hb2
        simp only at hb2
        obtain ⟨m, rfl⟩ := Int.eq_ofNat_of_zero_le (show 0 ≤ pa by omega)
        have hn2 : m ≤ 2147483647 := by omega
        clear hb2
        have HS2 := Lib.hid (show S0 ++ Pk.recs (pN (mp.take (j + 1))) = (S0 ++ Pk.recs (pN (mp.take j))) ++ (Pk.be m 4 ++ Pk.be sm 4) by rw [List.append_assoc]; exact HSN.out)
        clear HSN
        generalize S0 ++ Pk.recs (pN (mp.take j)) = Y at *
        have HBW := Lib.hid hbw
        go_wp2_with fail
        have hG0 : Below w0.heap.size w0 wr.drew := hbw.drew
        refine wp_region_list 18 [(fun y_ _ => y_ = .string ⟨Y.toArray⟩),
          (fun y_ _ => y_ = .int .i64 (j : Int)),
          (fun y_ _ => y_ = .pointer (some ⟨g, 3, none⟩)),
          (fun y_ _ => y_ = .pointer (some ⟨g, 3 + j * 2, none⟩)),
          (fun y_ _ => y_ = .pointer (some ⟨g, 3 + j * 2, none⟩)),
          (fun y_ _ => y_ = .int .i64 (m : Int)),
          (fun y_ _ => y_ = .int .u64 (m : Int)),
          (fun y_ _ => y_ = .string ⟨(Pk.be m 4).toArray⟩),
          (fun y_ _ => y_ = .int .i64 (j : Int)),
          (fun y_ _ => y_ = .pointer (some ⟨g, 3, none⟩)),
          (fun y_ _ => y_ = .pointer (some ⟨g, 3 + j * 2, none⟩)),
          (fun y_ _ => y_ = .pointer (some ⟨g, 3 + j * 2 + 1, none⟩)),
          (fun y_ _ => y_ = .int .u32 (sm : Int)),
          (fun y_ _ => y_ = .int .u64 (sm : Int)),
          (fun y_ _ => y_ = .string ⟨(Pk.be sm 4).toArray⟩),
          (fun y_ _ => y_ = .string ⟨(Pk.be m 4 ++ Pk.be sm 4).toArray⟩),
          (fun y_ _ => y_ = .string ⟨(Y ++ (Pk.be m 4 ++ Pk.be sm 4)).toArray⟩),
          (fun y_ _ => y_ = .string ⟨(Y ++ (Pk.be m 4 ++ Pk.be sm 4)).toArray⟩)]
          (fun x => Below w0.heap.size w0 x) (by kernel_rfl) rfl (by kernel_rfl) ?_ ?_ ?_ ?_
        · exact hG0
        · exact ⟨stab_eq _, stab_eq _, stab_eq _, stab_eq _, stab_eq _, stab_eq _, stab_eq _, stab_eq _, stab_eq _, stab_eq _, stab_eq _, stab_eq _, stab_eq _, stab_eq _, stab_eq _, stab_eq _, stab_eq _, stab_eq _, trivial⟩
        · refine ⟨?_, ?_, ?_, ?_, ?_, ?_, ?_, ?_, ?_, ?_, ?_, ?_, ?_, ?_, ?_, ?_, ?_, ?_, trivial⟩
          · intro a x hG hd hs K hK
            have h3 : a.tmps.getD 3 undef = .string ⟨Y.toArray⟩ := hs 3 (by kernel_rfl)
            clear hd hs
            refine wpOp_plain rfl rfl ?_
            go_simp
            exact hK _ _ rfl hG (Below.refl _ _)
          · intro a x hG hd hs K hK
            have h4 : a.tmps.getD 4 undef = .int .i64 (j : Int) := hs 4 (by kernel_rfl)
            clear hd hs
            refine wpOp_plain rfl rfl ?_
            go_simp
            exact hK _ _ rfl hG (Below.refl _ _)
          · intro a x hG hd hs K hK
            have h1 : a.tmps.getD 1 undef = .pointer (some ⟨g, 0, none⟩) := hs 1 (by kernel_rfl)
            clear hd hs
            refine wpOp_plain rfl rfl ?_
            go_simp
            exact hK _ _ rfl hG (Below.refl _ _)
          · intro a x hG hd hs K hK
            have h27 : a.tmps.getD 27 undef = .pointer (some ⟨g, 3, none⟩) := hd 2 27 (by kernel_rfl)
            have h26 : a.tmps.getD 26 undef = .int .i64 (j : Int) := hd 1 26 (by kernel_rfl)
            clear hd hs
            refine wpOp_plain rfl rfl ?_
            go_simp
            exact hK _ _ rfl hG (Below.refl _ _)
          · intro a x hG hd hs K hK
            have h28 : a.tmps.getD 28 undef = .pointer (some ⟨g, 3 + j * 2, none⟩) := hd 3 28 (by kernel_rfl)
            clear hd hs
            refine wpOp_plain rfl rfl ?_
            go_simp
            exact hK _ _ rfl hG (Below.refl _ _)
          · intro a x hG hd hs K hK
            have h29 : a.tmps.getD 29 undef = .pointer (some ⟨g, 3 + j * 2, none⟩) := hd 4 29 (by kernel_rfl)
            clear hd hs
            refine wpOp_plain rfl rfl ?_
            have x0 := (HX.out x hG).1
            go_simp
            exact hK _ _ rfl hG (Below.refl _ _)
          · intro a x hG hd hs K hK
            have h30 : a.tmps.getD 30 undef = .int .i64 (m : Int) := hd 5 30 (by kernel_rfl)
            clear hd hs
            refine wpOp_plain rfl rfl ?_
            have hwr : IntKind.u64.wrap (m : Int) = m := IntWalk.u64_in _ (by omega)
            go_simp
            exact hK _ _ rfl hG (Below.refl _ _)
          · intro a x hG hd hs K hK
            have h31 : a.tmps.getD 31 undef = .int .u64 (m : Int) := hd 6 31 (by kernel_rfl)
            clear hd hs
            refine wpOp_plain rfl rfl ?_
            go_simp
            refine (rof_eq m 4 _ _ rfl rfl _ (by omega) (by omega)).mono ?_
            rintro e w' ⟨rfl, hb⟩
            exact hK _ _ rfl (hG.trans (hb.mono hG.size)) hb
          · intro a x hG hd hs K hK
            have h4 : a.tmps.getD 4 undef = .int .i64 (j : Int) := hs 4 (by kernel_rfl)
            clear hd hs
            refine wpOp_plain rfl rfl ?_
            go_simp
            exact hK _ _ rfl hG (Below.refl _ _)
          · intro a x hG hd hs K hK
            have h1 : a.tmps.getD 1 undef = .pointer (some ⟨g, 0, none⟩) := hs 1 (by kernel_rfl)
            clear hd hs
            refine wpOp_plain rfl rfl ?_
            go_simp
            exact hK _ _ rfl hG (Below.refl _ _)
          · intro a x hG hd hs K hK
            have h34 : a.tmps.getD 34 undef = .pointer (some ⟨g, 3, none⟩) := hd 9 34 (by kernel_rfl)
            have h33 : a.tmps.getD 33 undef = .int .i64 (j : Int) := hd 8 33 (by kernel_rfl)
            clear hd hs
            refine wpOp_plain rfl rfl ?_
            go_simp
            exact hK _ _ rfl hG (Below.refl _ _)
          · intro a x hG hd hs K hK
            have h35 : a.tmps.getD 35 undef = .pointer (some ⟨g, 3 + j * 2, none⟩) := hd 10 35 (by kernel_rfl)
            clear hd hs
            refine wpOp_plain rfl rfl ?_
            go_simp
            exact hK _ _ rfl hG (Below.refl _ _)
          · intro a x hG hd hs K hK
            have h36 : a.tmps.getD 36 undef = .pointer (some ⟨g, 3 + j * 2 + 1, none⟩) := hd 11 36 (by kernel_rfl)
            clear hd hs
            refine wpOp_plain rfl rfl ?_
            have x0 := (HX.out x hG).2
            go_simp
            exact hK _ _ rfl hG (Below.refl _ _)
          · intro a x hG hd hs K hK
            have h37 : a.tmps.getD 37 undef = .int .u32 (sm : Int) := hd 12 37 (by kernel_rfl)
            clear hd hs
            refine wpOp_plain rfl rfl ?_
            have hwr : IntKind.u64.wrap (sm : Int) = sm := IntWalk.u64_in _ (by omega)
            go_simp
            exact hK _ _ rfl hG (Below.refl _ _)
          · intro a x hG hd hs K hK
            have h38 : a.tmps.getD 38 undef = .int .u64 (sm : Int) := hd 13 38 (by kernel_rfl)
            clear hd hs
            refine wpOp_plain rfl rfl ?_
            go_simp
            refine (rof_eq sm 4 _ _ rfl rfl _ (by omega) (by omega)).mono ?_
            rintro e w' ⟨rfl, hb⟩
            exact hK _ _ rfl (hG.trans (hb.mono hG.size)) hb
          · intro a x hG hd hs K hK
            have h32 : a.tmps.getD 32 undef = .string ⟨(Pk.be m 4).toArray⟩ := hd 7 32 (by kernel_rfl)
            have h39 : a.tmps.getD 39 undef = .string ⟨(Pk.be sm 4).toArray⟩ := hd 14 39 (by kernel_rfl)
            clear hd hs
            refine wpOp_plain rfl rfl ?_
            have hcat := run_cat (Pk.be m 4) (Pk.be sm 4) (by simp [Pk.length_be])
            go_simp
            exact hK _ _ rfl hG (Below.refl _ _)
          · intro a x hG hd hs K hK
            have h25 : a.tmps.getD 25 undef = .string ⟨Y.toArray⟩ := hd 0 25 (by kernel_rfl)
            have h40 : a.tmps.getD 40 undef = .string ⟨(Pk.be m 4 ++ Pk.be sm 4).toArray⟩ := hd 15 40 (by kernel_rfl)
            clear hd hs
            refine wpOp_plain rfl rfl ?_
            have hno : ¬ 9223372036854775807 < Y.length + ((Pk.be m 4).length + (Pk.be sm 4).length) := by simp only [Pk.length_be]; omega
            go_simp
            rw [ba_append]
            exact hK _ _ rfl hG (Below.refl _ _)
          · intro a x hG hd hs K hK
            have h41 : a.tmps.getD 41 undef = .string ⟨(Y ++ (Pk.be m 4 ++ Pk.be sm 4)).toArray⟩ := hd 16 41 (by kernel_rfl)
            clear hd hs
            refine wpOp_plain rfl rfl ?_
            go_simp
            exact hK _ _ rfl hG (Below.refl _ _)
        · intro x hG
          rintro _ rfl _ rfl _ rfl _ rfl _ rfl _ rfl _ rfl _ rfl _ rfl _ rfl _ rfl _ rfl _ rfl _ rfl _ rfl _ rfl _ rfl _ rfl
          simp only [Act.put, List.setIfInBounds_toArray, List.set_cons_zero, List.set_cons_succ, REnd]
          try simp only [Exit.then]
          go_wp2
          go_roundw
          case rel => exact ⟨j + 1, by omega, by go_num, by rw [HS2.out], hG⟩
          case measure => simp [intOf]; omega
      · obtain rfl : j = 4 := by omega
        rw [List.take_of_length_le (by rw [HU.out.1]; omega)]
        have HL1 := Lib.hid (show (S0 ++ Pk.recs (pN mp)).length = 52 by rw [List.length_append, HL0.out, recs_pN_len, HU.out.1])
        generalize S0 ++ Pk.recs (pN mp) = S1 at *
        obtain ⟨w3, hw3⟩ : ∃ w3, w3 = wr := ⟨_, rfl⟩
        rw [← hw3] at hbw ⊢
        clear hw3
        rw [show (((4 : Nat) : Int)) = 4 from rfl]
        go_wp2
        go_loopw [3, 5] (fun y i wr => ∃ j : Nat, j ≤ 8 ∧ i = .int .i64 j ∧ y = .string ⟨(S1 ++ Pk.recs (uN (us.take j))).toArray⟩ ∧ Below w0.heap.size w0 wr) (fun _ i _ => 8 - (intOf i).toNat)
        case atStart => exact ⟨0, by omega, rfl, by rw [show Pk.recs (uN (us.take 0)) = [] from rfl, List.append_nil], hbw⟩
        case round =>
          obtain ⟨j, hj, rfl, rfl, hbw2⟩ := hrel
          clear hbw
          by_cases hlt : j < 8
          · have hjl : j < us.length := by rw [HU.out.2]; exact hlt
            have hx := HKU.out wr hbw2 j hjl
            have HSN := Lib.hid (congrArg (S1 ++ ·) (recs_uN_snoc us j hjl))
            have hb2 := List.all_eq_true.1 HUB.out _ (List.getElem_mem hjl)
            have hlen : (S1 ++ Pk.recs (uN (us.take j))).length ≤ 100 := by rw [List.length_append, HL1.out, recs_uN_len, List.length_take]; omega
            generalize us[j] = pa at *
            unfold Ck.usB at hb2
            rw [decide_eq_true_iff] at hb2
            obtain ⟨m, rfl⟩ := Int.eq_ofNat_of_zero_le hb2.1
            have hn2 : m ≤ 256 := by omega
            clear hb2
            have HS2 := Lib.hid (show S1 ++ Pk.recs (uN (us.take (j + 1))) = (S1 ++ Pk.recs (uN (us.take j))) ++ Pk.be m 2 by rw [List.append_assoc]; exact HSN.out)
            clear HSN
            generalize S1 ++ Pk.recs (uN (us.take j)) = Y at *
            go_wp2_with fail
            refine (rof_eq m 2 _ _ rfl rfl _ (by omega) (by omega)).mono ?_
            rintro e w5 ⟨rfl, hb3⟩
            have hql : (Pk.be m 2).length = 2 := Pk.length_be m 2
            generalize Pk.be m 2 = Q at *
            have hno : ¬ 9223372036854775807 < Y.length + Q.length := by omega
            clear hql
            go_wp2
            go_roundw
            case rel => exact ⟨j + 1, by omega, by go_num, by rw [HS2.out, ba_append], hbw2.trans (hb3.mono hbw2.size)⟩
            case measure => simp [intOf]; omega
          · obtain rfl : j = 8 := by omega
            rw [List.take_of_length_le (by rw [HU.out.2]; omega)]
            have hlen : (S1 ++ Pk.recs (uN us)).length ≤ 124 := by rw [List.length_append, HL1.out, recs_uN_len, HU.out.2]; omega
            generalize S1 ++ Pk.recs (uN us) = Y at *
            go_wp2_with fail
            refine (rseal_any _ Y hlen).mono ?_
            rintro e w5 ⟨rfl, hb3⟩
            go_wp2
            go_ret
            have c2 := hbw2.trans (hb3.mono hbw2.size)
            exact ⟨by rw [HE.out]; rfl, b0.trans (c2.mono b0.size)⟩
theorem rencodeC_any (x : Ck.Ck) (w : World) (hg : Ck.Good x) (hm : Ck.mayB x = true) :
    Calls Tryd.prog 15 #[cagg x] w fun e w' => e = .returned (.string ⟨(Ck.ckE x).toArray⟩) ∧ Below w.heap.size w w' := by
  obtain ⟨s, n, a, mp, us⟩ := x
  obtain ⟨p1, p2, p3⟩ := Ck.may_parts hm
  simp only at p1 p2 p3
  obtain ⟨s, rfl⟩ := Int.eq_ofNat_of_zero_le (show 0 ≤ s by omega)
  obtain ⟨n, rfl⟩ := Int.eq_ofNat_of_zero_le (show 0 ≤ n by omega)
  obtain ⟨a, rfl⟩ := Int.eq_ofNat_of_zero_le (show 0 ≤ a by omega)
  exact rencodeC_nat s n a mp us w hg.1 hg.2.1 p2 p3 hg.2.2 (by omega) (by omega) (by omega)
end Go.Proofs.YtkkbmhlmgbepjaaDoor
