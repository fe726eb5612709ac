/-
  PackBack: what is packed is taken out as it was, whatever stands behind it; two records of the same widths are the same just if their numbers are. For every input.
-/
import Derived.Test.YtfedklediafnpaaPackL
import Derived.Test.YtfedklediafnpaaPackO
import Derived.Test.YtfedklediafnpaaPlain
import Derived.Deep.DeepCutAuto
namespace Go.Proofs.Ytfedklediafnpaa
open Go.ChangeShapes Go.WideShapes Go.ChangeAt Go.RowKit

theorem infoInt : (Try.prog.info? 3).map (fun i => (i.zero, i.size, i.bytes)) = some (some (.int .i64 0), 1, 8) := by kernel_rfl
theorem infoNum : (Try.prog.info? 39).map (fun i => (i.zero, i.size, i.bytes)) = some (some (.agg #[.int .i64 0, .int .u64 0]), 2, 16) := by kernel_rfl

set_option maxRecDepth 100000 in
set_option maxHeartbeats 4000000 in
theorem packBack_walk (w : World) (v0 v1 v2 : Value) (l : List (Int × Nat)) (o : List Nat) (bh : List UInt8) (h0 : Nums w w.heap.size v0 l) (h1 : Us w w.heap.size v1 o) (h2 : Bs w w.heap.size v2 bh) (hu0 : ∀ x ∈ l, x.2 < 18446744073709551616) (hu1 : ∀ n ∈ o, n < 18446744073709551616) :
    Calls Try.prog 4 #[v0, v1, v2] w fun e w' => e = .returned (.bool true) ∧ Below w.heap.size w w' := by
  obtain ⟨A2, c2, rfl, hc2, hx2, _⟩ := h2.openD
  obtain ⟨A1, c1, rfl, hc1, hx1, hcell1⟩ := h1.openD
  go_enter Try.func4, Try.ntmps4
  have HU1 := Lib.hid hu1
  have HU0 := Lib.hid (fun x hx => hu0 x (List.mem_of_mem_take (i := 60) hx))
  clear hu0 hu1
  go_wp2_with fail
  refine (fewN_any _ _ _ _ h0).mono ?_
  rintro e w' ⟨x0, rfl, b0, rfl⟩
  have hl60 : (l.take 60).length ≤ 60 := by rw [List.length_take]; omega
  generalize l.take 60 = q at *
  obtain ⟨A0, c0, rfl, hc0, hx0, hcell0⟩ := b0.open_
  clear h0
  go_upto_if 24 with fail
  go_cut [2] (fun s wx => w = wx ∧ Bs w w.heap.size s (bh.take 60))
  case first =>
    by_cases h : 60 < bh.length
    · have h' : (60 : Int) < bh.length := by omega
      have hl2 : (60 : Int) ≤ c2 := by omega
      have hl3 : (60 : Nat) ≤ c2 := by omega
      have hh := Lib.hid (h2.head (k := 60) (by omega))
      clear h2
      go_wp2
      go_meet
      exact ⟨rfl, hh.out⟩
    · have h' : ¬ (60 : Int) < bh.length := by omega
      go_wp2
      go_meet
      exact ⟨rfl, by rw [List.take_of_length_le (by omega)]; exact h2⟩
  obtain ⟨rfl, b2⟩ := hcut
  clear h2
  have hb60 : (bh.take 60).length ≤ 60 := by rw [List.length_take]; omega
  generalize bh.take 60 = bb at *
  obtain ⟨A3, c3, rfl, hc3, hx3, _⟩ := b2.openD
  go_wp2_with fail
  refine (pack_any _ _ _ q b0 (Nat.le_refl _) (by omega) HU0.out).mono ?_
  rintro e w1 ⟨x1, rfl, hown1, hb1⟩
  have hs1 : Bs w1 w1.heap.size x1 (Pk.packed q) := Bs.of_own hown1
  clear hown1
  by_cases herr : Pk.perr q = 0
  · have HK := Lib.hid (show Pk.packed q = Pk.recs q by unfold Pk.packed; rw [if_pos herr])
    rw [HK.out] at hs1
    have HC := Lib.hid (Pk.perr_zero herr)
    have hrl := Pk.recs_len_le q HC.out
    rw [herr]
    clear herr
    obtain ⟨A4, c4, rfl, hc4, hx4, _⟩ := hs1.openD
    go_wp2
    go_loopw [9, 10, 11, 12] (fun a9 a10 a11 i wr => ∃ k : Nat, k ≤ q.length ∧ i = .int .i64 k ∧ wr.ownsRow w1.heap.size 3 1 a9 k (((q.map (·.1)).take k).map fun z : Int => .int .i64 z) ∧ wr.ownsRow w1.heap.size 37 1 a10 k (((q.map (·.2)).take k).map fun n : Nat => .int .u64 (n : Int)) ∧
      wr.ownsRow w1.heap.size 39 2 a11 k (((Pk.others q o).take k).flatMap fun x => [.int .i64 x.1, .int .u64 (x.2 : Int)]) ∧ Below w1.heap.size w1 wr) (fun _ _ _ i _ => q.length - (intOf i).toNat)
    case atStart => exact ⟨0, Nat.zero_le _, rfl, World.ownsRow_nil _ _ _ _, World.ownsRow_nil _ _ _ _, World.ownsRow_nil _ _ _ _, Below.refl _ _⟩
    case round =>
      obtain ⟨k, hk, rfl, hown9, hown10, hown11, hbw⟩ := hrel
      by_cases hlt : k < q.length
      · obtain ⟨b, off, rfl, hb, he1, he2⟩ := hcell0 k hlt
        have HW := Lib.hid (show (q.map (·.1)).take (k + 1) = (q.map (·.1)).take k ++ [q[k].1] by rw [List.take_succ_eq_append_getElem (by simpa using hlt), List.getElem_map])
        have HV := Lib.hid (show (q.map (·.2)).take (k + 1) = (q.map (·.2)).take k ++ [q[k].2] by rw [List.take_succ_eq_append_getElem (by simpa using hlt), List.getElem_map])
        have HO := Lib.hid (show ((Pk.others q o).take (k + 1)).flatMap (fun x => [Value.int .i64 x.1, .int .u64 (x.2 : Int)]) = ((Pk.others q o).take k).flatMap (fun x => [Value.int .i64 x.1, .int .u64 (x.2 : Int)]) ++ [.int .i64 q[k].1, .int .u64 ((if k < o.length then o.getD k 0 else q[k].2 : Nat) : Int)] by
          rw [Pk.others_snoc q o k hlt, List.flatMap_append]; rfl)
        generalize hx : q[k] = x at *
        obtain ⟨wd, vv⟩ := x
        simp only at he1 he2 HW HV HO
        clear hx hcell0
        have hbb := hb1.trans (hbw.mono hb1.size)
        have hx1' := (hbb.cell (p := ⟨b, off + k * 2, none⟩) hb).trans he1
        go_wp2_with (at_builtin; refine stop_ ?_)
        refine wpList_append_one rfl _ _ rfl rfl rfl rfl Try.underlying23 infoInt rfl hown9 rfl (by rw [maxLen_eq]; omega) (by omega) hbw.size ?_
        intro v1 w2 hown9' hgr
        have hown10' := own_other hown10 hown9 (by decide) hgr
        have hown11' := own_other hown11 hown9 (by decide) hgr
        have hb2' := hbw.grown hgr hbw.size (fun g hg => (hown9.lt g hg).1)
        clear hgr hown9 hown10 hown11 hbw hbb hx1'
        have hbb := hb1.trans (hb2'.mono hb1.size)
        have hx2' := (hbb.cell (p := ⟨b, off + k * 2 + 1, none⟩) hb).trans he2
        go_wp2_with (at_builtin; refine stop_ ?_)
        refine wpList_append_one rfl _ _ rfl rfl rfl rfl Try.underlying24 infoU64 rfl hown10' rfl (by rw [maxLen_eq]; omega) (by omega) hb2'.size ?_
        intro v2 w3 hown10b hgr
        have hown9b := own_other hown9' hown10' (by decide) hgr
        have hown11b := own_other hown11' hown10' (by decide) hgr
        have hb3' := hb2'.grown hgr hb2'.size (fun g hg => (hown10'.lt g hg).1)
        clear hgr hown9' hown10' hown11' hb2' hbb hx2'
        have hbb := hb1.trans (hb3'.mono hb1.size)
        have hx1' := (hbb.cell (p := ⟨b, off + k * 2, none⟩) hb).trans he1
        have hx2' := (hbb.cell (p := ⟨b, off + k * 2 + 1, none⟩) hb).trans he2
        by_cases hko : k < o.length
        · obtain ⟨b5, o5, rfl, hb5, he5⟩ := hcell1 k hko
          rw [if_pos hko] at HO
          generalize o.getD k 0 = oo at *
          have he5' := (hbb.cell (p := ⟨b5, o5 + k, none⟩) hb5).trans he5
          have he5'' := fun ob => (World.cell?_alloc_lt w3 ob ⟨b5, o5 + k, none⟩ (Nat.lt_of_lt_of_le hb5 hbb.size)).trans he5'
          clear hcell1
          go_wp2_with (at_builtin; refine stop_ ?_)
          have hkA := hown11b.alloc (.cells #[.int .i64 wd, .int .u64 (oo : Int)] 39)
          have hkB := hown9b.alloc (.cells #[.int .i64 wd, .int .u64 (oo : Int)] 39)
          have hkC := hown10b.alloc (.cells #[.int .i64 wd, .int .u64 (oo : Int)] 39)
          have hbl := hb3'.alloc hb3'.size (.cells #[.int .i64 wd, .int .u64 (oo : Int)] 39)
          refine wpList_append_elem rfl _ _ rfl rfl rfl (by simp) Try.underlying33 infoNum rfl (by decide) hkA rfl (by simp [Value.oneCell']) (by rw [maxLen_eq]; omega) (by omega) hbl.size ?_
          intro v3 w4 hown11c hgr
          have hown9c := own_other hkB hkA (by decide) hgr
          have hown10c := own_other hkC hkA (by decide) hgr
          have hb4' := hbl.grown hgr hbl.size (fun g hg => (hkA.lt g hg).1)
          clear hgr hkA hkB hkC hbl hown9b hown10b hown11b
          go_wp2
          go_roundw
          case rel =>
            exact ⟨k + 1, by omega, by go_num, by rw [HW.out, List.map_append]; exact hown9c, by rw [HV.out, List.map_append]; exact hown10c, by rw [HO.out]; exact hown11c, hb4'⟩
          case measure => simp [intOf]; omega
        · have hko' : ¬ (k : Int) < o.length := by omega
          rw [if_neg hko] at HO
          clear hcell1
          go_wp2_with (at_builtin; refine stop_ ?_)
          have hkA := hown11b.alloc (.cells #[.int .i64 wd, .int .u64 (vv : Int)] 39)
          have hkB := hown9b.alloc (.cells #[.int .i64 wd, .int .u64 (vv : Int)] 39)
          have hkC := hown10b.alloc (.cells #[.int .i64 wd, .int .u64 (vv : Int)] 39)
          have hbl := hb3'.alloc hb3'.size (.cells #[.int .i64 wd, .int .u64 (vv : Int)] 39)
          refine wpList_append_elem rfl _ _ rfl rfl rfl (by simp) Try.underlying33 infoNum rfl (by decide) hkA rfl (by simp [Value.oneCell']) (by rw [maxLen_eq]; omega) (by omega) hbl.size ?_
          intro v3 w4 hown11c hgr
          have hown9c := own_other hkB hkA (by decide) hgr
          have hown10c := own_other hkC hkA (by decide) hgr
          have hb4' := hbl.grown hgr hbl.size (fun g hg => (hkA.lt g hg).1)
          clear hgr hkA hkB hkC hbl hown9b hown10b hown11b
          go_wp2
          go_roundw
          case rel =>
            exact ⟨k + 1, by omega, by go_num, by rw [HW.out, List.map_append]; exact hown9c, by rw [HV.out, List.map_append]; exact hown10c, by rw [HO.out]; exact hown11c, hb4'⟩
          case measure => simp [intOf]; omega
      · obtain rfl : k = q.length := by omega
        rw [List.take_of_length_le (by simp)] at hown9 hown10
        rw [List.take_of_length_le (by rw [Pk.length_others]; omega)] at hown11
        have i9 : Is .i64 wr wr.heap.size u9 (q.map (·.1)) := Rds.of_own (by rw [List.length_map]; exact hown9)
        have i10 : Us wr wr.heap.size u10 (q.map (·.2)) := Us.of_own (by rw [List.length_map]; exact hown10)
        have i11 : Nums wr wr.heap.size u11 (Pk.others q o) := Rds.of_own (by rw [Pk.length_others]; exact hown11)
        have hbb := hb1.trans (hbw.mono hb1.size)
        have HOL := Lib.hid (Pk.length_others q o)
        have HOT := Lib.hid (Pk.others_lt q o HU0.out HU1.out)
        have HUE := Lib.hid (fun b => Pk.uerr_recs q b HC.out)
        have HUN := Lib.hid (fun b => Pk.unpacked_recs q b HC.out)
        have HRI := Lib.hid (fun hm => Pk.recs_inj q (Pk.others q o) HC.out hm (Pk.others_fst q o))
        have HAL := Lib.hid (Pk.alikeTo_iff q (Pk.others q o) HOL.out)
        have HAS := Lib.hid (fun k => Pk.alikeTo_succ q (Pk.others q o) k)
        generalize Pk.others q o = mm at *
        generalize Pk.recs q = rq at *
        have s1 := hs1.ext (Nat.le_refl _) hbw
        have s2 := b2.ext (Nat.le_refl _) hbb
        clear hown9 hown10 hown11
        go_wp2_with (at_builtin; refine stop_ ?_)
        have hl0 := World.ownsRow_lit (base := wr.heap.size) (e := 5) (size := 1) wr #[] 0 (Nat.le_refl _) (by simp [maxLen]) (by simp)
        have hbA := (Below.refl wr.heap.size wr).alloc (Nat.le_refl _) (.cells #[] 5)
        obtain ⟨va, wa, hruna, howna, hgra, _⟩ := run_append_rds (P := Try.prog) (ty := 22) Try.underlying22 infoU8 rfl (by decide) hl0 (s1.ext hbw.size hbA) (u8s_oneCell rq) (by rw [maxLen_eq]; omega) (by omega) (by simp)
        refine wpList_append_run rfl _ _ _ rfl rfl rfl hruna ?_
        have hbB := hbA.grown hgra (by simp) (fun g hg => by simp [Value.ownBlock] at hg; omega)
        simp only [List.nil_append, Nat.zero_add] at howna
        clear hgra hruna hl0 hbA
        go_wp2_with (at_builtin; refine stop_ ?_)
        obtain ⟨vb, wb, hrunb, hownb, hgrb, _⟩ := run_append_rds (P := Try.prog) (ty := 22) Try.underlying22 infoU8 rfl (by decide) howna (s2.ext hbb.size hbB) (u8s_oneCell bb) (by rw [maxLen_eq]; omega) (by omega) hbB.size
        refine wpList_append_run rfl _ _ _ rfl rfl rfl hrunb ?_
        have hbC := hbB.grown hgrb hbB.size (fun g hg => (howna.lt g hg).1)
        have sB : Bs wb wb.heap.size vb (rq ++ bb) := Bs.of_own (by rw [List.length_append, List.map_append]; exact hownb)
        clear hgrb hrunb hownb howna hbB
        have i9b := Rds.more (Rds.ext i9 (Nat.le_refl _) hbC) hbC.size
        go_wp2_with fail
        refine (unpack_any _ _ _ wb.heap.size (rq ++ bb) (q.map fun x : Int × Nat => x.1) sB i9b (Nat.le_refl _) (by rw [List.length_map]; omega)).mono ?_
        rintro e wu ⟨xu, rfl, hownu, hbu⟩
        rw [HUE.out bb]
        rw [HUN.out bb] at hownu
        have hsu : Us wu wu.heap.size xu (q.map (·.2)) := Us.of_own hownu
        have hbD := hbC.trans (hbu.mono hbC.size)
        clear hownu hbu hbC sB i9b
        go_wp2_with fail
        refine (pack_any _ _ wr.heap.size mm (Rds.ext i11 (Nat.le_refl _) hbD) hbD.size (by rw [HOL.out]; omega) HOT.out).mono ?_
        rintro e wp ⟨xp, rfl, hownp, hbp⟩
        have hsp : Bs wp wp.heap.size xp (Pk.packed mm) := Bs.of_own hownp
        have hbE := hbD.trans (hbp.mono hbD.size)
        have hsu2 : Us wp wp.heap.size xu (q.map (·.2)) := Rds.more (Rds.ext hsu (Nat.le_refl _) hbp) hbp.size
        have i11p := Rds.ext i11 (Nat.le_refl _) hbE
        obtain ⟨A6, c6, rfl, hc6, hx6, hcell6⟩ := Nums.open_ i11p
        have hbF := hbb.trans (hbE.mono hbb.size)
        clear hownp hbp hsu hbD
        go_wp2
        go_loopw [18, 19] (fun x i wz => ∃ k n : Nat, k ≤ q.length ∧ i = .int .i64 k ∧ x = .bool (Pk.alikeTo q mm k) ∧ wz = wp.drewN n) (fun _ i _ => q.length - (intOf i).toNat)
        case atStart => exact ⟨0, 0, Nat.zero_le _, rfl, rfl, rfl⟩
        case round =>
          obtain ⟨k, n, hk, rfl, rfl, rfl⟩ := hrel
          by_cases hlt : k < q.length
          · obtain ⟨b7, o7, rfl, hb7, _, he7⟩ := hcell0 k hlt
            obtain ⟨b8, o8, rfl, hb8, _, he8⟩ := hcell6 k (by rw [HOL.out]; exact hlt)
            have HS := Lib.hid (HAS.out k)
            rw [show (mm.getD k (0, 0)) = mm[k]'(by rw [HOL.out]; exact hlt) by simp [List.getD, show k < mm.length by rw [HOL.out]; exact hlt], show (q.getD k (0, 0)) = q[k] by simp [List.getD, hlt]] at HS
            have he7' := (hbF.cell (p := ⟨b7, o7 + k * 2 + 1, none⟩) hb7).trans he7
            have hkm : k < mm.length := by rw [HOL.out]; exact hlt
            generalize q[k] = xq at *
            generalize mm[k]'(by rw [HOL.out]; exact hlt) = xm at *
            obtain ⟨wq, vq⟩ := xq
            obtain ⟨wm, vm⟩ := xm
            simp only at he7' he8 HS
            generalize Pk.alikeTo q mm k = al at *
            clear hcell0 hcell6 he7
            have i0 : (0 : Int) ≤ k := by omega
            have i1 : (k : Int) < q.length := by omega
            have i2 : (k : Int) < mm.length := by omega
            cases al
            · go_wp2
              go_quiet (fail)
              go_wp2
              go_roundw
              case rel => exact ⟨k + 1, n + nq, by omega, by go_num, by rw [HS.out]; rfl, by simp⟩
              case measure => simp [intOf]; omega
            · by_cases hvv : vm = vq
              · have hv' : ((vm : Int) == vq) = true := by rw [beq_iff_eq]; omega
                have HVV := Lib.hid hvv
                clear hvv
                go_wp2
                go_quiet (fail)
                go_wp2
                go_roundw
                case rel => exact ⟨k + 1, n + nq, by omega, by go_num, by rw [HS.out, HVV.out]; simp, by simp⟩
                case measure => simp [intOf]; omega
              · have hv' : ((vm : Int) == vq) = false := by rw [beq_eq_false_iff_ne]; omega
                have HVV := Lib.hid hvv
                clear hvv
                go_wp2
                go_quiet (fail)
                go_wp2
                go_roundw
                case rel => exact ⟨k + 1, n + nq, by omega, by go_num, by rw [HS.out, beq_eq_false_iff_ne.2 HVV.out]; rfl, by simp⟩
                case measure => simp [intOf]; omega
          · obtain rfl : k = q.length := by omega
            have hbG := below_drewN hbF n
            have hsu3 : Us (wp.drewN n) (wp.drewN n).heap.size xu (q.map (·.2)) := hsu2
            have i10p : Us (wp.drewN n) (wp.drewN n).heap.size u10 (q.map (·.2)) := Rds.more (Rds.ext i10 (Nat.le_refl _) (below_drewN hbE n)) hbE.size
            have hs1p : Bs (wp.drewN n) (wp.drewN n).heap.size (.slice A4 rq.length c4) rq := (s1.ext hbw.size (below_drewN hbE n)).more (show w1.heap.size ≤ wp.heap.size from Nat.le_trans hbw.size hbE.size)
            have hspp : Bs (wp.drewN n) (wp.drewN n).heap.size xp (Pk.packed mm) := hsp
            generalize wp.drewN n = wz at *
            clear hcell0 hcell6
            go_wp2_with fail
            refine (same_any _ _ _ _ _ _ hsu3 i10p).mono ?_
            rintro e w6 ⟨rfl, hb6⟩
            rw [beq_self_eq_true]
            have hbH := hbG.trans (hb6.mono hbG.size)
            have hs1q := hs1p.ext (Nat.le_refl _) hb6
            have hspq := hspp.ext (Nat.le_refl _) hb6
            have hcv1 := run_string_of (P := Try.prog) hs1q 22 9 5 Try.underlying22 Try.underlying5 Try.underlying9
            have hcv2 := run_string_of (P := Try.prog) hspq 22 9 5 Try.underlying22 Try.underlying5 Try.underlying9
            by_cases hpe : Pk.perr mm = 0
            · have HEQ := Lib.hid (show ((Pk.packed mm == rq) == Pk.alikeTo q mm q.length) = true by
                have e1 : Pk.packed mm = Pk.recs mm := by unfold Pk.packed; rw [if_pos hpe]
                have e2 := HRI.out (Pk.perr_zero hpe)
                have e3 := HAL.out
                rw [beq_iff_eq, Bool.eq_iff_iff, beq_iff_eq, e1, e3, ← e2]
                exact eq_comm)
              have hpe' : ((Pk.perr mm : Int) != 0) = false := by rw [bne_eq_false_iff_eq]; omega
              have heq := HEQ.out
              generalize Pk.packed mm = pm at *
              generalize Pk.alikeTo q mm q.length = al at *
              generalize Pk.perr mm = pe at *
              clear hpe HEQ
              generalize hbq : (pm == rq) = bq at *
              have hbq' : bq = al := by simpa using heq
              subst hbq'
              clear heq
              go_wp2_with fail
              refine (awakeP_any _).mono ?_
              rintro e w7 ⟨rfl, hb7⟩
              go_wp2
              go_ret
              exact ⟨rfl, hbH.trans (hb7.mono hbH.size)⟩
            · have hpe' : ((Pk.perr mm : Int) != 0) = true := by rw [bne_iff_ne]; omega
              generalize Pk.perr mm = pe at *
              clear hcv1 hcv2 hpe
              go_wp2_with fail
              refine (awakeP_any _).mono ?_
              rintro e w7 ⟨rfl, hb7⟩
              go_wp2
              go_ret
              exact ⟨rfl, hbH.trans (hb7.mono hbH.size)⟩
  · have hne : ((Pk.perr q : Int) != 0) = true := by rw [bne_iff_ne]; omega
    have HK := Lib.hid (show Pk.packed q = [] by unfold Pk.packed; rw [if_neg herr])
    rw [HK.out] at hs1
    obtain ⟨A4, c4, rfl, hc4, hx4, _⟩ := hs1.openD
    simp only [List.length_nil]
    generalize Pk.perr q = er at *
    clear herr hcell0 hcell1
    go_wp2_with fail
    refine (awakeP_any _).mono ?_
    rintro e w4 ⟨rfl, hb4⟩
    go_wp2
    go_ret
    exact ⟨rfl, hb1.trans (hb4.mono hb1.size)⟩

/-- What the walk gives, for every argument and every world that holds the table. -/
theorem packBack_contract (H : Type) (enc : TypeId × Value → H) (W : World) (base : Nat) (args : Array Value) (ds gs : List (DataW H)) (before : List MemPlace)
    (hval : ∀ (j : Nat) t v, Try.f4.params[j]? = some t → args[j]? = some v → Value.okWide Try.prog W .any base t v)
    (hW : DataW.Whole enc Try.prog Try.f4.params.toList Rows.packBackSpec.vars false W args.toList ds gs before) :
    Calls Try.prog 4 args W fun e W' => ∃ v, e = .returned v ∧ Rows.packBackSpec.post enc Try.prog Try.f4 false true false false W args v W' := by
  have hW' := hW
  obtain ⟨p, q, hA0, hV, hps, hfz, hnd⟩ := hW
  have hA : DataW.TrodAll enc Try.prog W 0 (fun _ => true) true Try.f4.params.toList args.toList ds p := hA0
  rw [Try.params4] at hA hval
  obtain ⟨v0, vs0, d0, ds0, p0, q0, hargs, rfl, rfl, h0, r0⟩ := trodAll_cons hA
  obtain ⟨v1, vs1, d1, ds1, p1, q1, rfl, rfl, rfl, h1, r1⟩ := trodAll_cons r0
  obtain ⟨v2, vs2, d2, ds2, p2, q2, rfl, rfl, rfl, h2, r2⟩ := trodAll_cons r1
  obtain ⟨rfl, rfl, rfl⟩ := trodAll_nil r2
  obtain rfl : args = #[v0, v1, v2] := by cases args; simp_all
  obtain ⟨rfl, rfl⟩ := trodVars_none hV
  obtain ⟨l0, b0, hu0⟩ := nums_of_trod Try.underlying33 Try.underlying39 (by kernel_rfl) rfl rfl (by kernel_rfl) (by kernel_rfl) Try.underlying3 Try.underlying37 (hval 0 33 v0 rfl rfl) h0
  obtain ⟨l1, b1, hu1⟩ := us_of_trod Try.underlying24 Try.underlying37 (by kernel_rfl) (hval 1 24 v1 rfl rfl) h1
  obtain ⟨l2, b2⟩ := bs_of_trod Try.underlying22 Try.underlying5 cellsU8 (hval 2 22 v2 rfl rfl) h2
  clear hA0
  refine (packBack_walk W v0 v1 v2 l0 l1 l2 b0 b1 b2 hu0 hu1).mono fun e W' ⟨he, hb⟩ => ?_
  subst he
  exact ⟨_, rfl, law_post laidOut (by rw [Try.params4]; decide +kernel) rfl Try.underlying4 rfl rfl hW' hb⟩

set_option maxRecDepth 100000 in
theorem packBack_lifted (os : Os) (started : os.Started) (H : Type) (enc : TypeId × Value → H) :
    ReturnsInHanded {} Try.checked os 4 .any (Rows.packBackSpec.pre6 enc Try.prog Try.f4 Rows.packBackRow.domain false) (Rows.packBackSpec.post enc Try.prog Try.f4 false true false false) := by
  refine returnsInHanded_of_change (C := Try.checked) own started (by kernel_rfl) Try.func4
    (ChangeSpec.witness6 (enc := enc) (C := Try.checked) false ⟨#[], #[.slice none 0 0, .slice none 0 0, .slice none 0 0], []⟩ 8 (by kernel_rfl) (by kernel_rfl) (by kernel_rfl) (by kernel_rfl)) ?_
  intro W base args ds gs before hval hW _ _
  exact packBack_contract H enc W base args ds gs before hval hW

theorem packBack_holds : Rows.PackBackSaid :=
  OpenClaim.holds_of_wide 4 Try.f4 rfl rfl rfl rfl rfl rfl rfl ⟨rfl, rfl, rfl, rfl, rfl⟩ rfl rfl rfl rfl rfl (by kernel_rfl) Try.func4 (by kernel_rfl)
    (of_decide_eq_true (by kernel_rfl)) (by unfold Func.isWrapper; first | (rw [if_pos (by decide +kernel)]; kernel_rfl) | (rw [if_neg (by decide +kernel)]; exact ⟨rfl, rfl⟩))
    (fun os started H enc _ => packBack_lifted os started H enc)

end Go.Proofs.Ytfedklediafnpaa
