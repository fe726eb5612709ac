/-
  InodeNodes: the block of any pointers is the document's, or refused, and is read as it was; whatever octets there are are the document's pointers, or refused with its error. For every input.
-/
import Derived.Test.YtmabdbleakolbaaDoorInodeQ
namespace Go.Proofs.YtmabdbleakolbaaDoor
open Go.ChangeShapes Go.WideShapes Go.ChangeAt Go.RowKit

/-- The first k pointers. -/
theorem Ptrs.head {w : World} {B k c : Nat} {A : Option Addr} {ps : List (Int × Nat)} (h : Ptrs w B (.slice A ps.length c) ps) (hk : k ≤ ps.length) : Ptrs w B (.slice A k c) (ps.take k) := by
  have := Rds.head h hk
  unfold Ptrs
  rw [List.length_take, Nat.min_eq_left hk]
  have e : pcells (ps.take k) = (pcells ps).take (k * 2) := by
    have hs : pcells ps = pcells (ps.take k) ++ pcells (ps.drop k) := by rw [← pcells_app, List.take_append_drop]
    rw [hs, List.take_left' (by rw [pcells_len, List.length_take, Nat.min_eq_left hk])]
  rw [e]; exact this

set_option maxRecDepth 100000 in
set_option maxHeartbeats 8000000 in
theorem inodeNodes_walk (w : World) (u v : Value) (ps : List (Int × Nat)) (l : List UInt8) (hu : Ptrs w w.heap.size u ps) (hv : Bs w w.heap.size v l) (hs : ∀ p ∈ ps, p.2 < 4294967296) (hH : Halves w) :
    Calls Tryd.prog 7 #[u, v] w fun e w' => e = .returned (.bool true) ∧ Below w.heap.size w w' := by
  obtain ⟨A, c, rfl, hc, hm, _⟩ := hu.open_
  have HU := Lib.hid hu
  have HV := Lib.hid hv
  have HS0 := Lib.hid hs
  clear hu hv hs
  go_enter Tryd.func7, Tryd.ntmps7
  go_upto_if 17 with (fail)
  go_cut [0] (fun s wx => w = wx ∧ ∃ q : List (Int × Nat), s = .slice A q.length c ∧ q.length ≤ 30 ∧ Hid (Ptrs w w.heap.size (.slice A q.length c) q ∧ ∀ p ∈ q, p.2 < 4294967296))
  case first =>
    by_cases h30 : 30 < ps.length
    · have g1 : (30 : Int) < (ps.length : Int) := by omega
      have g2 : (30 : Int) ≤ c := by omega
      have g3 : (30 : Nat) ≤ c := by omega
      have HH := Lib.hid (And.intro (HU.out.head (k := 30) (by omega)) (show ∀ p ∈ ps.take 30, p.2 < 4294967296 from fun p hp => HS0.out p (List.mem_of_mem_take hp)))
      have hl : (ps.take 30).length = 30 := by rw [List.length_take]; omega
      have HL := Lib.hid hl
      clear hl
      go_wp2
      go_meet
      exact ⟨rfl, ps.take 30, by rw [HL.out], by rw [HL.out]; omega, by rw [HL.out]; exact HH⟩
    · have g1 : ¬ (30 : Int) < (ps.length : Int) := by omega
      go_wp2
      go_meet
      exact ⟨rfl, ps, rfl, by omega, ⟨HU.out, HS0.out⟩⟩
  obtain ⟨rfl, q, rfl, hq30, HQ⟩ := hcut
  have HP0 := Lib.hid HQ.out.1
  have HS32 := Lib.hid HQ.out.2
  clear HQ HU HS0
  go_wp2_with fail
  refine (few_any w v _ l HV.out).mono ?_
  rintro e w' ⟨u1, rfl, h0, rfl⟩
  have hl2 : (l.take 200).length ≤ 200 := by rw [List.length_take]; omega
  generalize l.take 200 = m at *
  have HM := Lib.hid h0
  clear h0 HV
  go_wp2_with fail
  refine (readNode_any w _ m hH HM.out).mono ?_
  rintro e w1 ⟨x1, rfl, hp1, b1⟩
  have hst := run_string_of (P := Tryd.prog) (HM.out.ext (Nat.le_refl _) b1) 28 9 5 Tryd.underlying28 Tryd.underlying5 Tryd.underlying9
  have HX1 := Lib.hid hp1
  clear hp1
  go_wp2_with fail
  clear hst
  refine (rreadNode_any w1 m (by omega)).mono ?_
  rintro e w2 ⟨x2, rfl, hp2, b2⟩
  have HX2 := Lib.hid hp2
  have HX1' := Lib.hid ((Rds.ext HX1.out (Nat.le_refl _) b2).more b2.size)
  have c2 := b1.trans (b2.mono b1.size)
  generalize (if Nd.nErr m = 0 then Nd.ptrsOf m 15 else []) = L at *
  generalize Nd.nErr m = E at *
  clear hp2 HX1 b1 b2
  go_wp2_with fail
  refine (rsame_any w2 _ _ _ L L HX1'.out HX2.out (Nat.le_refl _)).mono ?_
  rintro e w3 ⟨rfl, b3⟩
  rw [decide_eq_true rfl]
  have c3 := c2.trans (b3.mono c2.size)
  have HP3 := Lib.hid (show Ptrs w3 w3.heap.size (.slice A q.length c) q from (Rds.ext HP0.out (Nat.le_refl _) c3).more c3.size)
  clear HX1' HX2 b3 c2 HP0 HM
  go_wp2_with fail
  cases hok : (decide (q.length = 15) && q.all Nd.ptrB) with
  | false =>
    have HOK := Lib.hid hok
    clear hok
    refine (node_no w3 _ _ q HP3.out (Nat.le_refl _) HOK.out).mono ?_
    rintro e w4 ⟨rfl, b4⟩
    have HP4 := Lib.hid (show Ptrs w4 w4.heap.size (.slice A q.length c) q from (Rds.ext HP3.out (Nat.le_refl _) b4).more b4.size)
    have c4 := c3.trans (b4.mono c3.size)
    clear HP3 b4 c3
    have i0 : ((q.length : Int) == 15) = decide (q.length = 15) := by rw [Bool.eq_iff_iff, beq_iff_eq, decide_eq_true_iff]; omega
    go_wp2
    go_loopw [11, 12] (fun y i wr => ∃ k : Nat, k ≤ q.length ∧ i = .int .i64 k ∧ y = .bool (decide (q.length = 15) && (q.take k).all Nd.ptrB) ∧ Below w4.heap.size w4 wr) (fun _ i _ => q.length - (intOf i).toNat)
    case atStart => exact ⟨0, Nat.zero_le _, rfl, by simp, Below.refl _ _⟩
    case round =>
      obtain ⟨k, hk, rfl, rfl, hbw⟩ := hrel
      by_cases hlt : k < q.length
      · have hcell := HP4.out.open_
        obtain ⟨A', c', e', _, _, hcell⟩ := hcell
        injection e' with e1 _ e3
        subst e1 e3
        obtain ⟨b, off, rfl, hb, hc1, hc2⟩ := hcell k hlt
        have hx1 := (hbw.cell (p := ⟨b, off + k * 2, none⟩) hb).trans hc1
        have hx2 := (hbw.cell (p := ⟨b, off + k * 2 + 1, none⟩) hb).trans hc2
        have HS := Lib.hid (show (decide (q.length = 15) && (q.take (k + 1)).all Nd.ptrB) = ((decide (q.length = 15) && (q.take k).all Nd.ptrB) && Nd.ptrB q[k]) by rw [List.take_succ_eq_append_getElem hlt, List.all_append, Bool.and_assoc]; simp)
        clear hc1 hc2 hcell
        generalize q[k] = p at *
        obtain ⟨pa, s⟩ := p
        simp only at hx1 hx2
        have i1 : (k : Int) < (q.length : Int) := by omega
        generalize (decide (q.length = 15) && (q.take k).all Nd.ptrB) = B0 at *
        cases B0 with
        | false =>
          rw [Bool.false_and] at HS
          go_wp2
          go_roundw
          case rel => exact ⟨k + 1, by omega, by go_num, by rw [HS.out], hbw⟩
          case measure => simp [intOf]; omega
        | true =>
          rw [Bool.true_and] at HS
          go_wp2_with fail
          refine (rPointer_any pa s _).mono ?_
          rintro e w6 ⟨rfl, b6⟩
          generalize Nd.ptrB (pa, s) = B1 at *
          go_wp2
          go_roundw
          case rel => exact ⟨k + 1, by omega, by go_num, by rw [HS.out], hbw.trans (b6.mono hbw.size)⟩
          case measure => simp [intOf]; omega
      · obtain rfl : k = q.length := by omega
        rw [List.take_length, HOK.out]
        have c5 := c4.trans (hbw.mono c4.size)
        have s5 := hbw.size
        go_wp2_with fail
        refine (awake_any _ (hH.ext c5)).mono ?_
        rintro e w7 ⟨rfl, b7⟩
        go_wp2
        go_ret
        exact ⟨rfl, c5.trans (b7.mono c5.size)⟩
  | true =>
    have HOK := Lib.hid hok
    have HLA := Lib.hid (show q.length = 15 ∧ q.all Nd.ptrB = true by rw [Bool.and_eq_true, decide_eq_true_iff] at hok; exact hok)
    have HBK := Lib.hid (Nd.nd_back q HLA.out.1 HLA.out.2 HS32.out)
    clear hok
    refine (node_yes w3 _ _ q HP3.out (Nat.le_refl _) HLA.out.1 HLA.out.2 HS32.out (hH.ext c3)).mono ?_
    rintro e w4 ⟨u, rfl, hbs, b4⟩
    have HP4 := Lib.hid (show Ptrs w4 w4.heap.size (.slice A q.length c) q from (Rds.ext HP3.out (Nat.le_refl _) b4).more b4.size)
    have HB4 := Lib.hid hbs
    have c4 := c3.trans (b4.mono c3.size)
    clear HP3 b4 c3 hbs
    have i0 : ((q.length : Int) == 15) = decide (q.length = 15) := by rw [Bool.eq_iff_iff, beq_iff_eq, decide_eq_true_iff]; omega
    go_wp2
    go_loopw [11, 12] (fun y i wr => ∃ k : Nat, k ≤ q.length ∧ i = .int .i64 k ∧ y = .bool (decide (q.length = 15) && (q.take k).all Nd.ptrB) ∧ Below w4.heap.size w4 wr) (fun _ i _ => q.length - (intOf i).toNat)
    case atStart => exact ⟨0, Nat.zero_le _, rfl, by simp, Below.refl _ _⟩
    case round =>
      obtain ⟨k, hk, rfl, rfl, hbw⟩ := hrel
      by_cases hlt : k < q.length
      · have hcell := HP4.out.open_
        obtain ⟨A', c', e', _, _, hcell⟩ := hcell
        injection e' with e1 _ e3
        subst e1 e3
        obtain ⟨b, off, rfl, hb, hc1, hc2⟩ := hcell k hlt
        have hx1 := (hbw.cell (p := ⟨b, off + k * 2, none⟩) hb).trans hc1
        have hx2 := (hbw.cell (p := ⟨b, off + k * 2 + 1, none⟩) hb).trans hc2
        have HS := Lib.hid (show (decide (q.length = 15) && (q.take (k + 1)).all Nd.ptrB) = ((decide (q.length = 15) && (q.take k).all Nd.ptrB) && Nd.ptrB q[k]) by rw [List.take_succ_eq_append_getElem hlt, List.all_append, Bool.and_assoc]; simp)
        clear hc1 hc2 hcell
        generalize q[k] = p at *
        obtain ⟨pa, s⟩ := p
        simp only at hx1 hx2
        have i1 : (k : Int) < (q.length : Int) := by omega
        generalize (decide (q.length = 15) && (q.take k).all Nd.ptrB) = B0 at *
        cases B0 with
        | false =>
          rw [Bool.false_and] at HS
          go_wp2
          go_roundw
          case rel => exact ⟨k + 1, by omega, by go_num, by rw [HS.out], hbw⟩
          case measure => simp [intOf]; omega
        | true =>
          rw [Bool.true_and] at HS
          go_wp2_with fail
          refine (rPointer_any pa s _).mono ?_
          rintro e w6 ⟨rfl, b6⟩
          generalize Nd.ptrB (pa, s) = B1 at *
          go_wp2
          go_roundw
          case rel => exact ⟨k + 1, by omega, by go_num, by rw [HS.out], hbw.trans (b6.mono hbw.size)⟩
          case measure => simp [intOf]; omega
      · obtain rfl : k = q.length := by omega
        rw [List.take_length, HOK.out]
        have c5 := c4.trans (hbw.mono c4.size)
        have s5 := hbw.size
        have HB5 := Lib.hid ((HB4.out.ext (Nat.le_refl _) hbw).more s5)
        have HP5 := Lib.hid (show Ptrs wr wr.heap.size (.slice A q.length c) q from (Rds.ext HP4.out (Nat.le_refl _) hbw).more s5)
        clear HB4 HP4 c4 hbw
        go_wp2_with fail
        refine (readNode_any wr _ _ (hH.ext c5) HB5.out).mono ?_
        rintro e w6 ⟨x6, rfl, hp6, b6⟩
        rw [HBK.out.2, if_pos rfl, HBK.out.1] at hp6
        rw [HBK.out.2]
        have c6 := c5.trans (b6.mono c5.size)
        have HB6 := Lib.hid ((HB5.out.ext (Nat.le_refl _) b6).more b6.size)
        have HP6 := Lib.hid (show Ptrs w6 w6.heap.size (.slice A q.length c) q from (Rds.ext HP5.out (Nat.le_refl _) b6).more b6.size)
        have HY6 := Lib.hid hp6
        clear b6 c5 hp6 HB5 HP5 s5
        obtain ⟨Ab, cb, rfl, _, _, _⟩ := HB6.out.openD
        go_wp2_with fail
        have hG0 : Below w6.heap.size w6 w6.drew := (Below.refl _ _).drew
        refine wp_region_list 22 [(fun y_ _ => y_ = .slice Ab (Nd.ndE q).length cb),
          (fun y_ _ => y_ = .string ⟨(Nd.ndE q).toArray⟩),
          (fun y_ _ => y_ = .slice A q.length c),
          (fun y_ _ => y_ = .string ⟨(Nd.ndE q).toArray⟩),
          (fun y_ _ => y_ = .bool true),
          (fun y_ _ => y_ = .bool true),
          (fun y_ _ => y_ = .int .i64 0),
          (fun y_ _ => y_ = .bool true),
          (fun y_ _ => y_ = .bool true),
          (fun y_ _ => y_ = .bool true),
          (fun y_ _ => y_ = x6),
          (fun y_ _ => y_ = .slice A q.length c),
          (fun y_ _ => y_ = .bool true),
          (fun y_ _ => y_ = .bool true),
          (fun y_ _ => y_ = .bool true),
          (fun y_ _ => y_ = .int .i64 0),
          (fun y_ _ => y_ = .bool true),
          (fun y_ _ => y_ = .bool true),
          (fun y_ _ => y_ = .bool true),
          (fun y_ _ => y_ = .bool true),
          (fun y_ _ => y_ = .bool true),
          (fun y_ _ => y_ = .bool true)]
          (fun x => Below w6.heap.size w6 x) (by kernel_rfl) rfl (by kernel_rfl) ?_ ?_ ?_ ?_
        · exact hG0
        · exact ⟨stab_eq _, stab_eq _, stab_eq _, stab_eq _, stab_eq _, stab_eq _, stab_eq _, stab_eq _, stab_eq _, stab_eq _, stab_eq _, stab_eq _, stab_eq _, stab_eq _, stab_eq _, stab_eq _, stab_eq _, stab_eq _, stab_eq _, stab_eq _, stab_eq _, stab_eq _, trivial⟩
        · refine ⟨?_, ?_, ?_, ?_, ?_, ?_, ?_, ?_, ?_, ?_, ?_, ?_, ?_, ?_, ?_, ?_, ?_, ?_, ?_, ?_, ?_, ?_, trivial⟩
          · intro a x hG hd hs K hK
            have h9 : a.tmps.getD 9 undef = .slice Ab (Nd.ndE q).length cb := hs 9 (by kernel_rfl)
            clear hd hs
            refine wpOp_plain rfl rfl ?_
            go_simp
            exact hK _ _ rfl hG (Below.refl _ _)
          · intro a x hG hd hs K hK
            have h81 : a.tmps.getD 81 undef = .slice Ab (Nd.ndE q).length cb := hd 0 81 (by kernel_rfl)
            clear hd hs
            refine wpOp_plain rfl rfl ?_
            have hst := run_string_of (P := Tryd.prog) (HB6.out.ext (Nat.le_refl _) hG) 28 9 5 Tryd.underlying28 Tryd.underlying5 Tryd.underlying9
            go_simp
            exact hK _ _ rfl hG (Below.refl _ _)
          · intro a x hG hd hs K hK
            have h0 : a.tmps.getD 0 undef = .slice A q.length c := hs 0 (by kernel_rfl)
            clear hd hs
            refine wpOp_plain rfl rfl ?_
            go_simp
            exact hK _ _ rfl hG (Below.refl _ _)
          · intro a x hG hd hs K hK
            have h83 : a.tmps.getD 83 undef = .slice A q.length c := hd 2 83 (by kernel_rfl)
            clear hd hs
            refine wpOp_plain rfl rfl ?_
            go_simp
            refine (rnode_any _ _ _ q (Rds.ext HP6.out (Nat.le_refl _) hG) hG.size HLA.out.1 HLA.out.2 HS32.out).mono ?_
            rintro e w' ⟨rfl, hb⟩
            exact hK _ _ rfl (hG.trans (hb.mono hG.size)) hb
          · intro a x hG hd hs K hK
            have h82 : a.tmps.getD 82 undef = .string ⟨(Nd.ndE q).toArray⟩ := hd 1 82 (by kernel_rfl)
            have h84 : a.tmps.getD 84 undef = .string ⟨(Nd.ndE q).toArray⟩ := hd 3 84 (by kernel_rfl)
            clear hd hs
            refine wpOp_plain rfl rfl ?_
            go_simp
            exact hK _ _ rfl hG (Below.refl _ _)
          · intro a x hG hd hs K hK
            have h85 : a.tmps.getD 85 undef = .bool true := hd 4 85 (by kernel_rfl)
            clear hd hs
            refine wpOp_plain rfl rfl ?_
            go_simp
            exact hK _ _ rfl hG (Below.refl _ _)
          · intro a x hG hd hs K hK
            have h10 : a.tmps.getD 10 undef = .int .i64 0 := hs 10 (by kernel_rfl)
            have h86 : a.tmps.getD 86 undef = .bool true := hd 5 86 (by kernel_rfl)
            clear hd hs
            refine wpOp_yes rfl rfl rfl h86 ?_
            go_simp
            exact hK _ _ rfl hG (Below.refl _ _)
          · intro a x hG hd hs K hK
            have h87 : a.tmps.getD 87 undef = .int .i64 0 := hd 6 87 (by kernel_rfl)
            have h86 : a.tmps.getD 86 undef = .bool true := hd 5 86 (by kernel_rfl)
            clear hd hs
            refine wpOp_yes rfl rfl rfl h86 ?_
            go_simp
            exact hK _ _ rfl hG (Below.refl _ _)
          · intro a x hG hd hs K hK
            have h86 : a.tmps.getD 86 undef = .bool true := hd 5 86 (by kernel_rfl)
            have h88 : a.tmps.getD 88 undef = .bool true := hd 7 88 (by kernel_rfl)
            clear hd hs
            refine wpOp_plain rfl rfl ?_
            go_simp
            exact hK _ _ rfl hG (Below.refl _ _)
          · intro a x hG hd hs K hK
            have h89 : a.tmps.getD 89 undef = .bool true := hd 8 89 (by kernel_rfl)
            clear hd hs
            refine wpOp_plain rfl rfl ?_
            go_simp
            exact hK _ _ rfl hG (Below.refl _ _)
          · intro a x hG hd hs K hK
            have h13 : a.tmps.getD 13 undef = x6 := hs 13 (by kernel_rfl)
            have h90 : a.tmps.getD 90 undef = .bool true := hd 9 90 (by kernel_rfl)
            clear hd hs
            refine wpOp_yes rfl rfl rfl h90 ?_
            go_simp
            exact hK _ _ rfl hG (Below.refl _ _)
          · intro a x hG hd hs K hK
            have h0 : a.tmps.getD 0 undef = .slice A q.length c := hs 0 (by kernel_rfl)
            have h90 : a.tmps.getD 90 undef = .bool true := hd 9 90 (by kernel_rfl)
            clear hd hs
            refine wpOp_yes rfl rfl rfl h90 ?_
            go_simp
            exact hK _ _ rfl hG (Below.refl _ _)
          · intro a x hG hd hs K hK
            have h91 : a.tmps.getD 91 undef = x6 := hd 10 91 (by kernel_rfl)
            have h92 : a.tmps.getD 92 undef = .slice A q.length c := hd 11 92 (by kernel_rfl)
            have h90 : a.tmps.getD 90 undef = .bool true := hd 9 90 (by kernel_rfl)
            clear hd hs
            refine wpOp_yes rfl rfl rfl h90 ?_
            go_simp
            refine (rsame_any _ _ _ _ q q (Rds.ext HY6.out (Nat.le_refl _) hG) (Rds.ext HP6.out (Nat.le_refl _) hG) hG.size).mono ?_
            rintro e w' ⟨rfl, hb⟩
            rw [decide_eq_true rfl]
            exact hK _ _ rfl (hG.trans (hb.mono hG.size)) hb
          · intro a x hG hd hs K hK
            have h90 : a.tmps.getD 90 undef = .bool true := hd 9 90 (by kernel_rfl)
            have h93 : a.tmps.getD 93 undef = .bool true := hd 12 93 (by kernel_rfl)
            clear hd hs
            refine wpOp_plain rfl rfl ?_
            go_simp
            exact hK _ _ rfl hG (Below.refl _ _)
          · intro a x hG hd hs K hK
            have h94 : a.tmps.getD 94 undef = .bool true := hd 13 94 (by kernel_rfl)
            clear hd hs
            refine wpOp_plain rfl rfl ?_
            go_simp
            exact hK _ _ rfl hG (Below.refl _ _)
          · intro a x hG hd hs K hK
            have h14 : a.tmps.getD 14 undef = .int .i64 0 := hs 14 (by kernel_rfl)
            have h95 : a.tmps.getD 95 undef = .bool true := hd 14 95 (by kernel_rfl)
            clear hd hs
            refine wpOp_yes rfl rfl rfl h95 ?_
            go_simp
            exact hK _ _ rfl hG (Below.refl _ _)
          · intro a x hG hd hs K hK
            have h96 : a.tmps.getD 96 undef = .int .i64 0 := hd 15 96 (by kernel_rfl)
            have h95 : a.tmps.getD 95 undef = .bool true := hd 14 95 (by kernel_rfl)
            clear hd hs
            refine wpOp_yes rfl rfl rfl h95 ?_
            go_simp
            exact hK _ _ rfl hG (Below.refl _ _)
          · intro a x hG hd hs K hK
            have h95 : a.tmps.getD 95 undef = .bool true := hd 14 95 (by kernel_rfl)
            have h97 : a.tmps.getD 97 undef = .bool true := hd 16 97 (by kernel_rfl)
            clear hd hs
            refine wpOp_plain rfl rfl ?_
            go_simp
            exact hK _ _ rfl hG (Below.refl _ _)
          · intro a x hG hd hs K hK
            have h98 : a.tmps.getD 98 undef = .bool true := hd 17 98 (by kernel_rfl)
            clear hd hs
            refine wpOp_plain rfl rfl ?_
            go_simp
            exact hK _ _ rfl hG (Below.refl _ _)
          · intro a x hG hd hs K hK
            have h99 : a.tmps.getD 99 undef = .bool true := hd 18 99 (by kernel_rfl)
            clear hd hs
            refine wpOp_yes rfl rfl rfl h99 ?_
            go_simp
            refine (awake_any _ (hH.ext (c6.trans (hG.mono c6.size)))).mono ?_
            rintro e w' ⟨rfl, hb⟩
            exact hK _ _ rfl (hG.trans (hb.mono hG.size)) hb
          · intro a x hG hd hs K hK
            have h99 : a.tmps.getD 99 undef = .bool true := hd 18 99 (by kernel_rfl)
            have h100 : a.tmps.getD 100 undef = .bool true := hd 19 100 (by kernel_rfl)
            clear hd hs
            refine wpOp_plain rfl rfl ?_
            go_simp
            exact hK _ _ rfl hG (Below.refl _ _)
          · intro a x hG hd hs K hK
            have h101 : a.tmps.getD 101 undef = .bool true := hd 20 101 (by kernel_rfl)
            clear hd hs
            refine wpOp_plain rfl rfl ?_
            go_simp
            exact hK _ _ rfl hG (Below.refl _ _)
        · intro x hG
          rintro _ rfl _ rfl _ rfl _ rfl _ rfl _ rfl _ rfl _ rfl _ rfl _ rfl _ rfl _ rfl _ rfl _ rfl _ rfl _ rfl _ rfl _ rfl _ rfl _ rfl _ rfl _ rfl
          simp only [Act.put, List.setIfInBounds_toArray, List.set_cons_zero, List.set_cons_succ, REnd]
          try simp only [Exit.then]
          go_wp2
          go_ret
          exact ⟨rfl, c6.trans (hG.mono c6.size)⟩

/-- What the walk gives, for every argument and every world that holds the table. -/
theorem inodeNodes_contract (H : Type) (enc : TypeId × Value → H) (W : World) (base : Nat) (args : Array Value) (ds gs : List (DataW H)) (before : List MemPlace)
    (hval : ∀ (j : Nat) t v, Tryd.f7.params[j]? = some t → args[j]? = some v → Value.okWide Tryd.prog W .any base t v)
    (hW : DataW.Whole enc Tryd.prog Tryd.f7.params.toList Rows.inodeNodesSpec.vars false W args.toList ds gs before) (hL : laidMetH Tryd.prog Rows.inodeNodesRow.laid W) :
    Calls Tryd.prog 7 args W fun e W' => ∃ v, e = .returned v ∧ Rows.inodeNodesSpec.post enc Tryd.prog Tryd.f7 false true false false W args v W' := by
  have hW' := hW
  obtain ⟨p, q, hA0, hV, hps, hfz, hnd⟩ := hW
  have hA : DataW.TrodAll enc Tryd.prog W 0 (fun _ => true) true Tryd.f7.params.toList args.toList ds p := hA0
  rw [Tryd.params7] at hA hval
  obtain ⟨v0, vs0, d0, ds0, p0, q0, hargs, rfl, rfl, h0, r0⟩ := trodAll_cons hA
  obtain ⟨v1, vs1, d1, ds1, p1, q1, rfl, rfl, rfl, h1, r1⟩ := trodAll_cons r0
  obtain ⟨rfl, rfl, rfl⟩ := trodAll_nil r1
  obtain rfl : args = #[v0, v1] := by cases args; simp_all
  obtain ⟨rfl, rfl⟩ := trodVars_none hV
  obtain ⟨l0, b0, s0⟩ := ptrs_of_trod Tryd.underlying42 Tryd.underlying24 (by kernel_rfl) rfl rfl (by kernel_rfl) (by kernel_rfl) Tryd.underlying3 Tryd.underlying22 (hval 0 42 v0 rfl rfl) h0
  obtain ⟨l1, b1⟩ := bs_of_trod Tryd.underlying28 Tryd.underlying5 cellsU8 (hval 1 28 v1 rfl rfl) h1
  clear hA0
  refine (inodeNodes_walk W v0 v1 l0 l1 b0 b1 s0 (halves_of hL)).mono fun e W' ⟨he, hb⟩ => ?_
  subst he
  exact ⟨_, rfl, law_post laidOut (by rw [Tryd.params7]; decide +kernel) rfl Tryd.underlying4 rfl rfl hW' hb⟩

theorem inodeNodes_met (os : Os) : laidMet Tryd.prog Rows.inodeNodesRow.laid ((laidWorld os).forCall (fun _ _ => 0) ⟨#[], #[.slice none 0 0, .slice none 0 0], []⟩).memory :=
  laidMet_of_run' 8 (by kernel_rfl) (by kernel_rfl)
theorem inodeNodes_reads (os : Os) {H : Type} (enc : TypeId × Value → H) : ∃ places, DataW.whole enc Tryd.prog ((laidWorld os).forCall (fun _ _ => 0) ⟨#[], #[.slice none 0 0, .slice none 0 0], []⟩).memory Tryd.f7.params.toList Rows.inodeNodesSpec.vars false (#[.slice none 0 0, .slice none 0 0] : Array Value).toList 8 = some ([.nil, .nil], [], places) :=
  ⟨[], by kernel_rfl⟩

set_option maxRecDepth 100000 in
theorem inodeNodes_lifted (os : Os) (started : os.Started) (H : Type) (enc : TypeId × Value → H) (F : Stop.Interp) :
    ReturnsInHanded {} Tryd.checked os 7 .any ((OpenSpec.ofChange Rows.inodeNodesSpec).preRow enc Tryd.prog Tryd.f7 Rows.inodeNodesRow.domain false Rows.inodeNodesRow.laid) (((OpenSpec.ofChange Rows.inodeNodesSpec).at F).post enc Tryd.prog Tryd.f7 false true false false) := by
  obtain ⟨places, hx⟩ := inodeNodes_reads os enc
  refine returnsInHanded_of_row (C := Tryd.checked) (s := OpenSpec.ofChange Rows.inodeNodesSpec) own started (by kernel_rfl) Tryd.func7
    (witness_row_at (enc := enc) (C := Tryd.checked) false (laidWorld os) #[.slice none 0 0, .slice none 0 0] rfl (by kernel_rfl) (by kernel_rfl) (by kernel_rfl)
      (OpenSpec.preRow_of_cond 8 hx (by kernel_rfl) (fun k hk => by cases hk) (by kernel_rfl) (inodeNodes_met os))) ?_
  intro W base args ds gs before hval hW _ _ _ hL _ _
  exact inodeNodes_contract H enc W base args ds gs before hval hW hL

theorem inodeNodes_said : Rows.InodeNodesSaid :=
  OpenClaim.holds_of_cond 7 Tryd.f7 rfl rfl rfl rfl rfl rfl rfl ⟨rfl, rfl, rfl, rfl, rfl⟩ rfl rfl rfl rfl rfl (by kernel_rfl) Tryd.func7 (by kernel_rfl)
    (of_decide_eq_true (by kernel_rfl)) (by unfold Func.isWrapper; first | (rw [if_pos (by decide +kernel)]; kernel_rfl) | (rw [if_neg (by decide +kernel)]; exact ⟨rfl, rfl⟩))
    (fun os started H enc _ F => by rw [OpenClaim.pre_eq_preRow]; exact inodeNodes_lifted os started H enc F)

theorem inodeNodes_plain (f : FuncId) (fn : Func) (hf : Tryd.pinned.checked.prog.funcNamed "haymow/haymowlaw07.InodeNodes" = some f) (hfn : Tryd.pinned.checked.prog.funcs[f]? = some fn) :
    false = Tryd.pinned.checked.prog.looks [] ∧ ∀ (j : Nat) t, fn.params[j]? = some t → Tryd.pinned.checked.prog.wantsStandIn t = false := by
  obtain rfl : f = 7 := Option.some.inj ((show Tryd.prog.funcNamed "haymow/haymowlaw07.InodeNodes" = some 7 by kernel_rfl).symm.trans hf) |>.symm
  obtain rfl : fn = Tryd.f7 := (Option.some.inj (Tryd.func7.symm.trans hfn)).symm
  refine ⟨by kernel_rfl, fun j t ht => ?_⟩
  rw [Tryd.params7] at ht
  have hall : ∀ t ∈ (Tryd.f7).params.toList, Tryd.prog.wantsStandIn t = false := by rw [Tryd.params7]; decide +kernel
  exact hall t (by rw [Tryd.params7]; exact Array.mem_toList_iff.2 (Array.mem_of_getElem? ht))

/-- THE CARD. -/
theorem inodeNodes_holds : Rows.InodeNodesCardSaid :=
  Claim7.holds_tied_plain_at .later [] _ _ _ _ inodeNodes_said (fun _ h => by cases h) (by kernel_rfl) (fun _ h => by cases h) inodeNodes_row_tie rfl ⟨rfl, rfl⟩ (by kernel_rfl) rfl inodeNodes_plain (by kernel_rfl)

end Go.Proofs.YtmabdbleakolbaaDoor
