/-
  The walks of the document's answers of layer 7: Same, ReadNode. By an AI agent.
-/
import Derived.Test.YtmabdbleakolbaaDoorInodeR
namespace Go.Proofs.YtmabdbleakolbaaDoor
open Go.RowKit Go.ChangeShapes Go.WideShapes Go.ChangeAt

theorem take_same {α : Type} {ps qs : List α} {k : Nat} (h1 : k < ps.length) (h2 : k < qs.length) (h : ps.take k = qs.take k) (e : ps[k] = qs[k]) : ps.take (k + 1) = qs.take (k + 1) := by
  rw [List.take_succ_eq_append_getElem h1, List.take_succ_eq_append_getElem h2, h, e]
theorem same_no {ps qs : List (Int × Nat)} {k : Nat} (h1 : k < ps.length) (h2 : k < qs.length) (e : ps[k] ≠ qs[k]) : decide (ps = qs) = false := by
  rw [decide_eq_false_iff_not]
  rintro rfl
  exact e rfl
theorem same_yes {ps qs : List (Int × Nat)} (h2 : qs.length ≤ ps.length) (h : ps.take ps.length = qs.take ps.length) : decide (ps = qs) = true := by
  rw [List.take_length, List.take_of_length_le h2] at h
  exact decide_eq_true h

set_option maxHeartbeats 1000000 in
theorem rsame_any (w : World) (u v : Value) (B : Nat) (ps qs : List (Int × Nat)) (h : Ptrs w B u ps) (h' : Ptrs w B v qs) (hB : B ≤ w.heap.size) :
    Calls Tryd.prog 17 #[u, v] w fun e w' => e = .returned (.bool (decide (ps = qs))) ∧ Below w.heap.size w w' := by
  obtain ⟨A, c, rfl, hc, hm, hcell⟩ := h.open_
  obtain ⟨A', c', rfl, hc', hm', hcell'⟩ := h'.open_
  clear h h'
  by_cases hl : ps.length = qs.length
  · have hl' : (((ps.length : Nat) : Int) != (qs.length : Int)) = false := by rw [bne_eq_false_iff_eq]; omega
    have hl1 : ps.length ≤ qs.length := by omega
    have hl2 : qs.length ≤ ps.length := by omega
    clear hl
    go_enter Tryd.func17, Tryd.ntmps17
    go_wp2
    go_loopw [5] (fun i wr => ∃ k : Nat, k ≤ ps.length ∧ i = .int .i64 k ∧ ps.take k = qs.take k ∧ Below w.heap.size w wr) (fun i _ => ps.length - (intOf i).toNat)
    case atStart => exact ⟨0, Nat.zero_le _, rfl, rfl, Below.refl _ _⟩
    case round =>
      obtain ⟨k, hk, rfl, hall, hbw⟩ := hrel
      by_cases hlt : k < ps.length
      · have hlt' : k < qs.length := by omega
        obtain ⟨b, off, rfl, hb, hc1, hc2⟩ := hcell k hlt
        obtain ⟨b', off', rfl, hb', hd1, hd2⟩ := hcell' k hlt'
        have hx1 := (hbw.cell (p := ⟨b, off + k * 2, none⟩) (Nat.lt_of_lt_of_le hb hB)).trans hc1
        have hx2 := (hbw.cell (p := ⟨b, off + k * 2 + 1, none⟩) (Nat.lt_of_lt_of_le hb hB)).trans hc2
        have hy1 := (hbw.cell (p := ⟨b', off' + k * 2, none⟩) (Nat.lt_of_lt_of_le hb' hB)).trans hd1
        have hy2 := (hbw.cell (p := ⟨b', off' + k * 2 + 1, none⟩) (Nat.lt_of_lt_of_le hb' hB)).trans hd2
        have HY := Lib.hid (fun e => take_same hlt hlt' hall e)
        have HN := Lib.hid (fun e => same_no hlt hlt' e)
        clear hc1 hc2 hd1 hd2 hcell hcell' hall
        generalize ps[k] = p at *
        generalize qs[k] = q at *
        obtain ⟨a, s⟩ := p
        obtain ⟨a', s'⟩ := q
        simp only at hx1 hx2 hy1 hy2
        have i1 : (k : Int) < (ps.length : Int) := by omega
        have i2 : (k : Int) < (qs.length : Int) := by omega
        by_cases e1 : a = a'
        · subst e1
          by_cases e2 : s = s'
          · subst e2
            have H := Lib.hid (HY.out rfl)
            clear HY HN
            go_wp2
            go_quiet (fail)
            go_wp2
            go_roundw
            case rel => exact ⟨k + 1, by omega, by go_num, H.out, below_drewN hbw _⟩
            case measure => simp [intOf]; omega
          · have H := Lib.hid (HN.out (by intro e; injection e with _ e; exact e2 e))
            have e2' : ((s : Int) == (s' : Int)) = false := by rw [beq_eq_false_iff_ne]; omega
            clear HY HN e2
            go_wp2
            go_quiet (fail)
            go_wp2
            go_ret
            exact ⟨by rw [H.out]; rfl, below_drewN hbw _⟩
        · have H := Lib.hid (HN.out (by intro e; injection e with e _; exact e1 e))
          have e1' : (a == a') = false := by rw [beq_eq_false_iff_ne]; omega
          clear HY HN e1
          go_wp2
          go_quiet (fail)
          go_wp2
          go_ret
          exact ⟨by rw [H.out]; rfl, below_drewN hbw _⟩
      · obtain rfl : k = ps.length := by omega
        have H := Lib.hid (same_yes hl2 hall)
        clear hall hcell hcell'
        go_wp2
        go_ret
        exact ⟨by rw [H.out]; rfl, hbw⟩
  · have hl' : (((ps.length : Nat) : Int) != (qs.length : Int)) = true := by rw [bne_iff_ne]; omega
    have H := Lib.hid (show decide (ps = qs) = false by rw [decide_eq_false_iff_not]; rintro rfl; exact hl rfl)
    clear hl hcell hcell'
    go_enter Tryd.func17, Tryd.ntmps17
    go_wp2
    go_ret
    exact ⟨by rw [H.out]; rfl, Below.refl _ _⟩

theorem infoPtr : (Tryd.prog.info? 24).map (fun i => (i.zero, i.size, i.bytes)) = some (some (.agg #[.int .i64 0, .int .u32 0]), 2, 16) := by kernel_rfl
theorem Ptrs.of_own {w : World} {base : Nat} {e : TypeId} {v : Value} {l : List (Int × Nat)} {n : Nat} (h : w.ownsRow base e 2 v n (pcells l)) (hn : n = l.length) : Ptrs w w.heap.size v l := by subst hn; exact Rds.of_own h
theorem ptrs_all_no {l : List UInt8} {k n : Nat} (hk : k < n) (h : Nd.ptrB (Nd.ptrAt l k) = false) : (Nd.ptrsOf l n).all Nd.ptrB = false := by
  cases hq : (Nd.ptrsOf l n).all Nd.ptrB with
  | false => rfl
  | true =>
    have := List.all_eq_true.1 hq (Nd.ptrAt l k) (List.mem_map.2 ⟨k, List.mem_range.2 hk, rfl⟩)
    rw [h] at this; cases this
theorem ptrs_all_snoc {l : List UInt8} {k : Nat} (h : (Nd.ptrsOf l k).all Nd.ptrB = true) (h2 : Nd.ptrB (Nd.ptrAt l k) = true) : (Nd.ptrsOf l (k + 1)).all Nd.ptrB = true := by
  rw [Nd.ptrsOf_snoc, List.all_append, h]
  simp [h2]
set_option maxRecDepth 100000 in
set_option maxHeartbeats 4000000 in
theorem rreadNode_any (w : World) (l : List UInt8) (hn : l.length ≤ 1000000) :
    Calls Tryd.prog 22 #[.string ⟨l.toArray⟩] w (NodeR l w) := by
  have HD := Lib.hid (Nd.n_doc l)
  go_enter Tryd.func22, Tryd.ntmps22
  go_wp2_with fail
  refine (rheld_any _ l (by omega)).mono ?_
  rintro e w1 ⟨rfl, b1⟩
  cases hh : Crc.held l with
  | false =>
    rw [hh] at HD
    have HE := Lib.hid (show Nd.nErr l = 5 from HD.out)
    clear hh HD
    go_wp2
    go_ret2
    exact ⟨_, by rw [HE.out]; rfl, (by rw [HE.out, if_neg (by decide)]; exact Rds.nil_ _ _ _), b1⟩
  | true =>
    rw [hh, if_pos rfl] at HD
    have hlen := Cd.held_len hh
    have hl1 : 128 ≤ l.length := by omega
    clear hh hlen
    go_wp2
    go_loopw [4, 5] (fun y i wr => ∃ k : Nat, k ≤ 15 ∧ i = .int .i64 k ∧ wr.ownsRow w.heap.size 24 2 y k (pcells (Nd.ptrsOf l k)) ∧ (Nd.ptrsOf l k).all Nd.ptrB = true ∧ Below w.heap.size w wr) (fun _ i _ => 15 - (intOf i).toNat)
    case atStart => exact ⟨0, by omega, rfl, World.ownsRow_nil _ _ _ _, rfl, b1⟩
    case round =>
      obtain ⟨k, hk, rfl, hown, hall, hbw⟩ := hrel
      clear b1
      by_cases hlt : k < 15
      · have HP := Lib.hid (show Nd.ptrAt l k = (((Pk.val ((l.drop (8 * k)).take 4) : Nat) : Int), Pk.val ((l.drop (8 * k + 4)).take 4)) from rfl)
        have hV0 : Pk.val ((l.drop (8 * k)).take 4) < 4294967296 := Nd.val_lt_of _ 4
        have hV1 : Pk.val ((l.drop (8 * k + 4)).take 4) < 4294967296 := Nd.val_lt_of _ 4
        have HA := Lib.hid hall
        clear hall
        go_wp2_with fail
        refine (rget_eq _ l (8 * k) 4 _ _ (by omega) rfl (by omega) (by omega) (by omega)).mono ?_
        rintro e w' ⟨rfl, rfl⟩
        generalize Pk.val ((l.drop (8 * k)).take 4) = V0 at *
        go_wp2_with fail
        refine (rget_eq _ l (8 * k + 4) 4 _ _ (by omega) rfl (by omega) (by omega) (by omega)).mono ?_
        rintro e w' ⟨rfl, rfl⟩
        generalize Pk.val ((l.drop (8 * k + 4)).take 4) = V1 at *
        go_wp2_with fail
        have hk3 := Blk.new wr 24 #[.int .i64 (V0 : Int), .int .u32 (V1 : Int)]
        have hown3 := hown.alloc (.cells #[.int .i64 (V0 : Int), .int .u32 (V1 : Int)] 24)
        have c3 := hbw.alloc hbw.size (.cells #[.int .i64 (V0 : Int), .int .u32 (V1 : Int)] 24)
        generalize wr.alloc (.cells #[.int .i64 (V0 : Int), .int .u32 (V1 : Int)] 24) = W3 at *
        clear hown hbw
        generalize wr.heap.size = gg at *
        refine (rPointer_any V0 V1 _).mono ?_
        rintro e w4 ⟨rfl, b4⟩
        have hk4 := hk3.ext b4
        have hown4 := own_ext hown3 b4
        have c4 := c3.trans (b4.mono c3.size)
        clear hk3 hown3 c3 b4
        cases hpb : Nd.ptrB ((V0 : Int), V1) with
        | false =>
          have HE := Lib.hid (show Nd.nErr l = 3 by rw [HD.out, ptrs_all_no hlt (by rw [HP.out]; exact hpb)]; simp)
          clear hpb HD
          go_wp2
          go_ret2
          exact ⟨_, by rw [HE.out]; rfl, (by rw [HE.out, if_neg (by decide)]; exact Rds.nil_ _ _ _), c4⟩
        | true =>
          have HA2 := Lib.hid (ptrs_all_snoc HA.out (by rw [HP.out]; exact hpb))
          clear hpb HA
          have x0 := hk4.cell 0
          have x1 := hk4.cell 1
          simp only [List.getElem?_cons_zero, List.getElem?_cons_succ] at x0 x1
          go_wp2_with (at_builtin; refine stop_ ?_)
          refine wpList_append_elem rfl _ _ rfl rfl rfl rfl Tryd.underlying42 infoPtr rfl (by decide) hown4 rfl (by simp [Value.oneCell']) (by rw [maxLen_eq]; omega) (by omega) c4.size ?_
          intro v' w' hown' hgr
          have hb' := c4.grown hgr c4.size (fun g hg => (hown4.lt g hg).1)
          clear hown4 hgr x0 x1 hk4 c4
          go_wp2
          go_roundw
          case rel => exact ⟨k + 1, by omega, by go_num, by rw [Nd.ptrsOf_snoc, pcells_app, HP.out]; exact hown', HA2.out, hb'⟩
          case measure => simp [intOf]; omega
      · obtain rfl : k = 15 := by omega
        have HA := Lib.hid hall
        rw [hall] at HD
        simp only [true_and] at HD
        clear hall
        have hps := Ptrs.of_own hown (Nd.ptrsOf_len l 15).symm
        have HPS := Lib.hid hps
        clear hps
        go_wp2_with fail
        refine (rnode_any _ _ _ (Nd.ptrsOf l 15) HPS.out (Nat.le_refl _) (Nd.ptrsOf_len l 15) HA.out (Nd.ptrsOf_lt l 15)).mono ?_
        rintro e w2 ⟨rfl, b2⟩
        have c2 := hbw.trans (b2.mono hbw.size)
        have HPS2 := Lib.hid (Rds.more (Rds.ext HPS.out (Nat.le_refl _) b2) b2.size)
        have hse : ((⟨(Nd.ndE (Nd.ptrsOf l 15)).toArray⟩ : ByteArray).toList == (⟨l.toArray⟩ : ByteArray).toList) = (Nd.ndE (Nd.ptrsOf l 15) == l) := by rw [ByteArray.toList_eq, ByteArray.toList_eq]
        clear b2 hbw HPS hown
        by_cases he : Nd.ndE (Nd.ptrsOf l 15) = l
        · rw [show (Nd.ndE (Nd.ptrsOf l 15) == l) = true by rw [he]; simp] at hse
          rw [if_pos he] at HD
          clear he
          generalize (⟨(Nd.ndE (Nd.ptrsOf l 15)).toArray⟩ : ByteArray) = S1 at *
          generalize (⟨l.toArray⟩ : ByteArray) = S2 at *
          go_wp2
          go_ret2
          exact ⟨_, by rw [HD.out]; rfl, (by rw [HD.out, if_pos rfl]; exact HPS2.out), c2⟩
        · rw [show (Nd.ndE (Nd.ptrsOf l 15) == l) = false by rw [beq_eq_false_iff_ne]; exact he] at hse
          rw [if_neg he] at HD
          clear he
          generalize (⟨(Nd.ndE (Nd.ptrsOf l 15)).toArray⟩ : ByteArray) = S1 at *
          generalize (⟨l.toArray⟩ : ByteArray) = S2 at *
          go_wp2
          go_ret2
          exact ⟨_, by rw [HD.out]; rfl, (by rw [HD.out, if_neg (by decide)]; exact Rds.nil_ _ _ _), c2⟩
end Go.Proofs.YtmabdbleakolbaaDoor
