/-
  The reference of chapter 06: Whole, Of. By an AI agent.
-/
import Derived.Test.YtieajlpkiheebaaDoorSumX
namespace Go.Proofs.YtieajlpkiheebaaDoor
open Go.RowKit Go.ChangeShapes Go.WideShapes Go.ChangeAt

/-- Texts in memory. -/
def sval (l : List UInt8) : Value := .string ⟨l.toArray⟩
def Strs (w : World) (B : Nat) (v : Value) (ls : List (List UInt8)) : Prop := Rds w B 1 v ls.length (ls.map sval)
theorem Strs.open_ {w : World} {B : Nat} {v : Value} {ls : List (List UInt8)} (h : Strs w B v ls) : ∃ (A : Option Addr) (c : Nat), v = .slice A ls.length c ∧ ls.length ≤ c ∧ c ≤ 9223372036854775807 ∧
    ∀ (j : Nat) (_ : j < ls.length), ∃ b off, A = some ⟨b, off, none⟩ ∧ b < B ∧ w.cell? ⟨b, off + j, none⟩ = some (.string ⟨(ls.getD j []).toArray⟩) := by
  obtain ⟨A, c, h1, h2, h3, h4, h5⟩ := h
  refine ⟨A, c, h1, h2, h3, fun j hj => ?_⟩
  obtain ⟨b, off, e, hb', hc⟩ := h5 (by omega)
  refine ⟨b, off, e, hb', hc j _ ?_⟩
  rw [List.getElem?_map, List.getElem?_eq_getElem hj, List.getD_eq_getElem?_getD, List.getElem?_eq_getElem hj]
  rfl
theorem allW_all (bl : List (List UInt8)) (l : List Sm.En) (k : Nat) (hk : k < l.length) (h : okE bl (k, l[k]) = false) : allW bl (idx l l.length) = false := by
  cases ha : allW bl (idx l l.length) with
  | false => rfl
  | true =>
    unfold allW at ha
    have := List.all_eq_true.1 ha (k, l[k]) (by unfold idx; exact List.mem_map.2 ⟨k, List.mem_range.2 hk, by rw [List.getD_eq_getElem?_getD, List.getElem?_eq_getElem hk]; rfl⟩)
    rw [h] at this; cases this
theorem idx_step (l : List Sm.En) (k : Nat) (hk : k < l.length) : idx l (k + 1) = idx l k ++ [(k, l[k])] := by
  rw [idx_succ, List.getD_eq_getElem?_getD, List.getElem?_eq_getElem hk]; rfl
theorem allL_all (bl : List (List UInt8)) (l : List Sm.En) (k : Nat) (hk : k < l.length) (h : lenE bl (k, l[k]) = false) : allL bl (idx l l.length) = false := by
  cases ha : allL bl (idx l l.length) with
  | false => rfl
  | true =>
    unfold allL at ha
    have := List.all_eq_true.1 ha (k, l[k]) (by unfold idx; exact List.mem_map.2 ⟨k, List.mem_range.2 hk, by rw [List.getD_eq_getElem?_getD, List.getElem?_eq_getElem hk]; rfl⟩)
    rw [h] at this; cases this

set_option maxRecDepth 100000 in
set_option maxHeartbeats 4000000 in
theorem rwholeS_any (s n : Int) (e : Bool) (vl vb : Value) (l : List Sm.En) (bl : List (List UInt8)) (w : World) (hl : Ents w w.heap.size vl l) (hb : Strs w w.heap.size vb bl) (hsm : ∀ b ∈ bl, b.length ≤ 1000000) :
    Calls Tryd.prog 19 #[.agg #[.int .i64 s, .int .i64 n, .bool e, vl], vb] w fun r w' => r = .returned (.bool (whB ⟨s, n, e, l⟩ bl)) ∧ Below w.heap.size w w' := by
  have HL := Lib.hid hl
  have HBL := Lib.hid hb
  obtain ⟨A, c, rfl, hlc, hcm, hE⟩ := hl.open_
  obtain ⟨Ab, cb, rfl, hbc, hbm, hcellb⟩ := hb.open_
  have HW := Lib.hid (show whB ⟨s, n, e, l⟩ bl = (Sm.mayB ⟨s, n, e, l⟩ && (bl.length == l.length) && allW bl (idx l l.length)) from rfl)
  have HE := Lib.hid hE
  have HCB := Lib.hid hcellb
  have HSM := Lib.hid hsm
  clear hl hE hb hcellb hsm
  go_enter Tryd.func19, Tryd.ntmps19
  go_upto_region 1 with (fail)
  have hk := Blk.new w 24 #[.int .i64 s, .int .i64 n, .bool e, .slice A l.length c]
  have b0 := (Below.refl w.heap.size w).alloc (Nat.le_refl _) (.cells #[.int .i64 s, .int .i64 n, .bool e, .slice A l.length c] 24)
  obtain ⟨w0, hw0⟩ : ∃ w0, w.alloc (.cells #[.int .i64 s, .int .i64 n, .bool e, .slice A l.length c] 24) = w0 := ⟨_, rfl⟩
  rw [hw0] at hk b0 ⊢
  clear hw0
  obtain ⟨g, hgq⟩ : ∃ gq, w.heap.size = gq := ⟨_, rfl⟩
  rw [hgq] at hk ⊢
  clear hgq
  have c0 := hk.cell 0
  have c1 := hk.cell 1
  have c2 := hk.cell 2
  have c3 := hk.cell 3
  go_wp2_with fail
  refine (rmayS_any s n e _ l w0 ((HL.out.below b0).more b0.size)).mono ?_
  rintro e1 w1 ⟨rfl, b1⟩
  replace hk := hk.ext b1
  replace b0 := b0.trans (b1.mono b0.size)
  clear c0 c1 c2 c3 b1
  have c3 := hk.cell 3
  cases hmy : Sm.mayB ⟨s, n, e, l⟩ with
  | false =>
    rw [hmy, Bool.false_and, Bool.false_and] at HW
    clear hmy
    go_wp2
    go_ret
    exact ⟨by rw [HW.out]; rfl, b0⟩
  | true =>
    rw [hmy, Bool.true_and] at HW
    clear hmy
    by_cases hlen : bl.length = l.length
    rotate_left
    · skip
      rw [show (bl.length == l.length) = false from beq_eq_false_iff_ne.2 hlen, Bool.false_and] at HW
      have hlz : ((bl.length : Int) != (l.length : Int)) = true := bne_iff_ne.2 (by omega)
      clear hlen
      go_wp2
      go_ret
      exact ⟨by rw [HW.out]; rfl, b0⟩
    rw [show (bl.length == l.length) = true from beq_iff_eq.2 hlen, Bool.true_and] at HW
    have hlz : ((bl.length : Int) != (l.length : Int)) = false := by rw [bne_eq_false_iff_eq]; omega
    have HLEN := Lib.hid hlen
    clear hlen
    go_wp2
    clear hlz c3
    go_loopw [5] (fun i wr => ∃ k : Nat, k ≤ bl.length ∧ i = .int .i64 k ∧ Hid (allW bl (idx l k) = true) ∧ Below w1.heap.size w1 wr) (fun i _ => bl.length - (intOf i).toNat)
    case atStart => exact ⟨0, Nat.zero_le _, rfl, Lib.hid rfl, Below.refl _ _⟩
    case round =>
      obtain ⟨k, hk9, rfl, hall, hbr⟩ := hrel
      have hkr := hk.ext hbr
      have hbw := b0.trans (hbr.mono b0.size)
      by_cases hlt : k < bl.length
      · have hltl : k < l.length := by have := HLEN.out; omega
        obtain ⟨b, off, rfl, hbB, h0, h1, h2, h3⟩ := (HE.out.below hbw) k hltl
        obtain ⟨sb, so, rfl, hsb, hsc⟩ := HCB.out k hlt
        have hsl : (bl.getD k []).length ≤ 1000000 := HSM.out _ (by rw [List.getD_eq_getElem?_getD, List.getElem?_eq_getElem hlt]; exact List.getElem_mem hlt)
        have HO := Lib.hid (show okE bl (k, l[k]) = ((bl.getD k []).length == 128 && Crc.sum (bl.getD k []) == l[k].s) from rfl)
        have HN := Lib.hid (allW_all bl l k hltl)
        have HY := Lib.hid (fun h : okE bl (k, l[k]) = true => show allW bl (idx l (k + 1)) = true by rw [idx_step l k hltl, allW_snoc, hall.out, h]; rfl)
        clear h0 h1 h2 hall
        generalize l[k].s = ys at *
        generalize okE bl (k, l[k]) = ok at *
        generalize bl.getD k [] = bi at *
        have hsw : sb < wr.heap.size := Nat.lt_of_lt_of_le hsb hbw.size
        have hew : b < wr.heap.size := Nat.lt_of_lt_of_le hbB hbw.size
        replace hsc := (hbw.cell (p := ⟨sb, so + k, none⟩) hsb).trans hsc
        go_upto_region 6 with fail
        have hG0 : Below wr.heap.size wr wr.drew := (Below.refl _ _).drew
        by_cases h128 : bi.length = 128
        · cases hbe : (Crc.sum bi == ys) with
          | true =>
            have hz : ((bi.length : Int) != 128) = false := by rw [bne_eq_false_iff_eq]; omega
            rw [show (bi.length == 128) = true from beq_iff_eq.2 h128, hbe, Bool.true_and] at HO
            have H := Lib.hid (HY.out HO.out)
            have HBE := Lib.hid (show (((Crc.sum bi : Nat) : Int) != (ys : Int)) = false by
              rw [bne_eq_false_iff_eq]; have := beq_iff_eq.1 hbe; omega)
            clear HN HY hbe h128
            refine wp_region_list 20 [(fun y_ _ => y_ = .slice (some ⟨sb, so, none⟩) bl.length cb),
              (fun y_ _ => y_ = .int .i64 ((k : Nat) : Int)),
              (fun y_ _ => y_ = .pointer (some ⟨sb, so + k, none⟩)),
              (fun y_ _ => y_ = .string ⟨bi.toArray⟩),
              (fun y_ _ => y_ = .int .i64 ((bi.length : Nat) : Int)),
              (fun y_ _ => y_ = .bool false),
              (fun y_ _ => y_ = .bool false),
              (fun y_ _ => y_ = .slice (some ⟨sb, so, none⟩) bl.length cb),
              (fun y_ _ => y_ = .int .i64 ((k : Nat) : Int)),
              (fun y_ _ => y_ = .pointer (some ⟨sb, so + k, none⟩)),
              (fun y_ _ => y_ = .string ⟨bi.toArray⟩),
              (fun y_ _ => y_ = .int .u32 ((Crc.sum bi : Nat) : Int)),
              (fun y_ _ => y_ = .pointer (some ⟨g, 3, none⟩)),
              (fun y_ _ => y_ = .slice (some ⟨b, off, none⟩) l.length c),
              (fun y_ _ => y_ = .int .i64 ((k : Nat) : Int)),
              (fun y_ _ => y_ = .pointer (some ⟨b, off + k * 4, none⟩)),
              (fun y_ _ => y_ = .pointer (some ⟨b, off + k * 4 + 3, none⟩)),
              (fun y_ _ => y_ = .int .u32 (ys : Int)),
              (fun y_ _ => y_ = .bool false),
              (fun y_ _ => y_ = .bool false)]
              (fun q => Below wr.heap.size wr q) (by kernel_rfl) rfl (by kernel_rfl) ?_ ?_ ?_ ?_
            · exact hG0
            · exact ⟨stab_eq _, stab_eq _, stab_eq _, stab_eq _, stab_eq _, stab_eq _, stab_eq _, stab_eq _, stab_eq _, stab_eq _, stab_eq _, stab_eq _, stab_eq _, stab_eq _, stab_eq _, stab_eq _, stab_eq _, stab_eq _, stab_eq _, stab_eq _, trivial⟩
            · refine ⟨?_, ?_, ?_, ?_, ?_, ?_, ?_, ?_, ?_, ?_, ?_, ?_, ?_, ?_, ?_, ?_, ?_, ?_, ?_, ?_, trivial⟩
              · intro a x hG hd hs K hK
                have h1 : a.tmps.getD 1 undef = .slice (some ⟨sb, so, none⟩) bl.length cb := hs 1 (by kernel_rfl)
                clear hd hs
                refine wpOp_plain rfl rfl ?_
                go_simp
                exact hK _ _ rfl hG (Below.refl _ _)
              · intro a x hG hd hs K hK
                have h5 : a.tmps.getD 5 undef = .int .i64 ((k : Nat) : Int) := hs 5 (by kernel_rfl)
                clear hd hs
                refine wpOp_plain rfl rfl ?_
                go_simp
                exact hK _ _ rfl hG (Below.refl _ _)
              · intro a x hG hd hs K hK
                have h23 : a.tmps.getD 23 undef = .slice (some ⟨sb, so, none⟩) bl.length cb := hd 0 23 (by kernel_rfl)
                have h24 : a.tmps.getD 24 undef = .int .i64 ((k : Nat) : Int) := hd 1 24 (by kernel_rfl)
                clear hd hs
                refine wpOp_plain rfl rfl ?_
                go_simp
                exact hK _ _ rfl hG (Below.refl _ _)
              · intro a x hG hd hs K hK
                have h25 : a.tmps.getD 25 undef = .pointer (some ⟨sb, so + k, none⟩) := hd 2 25 (by kernel_rfl)
                clear hd hs
                refine wpOp_plain rfl rfl ?_
                have hc := (hG.cell (p := ⟨sb, so + k, none⟩) hsw).trans hsc
                go_simp
                exact hK _ _ rfl hG (Below.refl _ _)
              · intro a x hG hd hs K hK
                have h26 : a.tmps.getD 26 undef = .string ⟨bi.toArray⟩ := hd 3 26 (by kernel_rfl)
                clear hd hs
                refine wpOp_plain rfl rfl ?_
                go_simp
                exact hK _ _ rfl hG (Below.refl _ _)
              · intro a x hG hd hs K hK
                have h27 : a.tmps.getD 27 undef = .int .i64 ((bi.length : Nat) : Int) := hd 4 27 (by kernel_rfl)
                clear hd hs
                refine wpOp_plain rfl rfl ?_
                go_simp
                exact hK _ _ rfl hG (Below.refl _ _)
              · intro a x hG hd hs K hK
                have h28 : a.tmps.getD 28 undef = .bool false := hd 5 28 (by kernel_rfl)
                clear hd hs
                refine wpOp_plain rfl rfl ?_
                go_simp
                exact hK _ _ rfl hG (Below.refl _ _)
              · intro a x hG hd hs K hK
                have h1 : a.tmps.getD 1 undef = .slice (some ⟨sb, so, none⟩) bl.length cb := hs 1 (by kernel_rfl)
                have h29 : a.tmps.getD 29 undef = .bool false := hd 6 29 (by kernel_rfl)
                clear hd hs
                refine wpOp_yes rfl rfl rfl h29 ?_
                go_simp
                exact hK _ _ rfl hG (Below.refl _ _)
              · intro a x hG hd hs K hK
                have h5 : a.tmps.getD 5 undef = .int .i64 ((k : Nat) : Int) := hs 5 (by kernel_rfl)
                have h29 : a.tmps.getD 29 undef = .bool false := hd 6 29 (by kernel_rfl)
                clear hd hs
                refine wpOp_yes rfl rfl rfl h29 ?_
                go_simp
                exact hK _ _ rfl hG (Below.refl _ _)
              · intro a x hG hd hs K hK
                have h30 : a.tmps.getD 30 undef = .slice (some ⟨sb, so, none⟩) bl.length cb := hd 7 30 (by kernel_rfl)
                have h31 : a.tmps.getD 31 undef = .int .i64 ((k : Nat) : Int) := hd 8 31 (by kernel_rfl)
                have h29 : a.tmps.getD 29 undef = .bool false := hd 6 29 (by kernel_rfl)
                clear hd hs
                refine wpOp_yes rfl rfl rfl h29 ?_
                go_simp
                exact hK _ _ rfl hG (Below.refl _ _)
              · intro a x hG hd hs K hK
                have h32 : a.tmps.getD 32 undef = .pointer (some ⟨sb, so + k, none⟩) := hd 9 32 (by kernel_rfl)
                have h29 : a.tmps.getD 29 undef = .bool false := hd 6 29 (by kernel_rfl)
                clear hd hs
                refine wpOp_yes rfl rfl rfl h29 ?_
                have hc := (hG.cell (p := ⟨sb, so + k, none⟩) hsw).trans hsc
                go_simp
                exact hK _ _ rfl hG (Below.refl _ _)
              · intro a x hG hd hs K hK
                have h33 : a.tmps.getD 33 undef = .string ⟨bi.toArray⟩ := hd 10 33 (by kernel_rfl)
                have h29 : a.tmps.getD 29 undef = .bool false := hd 6 29 (by kernel_rfl)
                clear hd hs
                refine wpOp_yes rfl rfl rfl h29 ?_
                go_simp
                refine (rsum_any _ bi (by omega)).mono ?_
                rintro e w' ⟨rfl, rfl⟩
                exact hK _ _ rfl hG (Below.refl _ _)
              · intro a x hG hd hs K hK
                have h2 : a.tmps.getD 2 undef = .pointer (some ⟨g, 0, none⟩) := hs 2 (by kernel_rfl)
                have h29 : a.tmps.getD 29 undef = .bool false := hd 6 29 (by kernel_rfl)
                clear hd hs
                refine wpOp_yes rfl rfl rfl h29 ?_
                go_simp
                exact hK _ _ rfl hG (Below.refl _ _)
              · intro a x hG hd hs K hK
                have h35 : a.tmps.getD 35 undef = .pointer (some ⟨g, 3, none⟩) := hd 12 35 (by kernel_rfl)
                have h29 : a.tmps.getD 29 undef = .bool false := hd 6 29 (by kernel_rfl)
                clear hd hs
                refine wpOp_yes rfl rfl rfl h29 ?_
                have hc : x.cell? ⟨g, 3, none⟩ = some (.slice (some ⟨b, off, none⟩) l.length c) := (hkr.ext hG).cell 3
                go_simp
                exact hK _ _ rfl hG (Below.refl _ _)
              · intro a x hG hd hs K hK
                have h5 : a.tmps.getD 5 undef = .int .i64 ((k : Nat) : Int) := hs 5 (by kernel_rfl)
                have h29 : a.tmps.getD 29 undef = .bool false := hd 6 29 (by kernel_rfl)
                clear hd hs
                refine wpOp_yes rfl rfl rfl h29 ?_
                go_simp
                exact hK _ _ rfl hG (Below.refl _ _)
              · intro a x hG hd hs K hK
                have h36 : a.tmps.getD 36 undef = .slice (some ⟨b, off, none⟩) l.length c := hd 13 36 (by kernel_rfl)
                have h37 : a.tmps.getD 37 undef = .int .i64 ((k : Nat) : Int) := hd 14 37 (by kernel_rfl)
                have h29 : a.tmps.getD 29 undef = .bool false := hd 6 29 (by kernel_rfl)
                clear hd hs
                refine wpOp_yes rfl rfl rfl h29 ?_
                go_simp
                exact hK _ _ rfl hG (Below.refl _ _)
              · intro a x hG hd hs K hK
                have h38 : a.tmps.getD 38 undef = .pointer (some ⟨b, off + k * 4, none⟩) := hd 15 38 (by kernel_rfl)
                have h29 : a.tmps.getD 29 undef = .bool false := hd 6 29 (by kernel_rfl)
                clear hd hs
                refine wpOp_yes rfl rfl rfl h29 ?_
                go_simp
                exact hK _ _ rfl hG (Below.refl _ _)
              · intro a x hG hd hs K hK
                have h39 : a.tmps.getD 39 undef = .pointer (some ⟨b, off + k * 4 + 3, none⟩) := hd 16 39 (by kernel_rfl)
                have h29 : a.tmps.getD 29 undef = .bool false := hd 6 29 (by kernel_rfl)
                clear hd hs
                refine wpOp_yes rfl rfl rfl h29 ?_
                have hc := (hG.cell (p := ⟨b, off + k * 4 + 3, none⟩) hew).trans h3
                go_simp
                exact hK _ _ rfl hG (Below.refl _ _)
              · intro a x hG hd hs K hK
                have h34 : a.tmps.getD 34 undef = .int .u32 ((Crc.sum bi : Nat) : Int) := hd 11 34 (by kernel_rfl)
                have h40 : a.tmps.getD 40 undef = .int .u32 (ys : Int) := hd 17 40 (by kernel_rfl)
                have h29 : a.tmps.getD 29 undef = .bool false := hd 6 29 (by kernel_rfl)
                clear hd hs
                refine wpOp_yes rfl rfl rfl h29 ?_
                have hbe := HBE.out
                go_simp
                exact hK _ _ rfl hG (Below.refl _ _)
              · intro a x hG hd hs K hK
                have h29 : a.tmps.getD 29 undef = .bool false := hd 6 29 (by kernel_rfl)
                have h41 : a.tmps.getD 41 undef = .bool false := hd 18 41 (by kernel_rfl)
                clear hd hs
                refine wpOp_plain rfl rfl ?_
                go_simp
                exact hK _ _ rfl hG (Below.refl _ _)
            · intro x hG
              rintro _ rfl _ rfl _ rfl _ rfl _ rfl _ rfl _ rfl _ rfl _ rfl _ rfl _ rfl _ rfl _ rfl _ rfl _ rfl _ rfl _ rfl _ rfl _ rfl _ rfl
              simp only [Act.put, List.setIfInBounds_toArray, List.set_cons_zero, List.set_cons_succ, REnd]
              try simp only [Exit.then]
              have hb9 := hbr.trans (hG.mono hbr.size)
              go_wp2
              go_roundw
              case rel => exact ⟨k + 1, by omega, by go_num, Lib.hid H.out, hb9⟩
              case measure => simp [intOf]; omega
          | false =>
            have hz : ((bi.length : Int) != 128) = false := by rw [bne_eq_false_iff_eq]; omega
            rw [show (bi.length == 128) = true from beq_iff_eq.2 h128, hbe, Bool.true_and] at HO
            have H := Lib.hid (HN.out HO.out)
            have HBE := Lib.hid (show (((Crc.sum bi : Nat) : Int) != (ys : Int)) = true by
              rw [bne_iff_ne]; have := beq_eq_false_iff_ne.1 hbe; omega)
            clear HN HY hbe h128
            refine wp_region_list 20 [(fun y_ _ => y_ = .slice (some ⟨sb, so, none⟩) bl.length cb),
              (fun y_ _ => y_ = .int .i64 ((k : Nat) : Int)),
              (fun y_ _ => y_ = .pointer (some ⟨sb, so + k, none⟩)),
              (fun y_ _ => y_ = .string ⟨bi.toArray⟩),
              (fun y_ _ => y_ = .int .i64 ((bi.length : Nat) : Int)),
              (fun y_ _ => y_ = .bool false),
              (fun y_ _ => y_ = .bool false),
              (fun y_ _ => y_ = .slice (some ⟨sb, so, none⟩) bl.length cb),
              (fun y_ _ => y_ = .int .i64 ((k : Nat) : Int)),
              (fun y_ _ => y_ = .pointer (some ⟨sb, so + k, none⟩)),
              (fun y_ _ => y_ = .string ⟨bi.toArray⟩),
              (fun y_ _ => y_ = .int .u32 ((Crc.sum bi : Nat) : Int)),
              (fun y_ _ => y_ = .pointer (some ⟨g, 3, none⟩)),
              (fun y_ _ => y_ = .slice (some ⟨b, off, none⟩) l.length c),
              (fun y_ _ => y_ = .int .i64 ((k : Nat) : Int)),
              (fun y_ _ => y_ = .pointer (some ⟨b, off + k * 4, none⟩)),
              (fun y_ _ => y_ = .pointer (some ⟨b, off + k * 4 + 3, none⟩)),
              (fun y_ _ => y_ = .int .u32 (ys : Int)),
              (fun y_ _ => y_ = .bool true),
              (fun y_ _ => y_ = .bool true)]
              (fun q => Below wr.heap.size wr q) (by kernel_rfl) rfl (by kernel_rfl) ?_ ?_ ?_ ?_
            · exact hG0
            · exact ⟨stab_eq _, stab_eq _, stab_eq _, stab_eq _, stab_eq _, stab_eq _, stab_eq _, stab_eq _, stab_eq _, stab_eq _, stab_eq _, stab_eq _, stab_eq _, stab_eq _, stab_eq _, stab_eq _, stab_eq _, stab_eq _, stab_eq _, stab_eq _, trivial⟩
            · refine ⟨?_, ?_, ?_, ?_, ?_, ?_, ?_, ?_, ?_, ?_, ?_, ?_, ?_, ?_, ?_, ?_, ?_, ?_, ?_, ?_, trivial⟩
              · intro a x hG hd hs K hK
                have h1 : a.tmps.getD 1 undef = .slice (some ⟨sb, so, none⟩) bl.length cb := hs 1 (by kernel_rfl)
                clear hd hs
                refine wpOp_plain rfl rfl ?_
                go_simp
                exact hK _ _ rfl hG (Below.refl _ _)
              · intro a x hG hd hs K hK
                have h5 : a.tmps.getD 5 undef = .int .i64 ((k : Nat) : Int) := hs 5 (by kernel_rfl)
                clear hd hs
                refine wpOp_plain rfl rfl ?_
                go_simp
                exact hK _ _ rfl hG (Below.refl _ _)
              · intro a x hG hd hs K hK
                have h23 : a.tmps.getD 23 undef = .slice (some ⟨sb, so, none⟩) bl.length cb := hd 0 23 (by kernel_rfl)
                have h24 : a.tmps.getD 24 undef = .int .i64 ((k : Nat) : Int) := hd 1 24 (by kernel_rfl)
                clear hd hs
                refine wpOp_plain rfl rfl ?_
                go_simp
                exact hK _ _ rfl hG (Below.refl _ _)
              · intro a x hG hd hs K hK
                have h25 : a.tmps.getD 25 undef = .pointer (some ⟨sb, so + k, none⟩) := hd 2 25 (by kernel_rfl)
                clear hd hs
                refine wpOp_plain rfl rfl ?_
                have hc := (hG.cell (p := ⟨sb, so + k, none⟩) hsw).trans hsc
                go_simp
                exact hK _ _ rfl hG (Below.refl _ _)
              · intro a x hG hd hs K hK
                have h26 : a.tmps.getD 26 undef = .string ⟨bi.toArray⟩ := hd 3 26 (by kernel_rfl)
                clear hd hs
                refine wpOp_plain rfl rfl ?_
                go_simp
                exact hK _ _ rfl hG (Below.refl _ _)
              · intro a x hG hd hs K hK
                have h27 : a.tmps.getD 27 undef = .int .i64 ((bi.length : Nat) : Int) := hd 4 27 (by kernel_rfl)
                clear hd hs
                refine wpOp_plain rfl rfl ?_
                go_simp
                exact hK _ _ rfl hG (Below.refl _ _)
              · intro a x hG hd hs K hK
                have h28 : a.tmps.getD 28 undef = .bool false := hd 5 28 (by kernel_rfl)
                clear hd hs
                refine wpOp_plain rfl rfl ?_
                go_simp
                exact hK _ _ rfl hG (Below.refl _ _)
              · intro a x hG hd hs K hK
                have h1 : a.tmps.getD 1 undef = .slice (some ⟨sb, so, none⟩) bl.length cb := hs 1 (by kernel_rfl)
                have h29 : a.tmps.getD 29 undef = .bool false := hd 6 29 (by kernel_rfl)
                clear hd hs
                refine wpOp_yes rfl rfl rfl h29 ?_
                go_simp
                exact hK _ _ rfl hG (Below.refl _ _)
              · intro a x hG hd hs K hK
                have h5 : a.tmps.getD 5 undef = .int .i64 ((k : Nat) : Int) := hs 5 (by kernel_rfl)
                have h29 : a.tmps.getD 29 undef = .bool false := hd 6 29 (by kernel_rfl)
                clear hd hs
                refine wpOp_yes rfl rfl rfl h29 ?_
                go_simp
                exact hK _ _ rfl hG (Below.refl _ _)
              · intro a x hG hd hs K hK
                have h30 : a.tmps.getD 30 undef = .slice (some ⟨sb, so, none⟩) bl.length cb := hd 7 30 (by kernel_rfl)
                have h31 : a.tmps.getD 31 undef = .int .i64 ((k : Nat) : Int) := hd 8 31 (by kernel_rfl)
                have h29 : a.tmps.getD 29 undef = .bool false := hd 6 29 (by kernel_rfl)
                clear hd hs
                refine wpOp_yes rfl rfl rfl h29 ?_
                go_simp
                exact hK _ _ rfl hG (Below.refl _ _)
              · intro a x hG hd hs K hK
                have h32 : a.tmps.getD 32 undef = .pointer (some ⟨sb, so + k, none⟩) := hd 9 32 (by kernel_rfl)
                have h29 : a.tmps.getD 29 undef = .bool false := hd 6 29 (by kernel_rfl)
                clear hd hs
                refine wpOp_yes rfl rfl rfl h29 ?_
                have hc := (hG.cell (p := ⟨sb, so + k, none⟩) hsw).trans hsc
                go_simp
                exact hK _ _ rfl hG (Below.refl _ _)
              · intro a x hG hd hs K hK
                have h33 : a.tmps.getD 33 undef = .string ⟨bi.toArray⟩ := hd 10 33 (by kernel_rfl)
                have h29 : a.tmps.getD 29 undef = .bool false := hd 6 29 (by kernel_rfl)
                clear hd hs
                refine wpOp_yes rfl rfl rfl h29 ?_
                go_simp
                refine (rsum_any _ bi (by omega)).mono ?_
                rintro e w' ⟨rfl, rfl⟩
                exact hK _ _ rfl hG (Below.refl _ _)
              · intro a x hG hd hs K hK
                have h2 : a.tmps.getD 2 undef = .pointer (some ⟨g, 0, none⟩) := hs 2 (by kernel_rfl)
                have h29 : a.tmps.getD 29 undef = .bool false := hd 6 29 (by kernel_rfl)
                clear hd hs
                refine wpOp_yes rfl rfl rfl h29 ?_
                go_simp
                exact hK _ _ rfl hG (Below.refl _ _)
              · intro a x hG hd hs K hK
                have h35 : a.tmps.getD 35 undef = .pointer (some ⟨g, 3, none⟩) := hd 12 35 (by kernel_rfl)
                have h29 : a.tmps.getD 29 undef = .bool false := hd 6 29 (by kernel_rfl)
                clear hd hs
                refine wpOp_yes rfl rfl rfl h29 ?_
                have hc : x.cell? ⟨g, 3, none⟩ = some (.slice (some ⟨b, off, none⟩) l.length c) := (hkr.ext hG).cell 3
                go_simp
                exact hK _ _ rfl hG (Below.refl _ _)
              · intro a x hG hd hs K hK
                have h5 : a.tmps.getD 5 undef = .int .i64 ((k : Nat) : Int) := hs 5 (by kernel_rfl)
                have h29 : a.tmps.getD 29 undef = .bool false := hd 6 29 (by kernel_rfl)
                clear hd hs
                refine wpOp_yes rfl rfl rfl h29 ?_
                go_simp
                exact hK _ _ rfl hG (Below.refl _ _)
              · intro a x hG hd hs K hK
                have h36 : a.tmps.getD 36 undef = .slice (some ⟨b, off, none⟩) l.length c := hd 13 36 (by kernel_rfl)
                have h37 : a.tmps.getD 37 undef = .int .i64 ((k : Nat) : Int) := hd 14 37 (by kernel_rfl)
                have h29 : a.tmps.getD 29 undef = .bool false := hd 6 29 (by kernel_rfl)
                clear hd hs
                refine wpOp_yes rfl rfl rfl h29 ?_
                go_simp
                exact hK _ _ rfl hG (Below.refl _ _)
              · intro a x hG hd hs K hK
                have h38 : a.tmps.getD 38 undef = .pointer (some ⟨b, off + k * 4, none⟩) := hd 15 38 (by kernel_rfl)
                have h29 : a.tmps.getD 29 undef = .bool false := hd 6 29 (by kernel_rfl)
                clear hd hs
                refine wpOp_yes rfl rfl rfl h29 ?_
                go_simp
                exact hK _ _ rfl hG (Below.refl _ _)
              · intro a x hG hd hs K hK
                have h39 : a.tmps.getD 39 undef = .pointer (some ⟨b, off + k * 4 + 3, none⟩) := hd 16 39 (by kernel_rfl)
                have h29 : a.tmps.getD 29 undef = .bool false := hd 6 29 (by kernel_rfl)
                clear hd hs
                refine wpOp_yes rfl rfl rfl h29 ?_
                have hc := (hG.cell (p := ⟨b, off + k * 4 + 3, none⟩) hew).trans h3
                go_simp
                exact hK _ _ rfl hG (Below.refl _ _)
              · intro a x hG hd hs K hK
                have h34 : a.tmps.getD 34 undef = .int .u32 ((Crc.sum bi : Nat) : Int) := hd 11 34 (by kernel_rfl)
                have h40 : a.tmps.getD 40 undef = .int .u32 (ys : Int) := hd 17 40 (by kernel_rfl)
                have h29 : a.tmps.getD 29 undef = .bool false := hd 6 29 (by kernel_rfl)
                clear hd hs
                refine wpOp_yes rfl rfl rfl h29 ?_
                have hbe := HBE.out
                go_simp
                exact hK _ _ rfl hG (Below.refl _ _)
              · intro a x hG hd hs K hK
                have h29 : a.tmps.getD 29 undef = .bool false := hd 6 29 (by kernel_rfl)
                have h41 : a.tmps.getD 41 undef = .bool true := hd 18 41 (by kernel_rfl)
                clear hd hs
                refine wpOp_plain rfl rfl ?_
                go_simp
                exact hK _ _ rfl hG (Below.refl _ _)
            · intro x hG
              rintro _ rfl _ rfl _ rfl _ rfl _ rfl _ rfl _ rfl _ rfl _ rfl _ rfl _ rfl _ rfl _ rfl _ rfl _ rfl _ rfl _ rfl _ rfl _ rfl _ rfl
              simp only [Act.put, List.setIfInBounds_toArray, List.set_cons_zero, List.set_cons_succ, REnd]
              try simp only [Exit.then]
              have hb8 := hbw.trans (hG.mono hbw.size)
              go_wp2
              go_ret
              exact ⟨by rw [HW.out, H.out]; rfl, hb8⟩
        · have hz : ((bi.length : Int) != 128) = true := bne_iff_ne.2 (by omega)
          rw [show (bi.length == 128) = false from beq_eq_false_iff_ne.2 h128, Bool.false_and] at HO
          have H := Lib.hid (HN.out HO.out)
          clear HN HY h128
          refine wp_region_list 20 [(fun y_ _ => y_ = .slice (some ⟨sb, so, none⟩) bl.length cb),
            (fun y_ _ => y_ = .int .i64 ((k : Nat) : Int)),
            (fun y_ _ => y_ = .pointer (some ⟨sb, so + k, none⟩)),
            (fun y_ _ => y_ = .string ⟨bi.toArray⟩),
            (fun y_ _ => y_ = .int .i64 ((bi.length : Nat) : Int)),
            (fun y_ _ => y_ = .bool true),
            (fun y_ _ => y_ = .bool true),
            (fun y_ _ => y_ = undef),
            (fun y_ _ => y_ = undef),
            (fun y_ _ => y_ = undef),
            (fun y_ _ => y_ = undef),
            (fun y_ _ => y_ = undef),
            (fun y_ _ => y_ = undef),
            (fun y_ _ => y_ = undef),
            (fun y_ _ => y_ = undef),
            (fun y_ _ => y_ = undef),
            (fun y_ _ => y_ = undef),
            (fun y_ _ => y_ = undef),
            (fun y_ _ => y_ = undef),
            (fun y_ _ => y_ = .bool true)]
            (fun q => Below wr.heap.size wr q) (by kernel_rfl) rfl (by kernel_rfl) ?_ ?_ ?_ ?_
          · exact hG0
          · exact ⟨stab_eq _, stab_eq _, stab_eq _, stab_eq _, stab_eq _, stab_eq _, stab_eq _, stab_eq _, stab_eq _, stab_eq _, stab_eq _, stab_eq _, stab_eq _, stab_eq _, stab_eq _, stab_eq _, stab_eq _, stab_eq _, stab_eq _, stab_eq _, trivial⟩
          · refine ⟨?_, ?_, ?_, ?_, ?_, ?_, ?_, ?_, ?_, ?_, ?_, ?_, ?_, ?_, ?_, ?_, ?_, ?_, ?_, ?_, trivial⟩
            · intro a x hG hd hs K hK
              have h1 : a.tmps.getD 1 undef = .slice (some ⟨sb, so, none⟩) bl.length cb := hs 1 (by kernel_rfl)
              clear hd hs
              refine wpOp_plain rfl rfl ?_
              go_simp
              exact hK _ _ rfl hG (Below.refl _ _)
            · intro a x hG hd hs K hK
              have h5 : a.tmps.getD 5 undef = .int .i64 ((k : Nat) : Int) := hs 5 (by kernel_rfl)
              clear hd hs
              refine wpOp_plain rfl rfl ?_
              go_simp
              exact hK _ _ rfl hG (Below.refl _ _)
            · intro a x hG hd hs K hK
              have h23 : a.tmps.getD 23 undef = .slice (some ⟨sb, so, none⟩) bl.length cb := hd 0 23 (by kernel_rfl)
              have h24 : a.tmps.getD 24 undef = .int .i64 ((k : Nat) : Int) := hd 1 24 (by kernel_rfl)
              clear hd hs
              refine wpOp_plain rfl rfl ?_
              go_simp
              exact hK _ _ rfl hG (Below.refl _ _)
            · intro a x hG hd hs K hK
              have h25 : a.tmps.getD 25 undef = .pointer (some ⟨sb, so + k, none⟩) := hd 2 25 (by kernel_rfl)
              clear hd hs
              refine wpOp_plain rfl rfl ?_
              have hc := (hG.cell (p := ⟨sb, so + k, none⟩) hsw).trans hsc
              go_simp
              exact hK _ _ rfl hG (Below.refl _ _)
            · intro a x hG hd hs K hK
              have h26 : a.tmps.getD 26 undef = .string ⟨bi.toArray⟩ := hd 3 26 (by kernel_rfl)
              clear hd hs
              refine wpOp_plain rfl rfl ?_
              go_simp
              exact hK _ _ rfl hG (Below.refl _ _)
            · intro a x hG hd hs K hK
              have h27 : a.tmps.getD 27 undef = .int .i64 ((bi.length : Nat) : Int) := hd 4 27 (by kernel_rfl)
              clear hd hs
              refine wpOp_plain rfl rfl ?_
              go_simp
              exact hK _ _ rfl hG (Below.refl _ _)
            · intro a x hG hd hs K hK
              have h28 : a.tmps.getD 28 undef = .bool true := hd 5 28 (by kernel_rfl)
              clear hd hs
              refine wpOp_plain rfl rfl ?_
              go_simp
              exact hK _ _ rfl hG (Below.refl _ _)
            · intro a x hG hd hs K hK
              have h1 : a.tmps.getD 1 undef = .slice (some ⟨sb, so, none⟩) bl.length cb := hs 1 (by kernel_rfl)
              have h29 : a.tmps.getD 29 undef = .bool true := hd 6 29 (by kernel_rfl)
              clear hd hs
              refine wpOp_no rfl rfl rfl h29 ?_
              exact hK _ _ rfl hG (Below.refl _ _)
            · intro a x hG hd hs K hK
              have h5 : a.tmps.getD 5 undef = .int .i64 ((k : Nat) : Int) := hs 5 (by kernel_rfl)
              have h29 : a.tmps.getD 29 undef = .bool true := hd 6 29 (by kernel_rfl)
              clear hd hs
              refine wpOp_no rfl rfl rfl h29 ?_
              exact hK _ _ rfl hG (Below.refl _ _)
            · intro a x hG hd hs K hK
              have h30 : a.tmps.getD 30 undef = undef := hd 7 30 (by kernel_rfl)
              have h31 : a.tmps.getD 31 undef = undef := hd 8 31 (by kernel_rfl)
              have h29 : a.tmps.getD 29 undef = .bool true := hd 6 29 (by kernel_rfl)
              clear hd hs
              refine wpOp_no rfl rfl rfl h29 ?_
              exact hK _ _ rfl hG (Below.refl _ _)
            · intro a x hG hd hs K hK
              have h32 : a.tmps.getD 32 undef = undef := hd 9 32 (by kernel_rfl)
              have h29 : a.tmps.getD 29 undef = .bool true := hd 6 29 (by kernel_rfl)
              clear hd hs
              refine wpOp_no rfl rfl rfl h29 ?_
              exact hK _ _ rfl hG (Below.refl _ _)
            · intro a x hG hd hs K hK
              have h33 : a.tmps.getD 33 undef = undef := hd 10 33 (by kernel_rfl)
              have h29 : a.tmps.getD 29 undef = .bool true := hd 6 29 (by kernel_rfl)
              clear hd hs
              refine wpOp_no rfl rfl rfl h29 ?_
              exact hK _ _ rfl hG (Below.refl _ _)
            · intro a x hG hd hs K hK
              have h2 : a.tmps.getD 2 undef = .pointer (some ⟨g, 0, none⟩) := hs 2 (by kernel_rfl)
              have h29 : a.tmps.getD 29 undef = .bool true := hd 6 29 (by kernel_rfl)
              clear hd hs
              refine wpOp_no rfl rfl rfl h29 ?_
              exact hK _ _ rfl hG (Below.refl _ _)
            · intro a x hG hd hs K hK
              have h35 : a.tmps.getD 35 undef = undef := hd 12 35 (by kernel_rfl)
              have h29 : a.tmps.getD 29 undef = .bool true := hd 6 29 (by kernel_rfl)
              clear hd hs
              refine wpOp_no rfl rfl rfl h29 ?_
              exact hK _ _ rfl hG (Below.refl _ _)
            · intro a x hG hd hs K hK
              have h5 : a.tmps.getD 5 undef = .int .i64 ((k : Nat) : Int) := hs 5 (by kernel_rfl)
              have h29 : a.tmps.getD 29 undef = .bool true := hd 6 29 (by kernel_rfl)
              clear hd hs
              refine wpOp_no rfl rfl rfl h29 ?_
              exact hK _ _ rfl hG (Below.refl _ _)
            · intro a x hG hd hs K hK
              have h36 : a.tmps.getD 36 undef = undef := hd 13 36 (by kernel_rfl)
              have h37 : a.tmps.getD 37 undef = undef := hd 14 37 (by kernel_rfl)
              have h29 : a.tmps.getD 29 undef = .bool true := hd 6 29 (by kernel_rfl)
              clear hd hs
              refine wpOp_no rfl rfl rfl h29 ?_
              exact hK _ _ rfl hG (Below.refl _ _)
            · intro a x hG hd hs K hK
              have h38 : a.tmps.getD 38 undef = undef := hd 15 38 (by kernel_rfl)
              have h29 : a.tmps.getD 29 undef = .bool true := hd 6 29 (by kernel_rfl)
              clear hd hs
              refine wpOp_no rfl rfl rfl h29 ?_
              exact hK _ _ rfl hG (Below.refl _ _)
            · intro a x hG hd hs K hK
              have h39 : a.tmps.getD 39 undef = undef := hd 16 39 (by kernel_rfl)
              have h29 : a.tmps.getD 29 undef = .bool true := hd 6 29 (by kernel_rfl)
              clear hd hs
              refine wpOp_no rfl rfl rfl h29 ?_
              exact hK _ _ rfl hG (Below.refl _ _)
            · intro a x hG hd hs K hK
              have h34 : a.tmps.getD 34 undef = undef := hd 11 34 (by kernel_rfl)
              have h40 : a.tmps.getD 40 undef = undef := hd 17 40 (by kernel_rfl)
              have h29 : a.tmps.getD 29 undef = .bool true := hd 6 29 (by kernel_rfl)
              clear hd hs
              refine wpOp_no rfl rfl rfl h29 ?_
              exact hK _ _ rfl hG (Below.refl _ _)
            · intro a x hG hd hs K hK
              have h29 : a.tmps.getD 29 undef = .bool true := hd 6 29 (by kernel_rfl)
              have h41 : a.tmps.getD 41 undef = undef := hd 18 41 (by kernel_rfl)
              clear hd hs
              refine wpOp_plain rfl rfl ?_
              go_simp
              exact hK _ _ rfl hG (Below.refl _ _)
          · intro x hG
            rintro _ rfl _ rfl _ rfl _ rfl _ rfl _ rfl _ rfl _ rfl _ rfl _ rfl _ rfl _ rfl _ rfl _ rfl _ rfl _ rfl _ rfl _ rfl _ rfl _ rfl
            simp only [Act.put, List.setIfInBounds_toArray, List.set_cons_zero, List.set_cons_succ, REnd]
            try simp only [Exit.then]
            have hb8 := hbw.trans (hG.mono hbw.size)
            go_wp2
            go_ret
            exact ⟨by rw [HW.out, H.out]; rfl, hb8⟩
      · obtain rfl : k = bl.length := by omega
        rw [HLEN.out] at hall
        go_wp2
        go_ret
        exact ⟨by rw [HW.out, hall.out]; rfl, hbw⟩
end Go.Proofs.YtieajlpkiheebaaDoor
