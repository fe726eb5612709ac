/-
  The walks of ckpt.Decode and Choose. By an AI agent.
-/
import Derived.Test.YtkkbmhlmgbepjaaDoorCkD
namespace Go.Proofs.YtkkbmhlmgbepjaaDoor
open Go.RowKit Go.ChangeShapes Go.WideShapes Go.ChangeAt

theorem Blk.varC {w : World} {arr : Array Value} {x : Ck.Ck} (h : arr.toList.length = 19) (hm : x.mp.length = 4) (hu : x.us.length = 8) : Blk ((w.alloc (.cells arr 28)).setCells w.heap.size 0 (ccells x)) w.heap.size 28 (ccells x) := by
  have := (Blk.new w 28 arr).setCells (ccells x) 0 (by rw [ccells_len x hm hu, h]; omega)
  rw [spl_all _ _ (by rw [ccells_len x hm hu, h])] at this
  exact this
theorem below_varC {w : World} {arr : Array Value} {x : Ck.Ck} : Below w.heap.size w ((w.alloc (.cells arr 28)).setCells w.heap.size 0 (ccells x)) :=
  below_setCells ((Below.refl _ _).alloc (Nat.le_refl _) _) (Nat.le_refl _) _ _
/-- What Decode leaves. -/
def dec (l : List UInt8) : Ck.Ck := if Ck.ckErr l = 0 then Ck.ckOf l else Ck.Ck.zero
def DecC (l : List UInt8) (w : World) (e : Ending) (w' : World) : Prop := e = .returned (.tuple #[cagg (dec l), .int .i64 (Ck.ckErr l : Nat)]) ∧ Below w.heap.size w w'
theorem DecC.no {l : List UInt8} {w w' : World} {n : Nat} {k : Int} (h : Ck.ckErr l = n) (hn : n ≠ 0) (hk : k = (n : Int)) (b : Below w.heap.size w w') : DecC l w (.returned (.tuple #[cagg Ck.Ck.zero, .int .i64 k])) w' := by
  unfold DecC dec
  rw [h, if_neg hn, hk]
  exact ⟨rfl, b⟩
theorem DecC.yes {l : List UInt8} {w w' : World} (h : Ck.ckErr l = 0) (b : Below w.heap.size w w') : DecC l w (.returned (.tuple #[cagg (Ck.ckOf l), .int .i64 0])) w' := by
  unfold DecC dec
  rw [h, if_pos rfl]
  exact ⟨rfl, b⟩
theorem dec_len (l : List UInt8) : (dec l).mp.length = 4 ∧ (dec l).us.length = 8 := by
  unfold dec
  split
  · exact ⟨(Ck.good_of l).1, (Ck.good_of l).2.1⟩
  · exact ⟨rfl, rfl⟩
set_option maxRecDepth 100000 in
set_option maxHeartbeats 4000000 in
theorem decodeC_any (w : World) (v : Value) (l : List UInt8) (hH : Halves w) (h : Bs w w.heap.size v l) :
    Calls Tryd.prog 8 #[v] w (DecC l w) := by
  have HB := Lib.hid h
  clear h
  go_enter Tryd.func8, Tryd.ntmps8
  go_upto_region 1 with (fail)
  generalize hW : w.alloc (.cells _ 28) = W0
  have hk0 : Blk W0 w.heap.size 28 (ccells Ck.Ck.zero) := by rw [← hW]; exact Blk.new w _ _
  have b0 : Below w.heap.size w W0 := by rw [← hW]; exact (Below.refl _ _).alloc (Nat.le_refl _) _
  clear hW
  obtain ⟨g0, hg0⟩ : ∃ g0, g0 = w.heap.size := ⟨_, rfl⟩
  rw [← hg0] at hk0 ⊢
  have hg1 : w.heap.size ≤ g0 := by omega
  have hg2 : g0 ≤ w.heap.size := by omega
  clear hg0
  go_wp2_with fail
  refine (held_any _ _ _ l (hH.ext b0) (HB.out.ext (Nat.le_refl _) b0) b0.size).mono ?_
  rintro e w1 ⟨rfl, b1⟩
  have k1 := hk0.ext b1
  have c1 := b0.trans (b1.mono b0.size)
  clear hk0 b1 b0
  cases hh : Crc.held l with
  | false =>
    have HE := Lib.hid (show Ck.ckErr l = 5 by unfold Ck.ckErr; rw [hh]; rfl)
    clear hh
    go_wp2_with (refine wpList_store_mid rfl 28 (.tmp 2) (.tmp 9) rfl g0 0 (ccells Ck.Ck.zero).toArray rfl rfl (k1.there 0 19 (by rw [ccells_len _ rfl rfl]; omega)) (by kernel_rfl) (all_oneCell_toArray ccells_one) ?_)
    have hz := k1.setCells (ccells Ck.Ck.zero) 0 (by omega)
    rw [spl_all _ _ rfl] at hz
    have bz := below_setCells (o := 0) (vs := ccells Ck.Ck.zero) c1 hg1
    refine bodyPost_ret (v := .tuple #[cagg Ck.Ck.zero, .int .i64 5]) (res_cell2 (ccells Ck.Ck.zero) _ Tryd.results8 rfl hz.range Tryd.underlying28 rfl (infoC _ rfl rfl) rfl) rfl ?_
    exact DecC.no HE.out (by decide) rfl bz
  | true =>
    have hlen := Cd.held_len hh
    have HE := Lib.hid (show Ck.ckErr l = if Ck.rdB l && Ck.mayB (Ck.ckOf l) then 0 else 3 by unfold Ck.ckErr; rw [hh]; rfl)
    have HR := Lib.hid (fun W (b : Below w.heap.size w W) => readC_any W v l ((HB.out.ext (Nat.le_refl _) b).more b.size) hlen)
    clear hlen hh
    go_wp2_with fail
    refine (HR.out w1 c1).mono ?_
    rintro e w2 ⟨rfl, b2⟩
    have k2 := k1.ext b2
    have c2 := c1.trans (b2.mono c1.size)
    clear k1 c1 b2 HR
    cases hr : Ck.rdB l with
    | false =>
      rw [hr] at HE
      simp only [Bool.false_and, Bool.false_eq_true, if_false] at HE
      rw [if_neg (by decide)]
      clear hr
      have HLL := Lib.hid (show Ck.Ck.zero.mp.length = 4 ∧ Ck.Ck.zero.us.length = 8 from ⟨rfl, rfl⟩)
      unfold cagg
      go_upto_region 4 with (with_reducible refine wpList_store_new rfl 28 (.tmp 4) (.tmp 13) rfl (ccells Ck.Ck.zero) rfl rfl ?_ rfl (infoC _ HLL.out.1 HLL.out.2) ccells_one ?_)
      · rw [ccells_len _ HLL.out.1 HLL.out.2]; exact Nat.le_refl 19
      generalize hW : (w2.alloc (.cells _ 28)).setCells w2.heap.size 0 _ = w3
      have j3 : Blk w3 w2.heap.size 28 (ccells Ck.Ck.zero) := by rw [← hW]; exact Blk.varC rfl HLL.out.1 HLL.out.2
      have b3 : Below w2.heap.size w2 w3 := by rw [← hW]; exact below_varC
      clear hW
      have k3 := k2.ext b3
      have c3 := c2.trans (b3.mono c2.size)
      clear k2 c2 b3
      go_wp2_with (refine wpList_store_mid rfl 28 (.tmp 2) (.tmp 22) rfl g0 0 (ccells Ck.Ck.zero).toArray rfl rfl (k3.there 0 19 (by rw [ccells_len _ rfl rfl]; omega)) (by kernel_rfl) (all_oneCell_toArray ccells_one) ?_)
      have hz := k3.setCells (ccells Ck.Ck.zero) 0 (by omega)
      rw [spl_all _ _ rfl] at hz
      have bz := below_setCells (o := 0) (vs := ccells Ck.Ck.zero) c3 hg1
      refine bodyPost_ret (v := .tuple #[cagg Ck.Ck.zero, .int .i64 3]) (res_cell2 (ccells Ck.Ck.zero) _ Tryd.results8 rfl hz.range Tryd.underlying28 rfl (infoC _ rfl rfl) rfl) rfl ?_
      exact DecC.no HE.out (by decide) rfl bz
    | true =>
      rw [hr] at HE
      simp only [Bool.true_and] at HE
      rw [if_pos rfl]
      clear hr
      have HLL := Lib.hid (show (Ck.ckOf l).mp.length = 4 ∧ (Ck.ckOf l).us.length = 8 from ⟨(Ck.good_of l).1, (Ck.good_of l).2.1⟩)
      unfold cagg
      go_upto_region 4 with (with_reducible refine wpList_store_new rfl 28 (.tmp 4) (.tmp 13) rfl (ccells (Ck.ckOf l)) rfl rfl ?_ rfl (infoC _ HLL.out.1 HLL.out.2) ccells_one ?_)
      · rw [ccells_len _ HLL.out.1 HLL.out.2]; exact Nat.le_refl 19
      generalize hW : (w2.alloc (.cells _ 28)).setCells w2.heap.size 0 _ = w3
      have j3 : Blk w3 w2.heap.size 28 (ccells (Ck.ckOf l)) := by rw [← hW]; exact Blk.varC rfl HLL.out.1 HLL.out.2
      have b3 : Below w2.heap.size w2 w3 := by rw [← hW]; exact below_varC
      clear hW
      have k3 := k2.ext b3
      have c3 := c2.trans (b3.mono c2.size)
      clear k2 c2 b3
      generalize w2.heap.size = g4 at *
      have r3 := j3.range
      go_wp2_with (refine wpList_load_at 28 (.tmp 4) rfl rfl g4 0 rfl (ccells (Ck.ckOf l)) _ r3 Tryd.underlying28 rfl (infoC _ HLL.out.1 HLL.out.2) ?_)
      refine (mayC_any (Ck.ckOf l) _ HLL.out.1 HLL.out.2).mono ?_
      rintro e w5 ⟨rfl, b5⟩
      have k5 := k3.ext b5
      have j5 := j3.ext b5
      have c5 := c3.trans (b5.mono c3.size)
      clear k3 j3 c3 b5 r3
      cases hm : Ck.mayB (Ck.ckOf l) with
      | false =>
        rw [hm] at HE
        simp only [Bool.false_eq_true, if_false] at HE
        clear hm
        go_wp2_with (refine wpList_store_mid rfl 28 (.tmp 2) (.tmp 22) rfl g0 0 (ccells Ck.Ck.zero).toArray rfl rfl (k5.there 0 19 (by rw [ccells_len _ rfl rfl]; omega)) (by kernel_rfl) (all_oneCell_toArray ccells_one) ?_)
        have hz := k5.setCells (ccells Ck.Ck.zero) 0 (by omega)
        rw [spl_all _ _ rfl] at hz
        have bz := below_setCells (o := 0) (vs := ccells Ck.Ck.zero) c5 hg1
        refine bodyPost_ret (v := .tuple #[cagg Ck.Ck.zero, .int .i64 3]) (res_cell2 (ccells Ck.Ck.zero) _ Tryd.results8 rfl hz.range Tryd.underlying28 rfl (infoC _ rfl rfl) rfl) rfl ?_
        exact DecC.no HE.out (by decide) rfl bz
      | true =>
        rw [hm, if_pos rfl] at HE
        clear hm
        have HIN := Lib.hid (infoC (Ck.ckOf l) HLL.out.1 HLL.out.2)
        have HLZ := Lib.hid (show 0 + (ccells (Ck.ckOf l)).toArray.size ≤ (ccells Ck.Ck.zero).length by rw [List.size_toArray, ccells_len _ HLL.out.1 HLL.out.2, ccells_len _ rfl rfl]; omega)
        go_wp2_with (first | refine wpList_load_at 28 (.tmp 4) rfl rfl g4 0 rfl (ccells (Ck.ckOf l)) _ j5.range Tryd.underlying28 rfl HIN.out ?_ | refine wpList_store_mid rfl 28 (.tmp 2) (.tmp 23) rfl g0 0 (ccells (Ck.ckOf l)).toArray rfl rfl (k5.there 0 _ HLZ.out) HIN.out (all_oneCell_toArray ccells_one) ?_)
        have hz := k5.setCells (ccells (Ck.ckOf l)) 0 (by rw [ccells_len _ HLL.out.1 HLL.out.2, ccells_len _ rfl rfl]; omega)
        rw [spl_all _ _ (by rw [ccells_len _ HLL.out.1 HLL.out.2, ccells_len _ rfl rfl])] at hz
        have bz := below_setCells (o := 0) (vs := ccells (Ck.ckOf l)) c5 hg1
        refine bodyPost_ret (v := .tuple #[cagg (Ck.ckOf l), .int .i64 0]) (res_cell2 (ccells (Ck.ckOf l)) _ Tryd.results8 rfl hz.range Tryd.underlying28 rfl HIN.out rfl) rfl ?_
        exact DecC.yes HE.out bz

/-! ### Choose -/
/-- What has been chosen ahead of place k. -/
def chs1 (a : List UInt8) : Ck.Ck := if Ck.ckErr a = 0 ∧ (dec a).s % 2 = 0 ∧ Ck.Ck.zero.s < (dec a).s then dec a else Ck.Ck.zero
def chs2 (a b : List UInt8) : Ck.Ck := if Ck.ckErr b = 0 ∧ (dec b).s % 2 = 1 ∧ (chs1 a).s < (dec b).s then dec b else chs1 a
def chs (a b : List UInt8) : Nat → Ck.Ck
  | 0 => Ck.Ck.zero
  | 1 => chs1 a
  | _ + 2 => chs2 a b
theorem chs1_len (a : List UInt8) : (chs1 a).mp.length = 4 ∧ (chs1 a).us.length = 8 := by
  unfold chs1
  split
  · exact dec_len a
  · exact ⟨rfl, rfl⟩
theorem chs_len (a b : List UInt8) (k : Nat) : (chs a b k).mp.length = 4 ∧ (chs a b k).us.length = 8 := by
  match k with
  | 0 => exact ⟨rfl, rfl⟩
  | 1 => exact chs1_len a
  | k + 2 =>
    show (chs2 a b).mp.length = 4 ∧ (chs2 a b).us.length = 8
    unfold chs2
    split
    · exact dec_len b
    · exact chs1_len a
theorem dec_may {l : List UInt8} (h : Ck.ckErr l = 0) : Ck.mayB (dec l) = true ∧ 1 ≤ (dec l).s ∧ (dec l).s ≤ 281474976710655 ∧ plc (dec l) = (dec l).s % 2 := by
  have e : dec l = Ck.ckOf l := by unfold dec; rw [if_pos h]
  have hm := (Ck.err_may h).1
  rw [e]
  have := (Ck.may_parts hm).1
  exact ⟨hm, by omega, by omega, by unfold plc; rw [hm]; rfl⟩
def ChoR (a b : List UInt8) (w : World) (e : Ending) (w' : World) : Prop := e = .returned (.tuple #[cagg (chs a b 2), .int .i64 (if (chs a b 2).s = 0 then 6 else 0)]) ∧ Below w.heap.size w w'
theorem chs_zero (a b : List UInt8) (h : (chs a b 2).s = 0) : chs a b 2 = Ck.Ck.zero := by
  change (chs2 a b).s = 0 at h
  show chs2 a b = _
  unfold chs2 at h ⊢
  split
  · rename_i hq
    rw [if_pos hq] at h
    have := dec_may hq.1
    omega
  · rename_i hq
    rw [if_neg hq] at h
    unfold chs1 at h ⊢
    split
    · rename_i hq2
      rw [if_pos hq2] at h
      have := dec_may hq2.1
      omega
    · rfl
set_option maxRecDepth 100000 in
set_option maxHeartbeats 8000000 in
theorem chooseC_any (w : World) (va vb : Value) (a b : List UInt8) (hH : Halves w) (ha : Bs w w.heap.size va a) (hb : Bs w w.heap.size vb b) :
    Calls Tryd.prog 16 #[va, vb] w (ChoR a b w) := by
  obtain ⟨Aa, ca, rfl, _, _, _⟩ := ha.openD
  obtain ⟨Ab, cb, rfl, _, _, _⟩ := hb.openD
  have HA := Lib.hid ha
  have HB := Lib.hid hb
  clear ha hb
  go_enter Tryd.func16, Tryd.ntmps16
  go_upto_region 1 with (fail)
  generalize hW : w.alloc (.cells _ 28) = W0
  have hk0 : Blk W0 w.heap.size 28 (ccells Ck.Ck.zero) := by rw [← hW]; exact Blk.new w _ _
  have b0 : Below w.heap.size w W0 := by rw [← hW]; exact (Below.refl _ _).alloc (Nat.le_refl _) _
  clear hW
  obtain ⟨g0, hg0⟩ : ∃ g0, g0 = w.heap.size := ⟨_, rfl⟩
  rw [← hg0] at hk0 ⊢
  have hg1 : w.heap.size ≤ g0 := by omega
  have hg2 : g0 ≤ w.heap.size := by omega
  clear hg0
  go_upto_region 2 with (fail)
  have k1 := hk0.alloc (.cells #[.slice Aa a.length ca, .slice Ab b.length cb] 47)
  have j1 := Blk.new W0 47 #[.slice Aa a.length ca, .slice Ab b.length cb]
  have c1 := b0.alloc b0.size (.cells #[.slice Aa a.length ca, .slice Ab b.length cb] 47)
  generalize W0.alloc (.cells #[.slice Aa a.length ca, .slice Ab b.length cb] 47) = W1 at *
  generalize W0.heap.size = g6 at *
  clear hk0 b0
  go_upto_region 3 with (fail)
  generalize hW : W1.alloc (.cells _ 28) = W2
  have i2 : Blk W2 W1.heap.size 28 (ccells Ck.Ck.zero) := by rw [← hW]; exact Blk.new W1 _ _
  have b2 : Below W1.heap.size W1 W2 := by rw [← hW]; exact (Below.refl _ _).alloc (Nat.le_refl _) _
  have k2 := k1.ext b2
  have j2 := j1.ext b2
  have c2 := c1.trans (b2.mono c1.size)
  have hl0 := k1.lt
  have hsz1 := c1.size
  clear hW k1 j1 c1 b2
  obtain ⟨g7, hg7⟩ : ∃ g7, g7 = W1.heap.size := ⟨_, rfl⟩
  rw [← hg7] at i2 ⊢
  have hg3 : w.heap.size ≤ g7 := by omega
  have hne : g0 ≠ g7 := by omega
  have hlt7 := i2.lt
  clear hg7 hl0 hsz1
  have y0 := j2.cell 0
  have y1 := j2.cell 1
  simp only [List.getElem?_cons_zero, List.getElem?_cons_succ] at y0 y1
  clear j2
  have IX0 := Lib.hid (show ∀ W, (Instr.index 47 (.agg #[.slice Aa a.length ca, .slice Ab b.length cb]) (.int .i64 0)).run Tryd.prog W = .ok (.slice Aa a.length ca) W from fun _ => by kernel_rfl)
  have IX1 := Lib.hid (show ∀ W, (Instr.index 47 (.agg #[.slice Aa a.length ca, .slice Ab b.length cb]) (.int .i64 1)).run Tryd.prog W = .ok (.slice Ab b.length cb) W from fun _ => by kernel_rfl)
  go_wp2
  clear y0 y1
  go_loopw [16] (fun i wr => ∃ k : Nat, k ≤ 2 ∧ i = .int .i64 k ∧ Blk wr g7 28 (ccells (chs a b k)) ∧ W2.grownBy wr (some g7)) (fun i _ => 2 - (intOf i).toNat)
  case atStart => exact ⟨0, by omega, rfl, i2, World.grownBy.refl _ _⟩
  case round =>
    obtain ⟨k, hk, rfl, hkb, hgr⟩ := hrel
    clear i2
    have c3 := below_of_grown c2 hgr hg3 c2.size
    have k3 := k2.grown hgr (fun e => by injection e with e; exact hne e)
    have s3 := hgr.size
    rcases (by omega : k = 0 ∨ k = 1 ∨ k = 2) with rfl | rfl | rfl
    · rw [show (((0 : Nat)) : Int) = 0 from rfl]
      have hix := IX0.out
      go_wp2_with fail
      clear hix
      refine (decodeC_any wr _ a (hH.ext c3) ((HA.out.ext (Nat.le_refl _) c3).more c3.size)).mono ?_
      rintro e w4 ⟨rfl, b4⟩
      have HDL := Lib.hid (dec_len a)
      have HDM := Lib.hid (fun h => dec_may (l := a) h)
      have HCH := Lib.hid (show chs a b 1 = if Ck.ckErr a = 0 ∧ (dec a).s % 2 = 0 ∧ (chs a b 0).s < (dec a).s then dec a else (chs a b 0) from rfl)
      have HPL := Lib.hid (chs_len a b 0)
      generalize (chs a b 0) = Y at *
      generalize dec a = Z at *
      generalize Ck.ckErr a = E at *
      unfold cagg
      go_upto_region 7 with (with_reducible refine wpList_store_new rfl 28 (.tmp 10) (.tmp 23) rfl (ccells Z) rfl rfl ?_ rfl (infoC _ HDL.out.1 HDL.out.2) ccells_one ?_)
      · rw [ccells_len _ HDL.out.1 HDL.out.2]; exact Nat.le_refl 19
      generalize hW : (w4.alloc (.cells _ 28)).setCells w4.heap.size 0 _ = w6
      have j6 : Blk w6 w4.heap.size 28 (ccells Z) := by rw [← hW]; exact Blk.varC rfl HDL.out.1 HDL.out.2
      have b5 : Below w4.heap.size w4 w6 := by rw [← hW]; exact below_varC
      clear hW
      have b6 := b4.trans (b5.mono b4.size)
      have h7 := hkb.ext b6
      have hgr6 := hgr.trans (grown_of_below b6 (some g7))
      have hn10 : w4.heap.size ≠ g7 := by have := hkb.lt; have := b4.size; omega
      generalize w4.heap.size = g10 at *
      clear hkb hgr b4 b5 b6 c3 k3
      by_cases hE : E = 0
      rotate_left
      · have hE' : ((E : Int) == 0) = false := by rw [beq_eq_false_iff_ne]; omega
        have HS := Lib.hid (show chs a b 1 = Y by rw [HCH.out, if_neg (fun h => hE h.1)])
        clear hE
        go_wp2
        go_roundw
        case rel => exact ⟨1, by omega, by go_num, by rw [HS.out]; exact h7, hgr6⟩
        case measure => simp [intOf]
      have HC2 := Lib.hid (show chs a b 1 = if Z.s % 2 = 0 ∧ Y.s < Z.s then Z else Y by rw [HCH.out]; simp [hE])
      clear HCH
      subst hE
      have hd := HDM.out rfl
      have HPC := Lib.hid hd.2.2.2
      have z1 : 1 ≤ Z.s := hd.2.1
      have z2 : Z.s ≤ 281474976710655 := hd.2.2.1
      clear hd HDM
      have r6 := j6.range
      go_wp2_with (refine wpList_load_at 28 (.tmp 10) rfl rfl g10 0 rfl (ccells Z) _ r6 Tryd.underlying28 rfl (infoC _ HDL.out.1 HDL.out.2) ?_)
      refine (place_any Z _ HDL.out.1 HDL.out.2).mono ?_
      rintro e w8 ⟨rfl, b8⟩
      rw [HPC.out]
      have j8 := j6.ext b8
      have h8 := h7.ext b8
      have hgr8 := hgr6.trans (grown_of_below b8 (some g7))
      clear j6 h7 hgr6 b8 r6
      have j6 := j8
      have h7 := h8
      have hgr6 := hgr8
      clear j8 h8 hgr8
      by_cases hp : Z.s % 2 = 0
      rotate_left
      · have hp' : (Z.s % 2 == 0) = false := by rw [beq_eq_false_iff_ne]; exact hp
        have HS := Lib.hid (show chs a b 1 = Y by rw [HC2.out, if_neg (fun h => hp h.1)])
        clear hp
        go_wp2
        go_roundw
        case rel => exact ⟨1, by omega, by go_num, by rw [HS.out]; exact h7, hgr6⟩
        case measure => simp [intOf]
      have hp' : (Z.s % 2 == 0) = true := by rw [beq_iff_eq]; exact hp
      have x0 := j6.cell 0
      have x1 := h7.cell 0
      unfold ccells at x0 x1
      simp only [List.getElem?_cons_zero] at x0 x1
      by_cases hs : Y.s < Z.s
      rotate_left
      · have HS := Lib.hid (show chs a b 1 = Y by rw [HC2.out, if_neg (fun h => hs h.2)])
        clear hp
        go_wp2
        go_roundw
        case rel => exact ⟨1, by omega, by go_num, by rw [HS.out]; exact h7, hgr6⟩
        case measure => simp [intOf]
      have HS := Lib.hid (show chs a b 1 = Z by rw [HC2.out, if_pos ⟨hp, hs⟩])
      clear hp
      have HLZ := Lib.hid (show 0 + (ccells Z).toArray.size ≤ (ccells Y).length by rw [List.size_toArray, ccells_len _ HDL.out.1 HDL.out.2, ccells_len _ HPL.out.1 HPL.out.2]; omega)
      have r6 := j6.range
      go_wp2_with (first | refine wpList_load_at 28 (.tmp 10) rfl rfl g10 0 rfl (ccells Z) _ r6 Tryd.underlying28 rfl (infoC _ HDL.out.1 HDL.out.2) ?_ | refine wpList_store_mid rfl 28 (.tmp 7) (.tmp 40) rfl g7 0 (ccells Z).toArray rfl rfl (h7.there 0 _ HLZ.out) (infoC _ HDL.out.1 HDL.out.2) (all_oneCell_toArray ccells_one) ?_)
      have hz := h7.setCells (ccells Z) 0 (by rw [ccells_len _ HDL.out.1 HDL.out.2, ccells_len _ HPL.out.1 HPL.out.2]; omega)
      rw [spl_all _ _ (by rw [ccells_len _ HDL.out.1 HDL.out.2, ccells_len _ HPL.out.1 HPL.out.2])] at hz
      have hgz := hgr6.trans (grown_setCells (g := g7) (ccells Z) w8 0)
      go_roundw
      case rel => exact ⟨1, by omega, by go_num, by rw [HS.out]; exact hz, hgz⟩
      case measure => simp [intOf]
    · rw [show (((1 : Nat)) : Int) = 1 from rfl]
      have hix := IX1.out
      go_wp2_with fail
      clear hix
      refine (decodeC_any wr _ b (hH.ext c3) ((HB.out.ext (Nat.le_refl _) c3).more c3.size)).mono ?_
      rintro e w4 ⟨rfl, b4⟩
      have HDL := Lib.hid (dec_len b)
      have HDM := Lib.hid (fun h => dec_may (l := b) h)
      have HCH := Lib.hid (show chs a b 2 = if Ck.ckErr b = 0 ∧ (dec b).s % 2 = 1 ∧ (chs a b 1).s < (dec b).s then dec b else (chs a b 1) from rfl)
      have HPL := Lib.hid (chs_len a b 1)
      generalize (chs a b 1) = Y at *
      generalize dec b = Z at *
      generalize Ck.ckErr b = E at *
      unfold cagg
      go_upto_region 7 with (with_reducible refine wpList_store_new rfl 28 (.tmp 10) (.tmp 23) rfl (ccells Z) rfl rfl ?_ rfl (infoC _ HDL.out.1 HDL.out.2) ccells_one ?_)
      · rw [ccells_len _ HDL.out.1 HDL.out.2]; exact Nat.le_refl 19
      generalize hW : (w4.alloc (.cells _ 28)).setCells w4.heap.size 0 _ = w6
      have j6 : Blk w6 w4.heap.size 28 (ccells Z) := by rw [← hW]; exact Blk.varC rfl HDL.out.1 HDL.out.2
      have b5 : Below w4.heap.size w4 w6 := by rw [← hW]; exact below_varC
      clear hW
      have b6 := b4.trans (b5.mono b4.size)
      have h7 := hkb.ext b6
      have hgr6 := hgr.trans (grown_of_below b6 (some g7))
      have hn10 : w4.heap.size ≠ g7 := by have := hkb.lt; have := b4.size; omega
      generalize w4.heap.size = g10 at *
      clear hkb hgr b4 b5 b6 c3 k3
      by_cases hE : E = 0
      rotate_left
      · have hE' : ((E : Int) == 0) = false := by rw [beq_eq_false_iff_ne]; omega
        have HS := Lib.hid (show chs a b 2 = Y by rw [HCH.out, if_neg (fun h => hE h.1)])
        clear hE
        go_wp2
        go_roundw
        case rel => exact ⟨2, by omega, by go_num, by rw [HS.out]; exact h7, hgr6⟩
        case measure => simp [intOf]
      have HC2 := Lib.hid (show chs a b 2 = if Z.s % 2 = 1 ∧ Y.s < Z.s then Z else Y by rw [HCH.out]; simp [hE])
      clear HCH
      subst hE
      have hd := HDM.out rfl
      have HPC := Lib.hid hd.2.2.2
      have z1 : 1 ≤ Z.s := hd.2.1
      have z2 : Z.s ≤ 281474976710655 := hd.2.2.1
      clear hd HDM
      have r6 := j6.range
      go_wp2_with (refine wpList_load_at 28 (.tmp 10) rfl rfl g10 0 rfl (ccells Z) _ r6 Tryd.underlying28 rfl (infoC _ HDL.out.1 HDL.out.2) ?_)
      refine (place_any Z _ HDL.out.1 HDL.out.2).mono ?_
      rintro e w8 ⟨rfl, b8⟩
      rw [HPC.out]
      have j8 := j6.ext b8
      have h8 := h7.ext b8
      have hgr8 := hgr6.trans (grown_of_below b8 (some g7))
      clear j6 h7 hgr6 b8 r6
      have j6 := j8
      have h7 := h8
      have hgr6 := hgr8
      clear j8 h8 hgr8
      by_cases hp : Z.s % 2 = 1
      rotate_left
      · have hp' : (Z.s % 2 == 1) = false := by rw [beq_eq_false_iff_ne]; exact hp
        have HS := Lib.hid (show chs a b 2 = Y by rw [HC2.out, if_neg (fun h => hp h.1)])
        clear hp
        go_wp2
        go_roundw
        case rel => exact ⟨2, by omega, by go_num, by rw [HS.out]; exact h7, hgr6⟩
        case measure => simp [intOf]
      have hp' : (Z.s % 2 == 1) = true := by rw [beq_iff_eq]; exact hp
      have x0 := j6.cell 0
      have x1 := h7.cell 0
      unfold ccells at x0 x1
      simp only [List.getElem?_cons_zero] at x0 x1
      by_cases hs : Y.s < Z.s
      rotate_left
      · have HS := Lib.hid (show chs a b 2 = Y by rw [HC2.out, if_neg (fun h => hs h.2)])
        clear hp
        go_wp2
        go_roundw
        case rel => exact ⟨2, by omega, by go_num, by rw [HS.out]; exact h7, hgr6⟩
        case measure => simp [intOf]
      have HS := Lib.hid (show chs a b 2 = Z by rw [HC2.out, if_pos ⟨hp, hs⟩])
      clear hp
      have HLZ := Lib.hid (show 0 + (ccells Z).toArray.size ≤ (ccells Y).length by rw [List.size_toArray, ccells_len _ HDL.out.1 HDL.out.2, ccells_len _ HPL.out.1 HPL.out.2]; omega)
      have r6 := j6.range
      go_wp2_with (first | refine wpList_load_at 28 (.tmp 10) rfl rfl g10 0 rfl (ccells Z) _ r6 Tryd.underlying28 rfl (infoC _ HDL.out.1 HDL.out.2) ?_ | refine wpList_store_mid rfl 28 (.tmp 7) (.tmp 40) rfl g7 0 (ccells Z).toArray rfl rfl (h7.there 0 _ HLZ.out) (infoC _ HDL.out.1 HDL.out.2) (all_oneCell_toArray ccells_one) ?_)
      have hz := h7.setCells (ccells Z) 0 (by rw [ccells_len _ HDL.out.1 HDL.out.2, ccells_len _ HPL.out.1 HPL.out.2]; omega)
      rw [spl_all _ _ (by rw [ccells_len _ HDL.out.1 HDL.out.2, ccells_len _ HPL.out.1 HPL.out.2])] at hz
      have hgz := hgr6.trans (grown_setCells (g := g7) (ccells Z) w8 0)
      go_roundw
      case rel => exact ⟨2, by omega, by go_num, by rw [HS.out]; exact hz, hgz⟩
      case measure => simp [intOf]
    · have HLL := Lib.hid (chs_len a b 2)
      have HZ := Lib.hid (fun h => chs_zero a b h)
      have HF := Lib.hid (show ChoR a b w = fun e w' => e = .returned (.tuple #[cagg (chs a b 2), .int .i64 (if (chs a b 2).s = 0 then 6 else 0)]) ∧ Below w.heap.size w w' from rfl)
      rw [show ((((2 : Nat)) : Int)) = 2 from rfl]
      have x1 := hkb.cell 0
      unfold ccells at x1
      simp only [List.getElem?_cons_zero] at x1
      generalize hX : chs a b 2 = X at *
      have HX := Lib.hid hX
      clear hX
      by_cases hs : X.s = 0
      · have hs' : (X.s == 0) = true := by rw [beq_iff_eq]; exact hs
        have HS := Lib.hid hs
        clear hs
        go_wp2_with (refine wpList_store_mid rfl 28 (.tmp 4) (.tmp 45) rfl g0 0 (ccells Ck.Ck.zero).toArray rfl rfl (k3.there 0 19 (by rw [ccells_len _ rfl rfl]; omega)) (by kernel_rfl) (all_oneCell_toArray ccells_one) ?_)
        have hz := k3.setCells (ccells Ck.Ck.zero) 0 (by omega)
        rw [spl_all _ _ rfl] at hz
        have bz := below_setCells (o := 0) (vs := ccells Ck.Ck.zero) c3 hg1
        refine bodyPost_ret (v := .tuple #[cagg Ck.Ck.zero, .int .i64 6]) (res_cell2 (ccells Ck.Ck.zero) _ Tryd.results16 rfl hz.range Tryd.underlying28 rfl (infoC _ rfl rfl) rfl) rfl ?_
        rw [HF.out]
        refine ⟨?_, bz⟩
        rw [HZ.out HS.out]
        rfl
      · have hs' : (X.s == 0) = false := by rw [beq_eq_false_iff_ne]; exact hs
        have HS := Lib.hid hs
        clear hs
        have HIN := Lib.hid (infoC X HLL.out.1 HLL.out.2)
        have HLZ := Lib.hid (show 0 + (ccells X).toArray.size ≤ (ccells Ck.Ck.zero).length by rw [List.size_toArray, ccells_len _ HLL.out.1 HLL.out.2, ccells_len _ rfl rfl]; omega)
        go_wp2_with (first | refine wpList_load_at 28 (.tmp 7) rfl rfl g7 0 rfl (ccells X) _ hkb.range Tryd.underlying28 rfl HIN.out ?_ | refine wpList_store_mid rfl 28 (.tmp 4) (.tmp 46) rfl g0 0 (ccells X).toArray rfl rfl (k3.there 0 _ HLZ.out) HIN.out (all_oneCell_toArray ccells_one) ?_)
        have hz := k3.setCells (ccells X) 0 (by rw [ccells_len _ HLL.out.1 HLL.out.2, ccells_len _ rfl rfl]; omega)
        rw [spl_all _ _ (by rw [ccells_len _ HLL.out.1 HLL.out.2, ccells_len _ rfl rfl])] at hz
        have bz := below_setCells (o := 0) (vs := ccells X) c3 hg1
        refine bodyPost_ret (v := .tuple #[cagg X, .int .i64 0]) (res_cell2 (ccells X) _ Tryd.results16 rfl hz.range Tryd.underlying28 rfl HIN.out rfl) rfl ?_
        rw [HF.out]
        refine ⟨?_, bz⟩
        rw [if_neg HS.out]
end Go.Proofs.YtkkbmhlmgbepjaaDoor
