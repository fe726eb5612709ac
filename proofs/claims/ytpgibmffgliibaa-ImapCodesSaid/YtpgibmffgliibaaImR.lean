/-
  The walk of imap.read. By an AI agent.
-/
import Derived.Test.YtpgibmffgliibaaImE
import Derived.Test.YtpgibmffgliibaaRegG
import Derived.Test.YtpgibmffgliibaaRegU
import Derived.IntWalk
namespace Go.Proofs.Ytpgibmffgliibaa
open Go.RowKit Go.ChangeShapes Go.WideShapes Go.ChangeAt
open Im (Sl)

theorem icl_app (a b : List Int) : icl (a ++ b) = icl a ++ icl b := by unfold icl; rw [List.map_append]
theorem tW_snoc : ∀ k, Im.tW (k + 1) = Im.tW k ++ [4, 4, 4]
  | 0 => rfl
  | k + 1 => by
    show 4 :: 4 :: 4 :: Im.tW (k + 1) = (4 :: 4 :: 4 :: Im.tW k) ++ [4, 4, 4]
    rw [tW_snoc k]
    rfl
def tens : List Sl := List.replicate 10 Sl.zero
def fillTo (B : List Sl) (j : Nat) : List Sl := B.take j ++ List.replicate (10 - j) Sl.zero
theorem fillTo_len {B : List Sl} (h : B.length = 10) {j : Nat} (hj : j ≤ 10) : (fillTo B j).length = 10 := by
  unfold fillTo; rw [List.length_append, List.length_take, List.length_replicate]; omega
theorem fillTo_zero (B : List Sl) : fillTo B 0 = tens := rfl
theorem fillTo_ten {B : List Sl} (h : B.length = 10) : fillTo B 10 = B := by
  unfold fillTo; rw [List.take_of_length_le (by omega)]; simp
theorem fillTo_succ {B : List Sl} (h : B.length = 10) {j : Nat} (hj : j < 10) : (fillTo B j).set j (B.getD j Sl.zero) = fillTo B (j + 1) := by
  have e : B.getD j Sl.zero = B[j] := by simp [List.getD, h, hj]
  unfold fillTo
  rw [e, List.set_append_right _ _ (by rw [List.length_take]; omega), List.length_take, show j - min j B.length = 0 by omega, show 10 - j = (10 - (j + 1)) + 1 by omega, List.replicate_succ, List.set_cons_zero, List.take_succ_eq_append_getElem (by omega), List.append_assoc]
  rfl
theorem sV_at : ∀ (b : List Sl) (k : Nat) (h : k < b.length), (Im.sV b)[3 * k]? = some b[k].a.toNat ∧ (Im.sV b)[3 * k + 1]? = some b[k].s ∧ (Im.sV b)[3 * k + 2]? = some b[k].v.toNat
  | y :: b, 0, _ => by rw [Im.sV_cons]; exact ⟨rfl, rfl, rfl⟩
  | y :: b, k + 1, h => by
    rw [Im.sV_cons, show 3 * (k + 1) = 3 * k + 1 + 1 + 1 by omega]
    exact sV_at b k (by simpa using h)
theorem im_num (l : List UInt8) (k : Nat) (h : k < 10) : (Pk.nums l Im.imW).getD (2 + 3 * k) 0 = ((Im.bkOf l).getD k Sl.zero).a.toNat ∧ (Pk.nums l Im.imW).getD (2 + 3 * k + 1) 0 = ((Im.bkOf l).getD k Sl.zero).s ∧ (Pk.nums l Im.imW).getD (2 + 3 * k + 2) 0 = ((Im.bkOf l).getD k Sl.zero).v.toNat := by
  have hl := Im.bk_len l
  have h1 := sV_at (Im.bkOf l) k (by omega)
  have e : (Im.bkOf l).getD k Sl.zero = (Im.bkOf l)[k]'(by omega) := by simp [List.getD, hl, h]
  rw [Im.nums_im, e]
  refine ⟨?_, ?_, ?_⟩
  · rw [show 2 + 3 * k = 3 * k + 1 + 1 by omega, List.getD_eq_getElem?_getD]
    simp only [List.getElem?_cons_succ]
    rw [h1.1]; rfl
  · rw [show 2 + 3 * k + 1 = (3 * k + 1) + 1 + 1 by omega, List.getD_eq_getElem?_getD]
    simp only [List.getElem?_cons_succ]
    rw [h1.2.1]; rfl
  · rw [show 2 + 3 * k + 2 = (3 * k + 2) + 1 + 1 by omega, List.getD_eq_getElem?_getD]
    simp only [List.getElem?_cons_succ]
    rw [h1.2.2]; rfl
theorem uerr_im (l : List UInt8) (h : l.length = 128) : Pk.uerr l Im.imW = 0 ∧ Pk.unpacked l Im.imW = Pk.nums l Im.imW := by
  have e : Pk.uerr l Im.imW = 0 := by
    unfold Pk.uerr
    rw [if_pos (by decide), if_neg (by rw [Im.need_imW]; omega)]
  refine ⟨e, ?_⟩
  unfold Pk.unpacked
  rw [if_pos e]
theorem nums_len (l : List UInt8) : ∀ ws : List Int, (Pk.nums l ws).length = ws.length := by
  intro ws
  induction ws generalizing l with
  | nil => rfl
  | cons w ws ih => rw [Pk.nums, List.length_cons, List.length_cons, ih]
theorem sls_bd (l : List UInt8) (n : Nat) : ∀ y ∈ Im.slsOf l n, 0 ≤ y.a ∧ y.a < 4294967296 ∧ y.s < 4294967296 ∧ 0 ≤ y.v ∧ y.v < 4294967296 := by
  intro y hy
  unfold Im.slsOf at hy
  obtain ⟨i, _, rfl⟩ := List.mem_map.1 hy
  have h1 : Pk.val ((l.drop (12 * i)).take 4) < 4294967296 := Nd.val_lt_of _ 4
  have h2 : Pk.val ((l.drop (12 * i + 4)).take 4) < 4294967296 := Nd.val_lt_of _ 4
  have h3 : Pk.val ((l.drop (12 * i + 8)).take 4) < 4294967296 := Nd.val_lt_of _ 4
  unfold Im.slAt
  simp only
  omega
theorem cell_grown {w w' : World} {g b o : Nat} {v : Value} (hgr : w.grownBy w' (some g)) (hb : b < w.heap.size) (hne : b ≠ g) (h : w.cell? ⟨b, o, none⟩ = some v) : w'.cell? ⟨b, o, none⟩ = some v :=
  (World.cell?_of_block (hgr.block b hb (fun e => by injection e with e; exact hne e))).trans h
theorem grown_drew {w w' : World} {row : Option Nat} (h : w.grownBy w' row) : w.grownBy w'.drew row := ⟨h.os, h.tape, h.output, h.size, h.block⟩
def formB (k : Nat) (l : List UInt8) : Bool := decide (l.length = 128) && Im.rdB k l
/-- What read leaves. -/
def ReadI (k : Nat) (l : List UInt8) (w : World) (e : Ending) (w' : World) : Prop := e = .returned (.tuple #[magg (if formB k l then Im.bkOf l else tens), .bool (Im.rdOk k l)]) ∧ Below w.heap.size w w'
theorem ReadI.no {k : Nat} {l : List UInt8} {w w' : World} (h : formB k l = false) (b : Below w.heap.size w w') : ReadI k l w (.returned (.tuple #[magg tens, .bool false])) w' := by
  unfold ReadI
  have : Im.rdOk k l = false := by
    unfold formB at h
    unfold Im.rdOk
    rw [← Bool.and_assoc, h]; rfl
  rw [h, this]
  exact ⟨rfl, b⟩
theorem ReadI.yes {k : Nat} {l : List UInt8} {w w' : World} {B : List Sl} {r : Bool} (h : formB k l = true) (hB : Im.bkOf l = B) (hr : Im.blkB B k = r) (b : Below w.heap.size w w') : ReadI k l w (.returned (.tuple #[magg B, .bool r])) w' := by
  unfold ReadI
  have : Im.rdOk k l = Im.blkB (Im.bkOf l) k := by
    unfold formB at h
    unfold Im.rdOk
    rw [← Bool.and_assoc, h]; rfl
  rw [h, this, hB, hr]
  exact ⟨rfl, b⟩

set_option maxRecDepth 100000 in
set_option maxHeartbeats 8000000 in
theorem read_any (k : Nat) (w : World) (v : Value) (l : List UInt8) (hk : k < 4) (h : Bs w w.heap.size v l) :
    Calls Try.prog 34 #[.int .i64 (k : Int), v] w (ReadI k l w) := by
  obtain ⟨A, c, rfl, hc, hm, _⟩ := h.openD
  have HB := Lib.hid h
  clear h
  go_enter Try.func34, Try.ntmps34
  go_upto_region 1 with (fail)
  generalize hW : w.alloc (.cells _ 63) = W0
  have hk0 : Blk W0 w.heap.size 63 (mcells tens) := by rw [← hW]; exact Blk.new w _ _
  have b0 : Below w.heap.size w W0 := by rw [← hW]; exact (Below.refl _ _).alloc (Nat.le_refl _) _
  clear hW
  obtain ⟨g0, hg0⟩ : ∃ g0, g0 = w.heap.size := ⟨_, rfl⟩
  rw [← hg0] at hk0 ⊢
  have hg1 : w.heap.size ≤ g0 := by omega
  clear hg0
  go_upto_region 2 with (fail)
  have hown0 := (Blk.new W0 3 #[.int .i64 4, .int .i64 1]).own (base := W0.heap.size) (Nat.le_refl _) 2 2 1 rfl (Nat.le_refl _) (by simp [maxLen])
  rw [List.take_of_length_le (by simp)] at hown0
  have b1 := (Below.refl W0.heap.size W0).alloc (Nat.le_refl _) (.cells #[.int .i64 4, .int .i64 1] 3)
  rw [show (#[.int .i64 4, .int .i64 1] : Array Value).toList = icl [4, 1] from rfl] at hown0
  generalize W0.alloc (.cells #[.int .i64 4, .int .i64 1] 3) = W1 at *
  generalize hv4 : Value.slice (some ⟨W0.heap.size, 0, none⟩) 2 2 = v4 at hown0 ⊢
  clear hv4
  go_wp2
  go_loopw [6, 7, 14] (fun y z i wr => ∃ j : Nat, j ≤ 10 ∧ i = .int .i64 j ∧ z = .int .i64 (5 + 12 * (j : Int)) ∧ wr.ownsRow W0.heap.size 3 1 y (2 + 3 * j) (icl ([4, 1] ++ Im.tW j)) ∧ Below W0.heap.size W0 wr) (fun _ _ i _ => 10 - (intOf i).toNat)
  case atStart => exact ⟨0, by omega, rfl, rfl, by rw [show Im.tW 0 = [] from rfl, List.append_nil]; exact hown0, b1⟩
  case round =>
    obtain ⟨j, hj, rfl, rfl, hown, hbw⟩ := hrel
    clear hown0 b1
    by_cases hlt : j < 10
    · have HSN := Lib.hid (show icl ([4, 1] ++ Im.tW (j + 1)) = icl ([4, 1] ++ Im.tW j) ++ [.int .i64 4, .int .i64 4, .int .i64 4] by rw [tW_snoc, ← List.append_assoc, icl_app]; rfl)
      go_wp2_with (at_builtin; refine stop_ ?_)
      have hkn := Blk.new wr 3 #[.int .i64 4, .int .i64 4, .int .i64 4]
      have ho2 := hown.alloc (.cells #[.int .i64 4, .int .i64 4, .int .i64 4] 3)
      have d2 := hbw.alloc hbw.size (.cells #[.int .i64 4, .int .i64 4, .int .i64 4] 3)
      obtain ⟨ua, wa, hruna, howna, hgra, _⟩ := run_append_rds (P := Try.prog) (ty := 42) Try.underlying42 infoInt rfl (by decide) ho2 (hkn.rds 0 3 3 1 (by simp) (by omega) (by simp [maxLen])) (by simp [Value.oneCell']) (by rw [maxLen_eq]; omega) (by omega) d2.size
      refine wpList_append_run (v := u6) (u := .slice (some ⟨wr.heap.size, 0, none⟩) 3 3) rfl (.tmp 16) (.tmp 17) 42 rfl rfl rfl hruna ?_
      have d3 := d2.grown hgra d2.size (fun g hg => (ho2.lt g hg).1)
      clear hkn ho2 hruna hgra d2 hown hbw
      go_wp2
      go_roundw
      case rel => exact ⟨j + 1, by omega, by go_num, by rw [show (5 + 12 * (j : Int) + 12) = 5 + 12 * ((j + 1 : Nat) : Int) by omega], by rw [HSN.out, show 2 + 3 * (j + 1) = 2 + 3 * j + 3 by omega]; exact howna, d3⟩
      case measure => simp [intOf]; omega
    · obtain rfl : j = 10 := by omega
      have HIS := Lib.hid (show Is .i64 wr wr.heap.size u6 Im.imW from Rds.of_own hown)
      have k1 := hk0.ext hbw
      have c1 := b0.trans (hbw.mono b0.size)
      obtain ⟨w1, hw1⟩ : ∃ w1, w1 = wr := ⟨_, rfl⟩
      rw [← hw1] at HIS k1 c1 ⊢
      have HB1 := Lib.hid ((HB.out.ext (Nat.le_refl _) c1).more c1.size)
      clear hw1 hown hbw hk0 b0 HB
      rw [show (5 + 12 * (((10 : Nat)) : Int)) = 125 from rfl, show (((10 : Nat)) : Int) = 10 from rfl]
      have HFM := Lib.hid (show formB k l = (decide (l.length = 128) && (Pk.clr l ((125 : Nat) : Int) && Im.hdB k l)) from rfl)
      by_cases hl : ¬ l.length = 128
      · have hl3 : ((l.length : Int) != 128) = true := by rw [bne_iff_ne]; omega
        have HE := Lib.hid (show formB k l = false by rw [HFM.out, decide_eq_false hl]; rfl)
        clear hl
        go_wp2_with (refine wpList_store_mid rfl 63 (.tmp 4) (.tmp 31) rfl g0 0 (mcells tens).toArray rfl rfl (k1.there 0 30 (by decide)) (by kernel_rfl) (all_oneCell_toArray mcells_one) ?_)
        have hz := k1.setCells (mcells tens) 0 (by decide)
        rw [spl_all _ _ rfl] at hz
        have bz := below_setCells (o := 0) (vs := mcells tens) c1 hg1
        refine bodyPost_ret (v := .tuple #[magg tens, .bool false]) (res_cell2 (mcells tens) _ Try.results34 rfl hz.range Try.underlying63 rfl (by kernel_rfl) rfl) rfl ?_
        exact ReadI.no HE.out bz
      · replace hl := Decidable.not_not.1 hl
        have hl3 : ((l.length : Int) != 128) = false := by rw [bne_eq_false_iff_eq]; omega
        have HL := Lib.hid hl
        rw [decide_eq_true hl, Bool.true_and] at HFM
        have HUE := Lib.hid (uerr_im l hl)
        clear hl
        go_wp2_with fail
        refine (clear_any _ _ _ l 125 HB1.out (by omega)).mono ?_
        rintro e w' ⟨rfl, rfl⟩
        cases hcl : Pk.clr l (125 : Int) with
        | false =>
          have HE := Lib.hid (show formB k l = false by rw [HFM.out, show Pk.clr l ((125 : Nat) : Int) = false from hcl]; rfl)
          clear hcl HFM
          go_wp2_with (refine wpList_store_mid rfl 63 (.tmp 4) (.tmp 31) rfl g0 0 (mcells tens).toArray rfl rfl (k1.there 0 30 (by decide)) (by kernel_rfl) (all_oneCell_toArray mcells_one) ?_)
          have hz := k1.setCells (mcells tens) 0 (by decide)
          rw [spl_all _ _ rfl] at hz
          have bz := below_setCells (o := 0) (vs := mcells tens) c1 hg1
          refine bodyPost_ret (v := .tuple #[magg tens, .bool false]) (res_cell2 (mcells tens) _ Try.results34 rfl hz.range Try.underlying63 rfl (by kernel_rfl) rfl) rfl ?_
          exact ReadI.no HE.out bz
        | true =>
          have HCL := Lib.hid (show Pk.clr l ((125 : Nat) : Int) = true from hcl)
          rw [HCL.out, Bool.true_and] at HFM
          clear hcl HCL
          go_wp2_with fail
          refine (unpack_any w1 _ _ _ l Im.imW HB1.out HIS.out (Nat.le_refl _) (by decide)).mono ?_
          rintro e w2 ⟨x2, rfl, hown, hb2⟩
          rw [HUE.out.1]
          rw [HUE.out.2] at hown
          have hsx : Us w2 w2.heap.size x2 (Pk.nums l Im.imW) := Us.of_own hown
          have k2 := k1.ext hb2
          have c2 := c1.trans (hb2.mono c1.size)
          obtain ⟨A2, cx, rfl, hcx, hmx, hcell⟩ := hsx.openD
          have hnl : (Pk.nums l Im.imW).length = 32 := nums_len l Im.imW
          rw [hnl] at hcx hcell ⊢
          obtain ⟨bx, ox, rfl, hbx, hx0⟩ := hcell 0 (by omega)
          have HV := Lib.hid (show ∀ j, j < 32 → w2.cell? ⟨bx, ox + j, none⟩ = some (.int .u64 ((Pk.nums l Im.imW).getD j 0 : Nat)) by
            intro j hj
            obtain ⟨b', o', e', _, hh⟩ := hcell j hj
            injection e' with e'
            injection e' with e1 e2
            subst e1 e2
            exact hh)
          clear hcell hsx hown hb2 k1 c1 HIS hnl hx0 HB1
          have hx0 := HV.out 0 (by omega)
          have hx1 := HV.out 1 (by omega)
          rw [Im.nums_im] at hx0 hx1
          simp only [List.getD_cons_zero, List.getD_cons_succ, Nat.add_zero] at hx0 hx1
          have HHD := Lib.hid (show Im.hdB k l = decide (Pk.val (l.take 4) = 1768776048 ∧ Pk.val ((l.drop 4).take 1) = k) from rfl)
          have HNM := Lib.hid (fun j h => im_num l j h)
          have HBD := Lib.hid (show ∀ y ∈ Im.bkOf l, 0 ≤ y.a ∧ y.a < 4294967296 ∧ y.s < 4294967296 ∧ 0 ≤ y.v ∧ y.v < 4294967296 from sls_bd (l.drop 5) 10)
          have HBL := Lib.hid (Im.bk_len l)
          generalize Pk.val (l.take 4) = V0 at *
          generalize Pk.val ((l.drop 4).take 1) = V1 at *
          generalize hXX : Im.bkOf l = B at *
          have HXX := Lib.hid hXX
          clear hXX
          by_cases h0 : ¬ V0 = 1768776048
          · have h0' : ((V0 : Int) != 1768776048) = true := by rw [bne_iff_ne]; omega
            have HE := Lib.hid (show formB k l = false by rw [HFM.out, HHD.out, decide_eq_false (fun q => h0 q.1)])
            clear h0 HFM HHD
            go_wp2_with (refine wpList_store_mid rfl 63 (.tmp 4) (.tmp 54) rfl g0 0 (mcells tens).toArray rfl rfl (k2.there 0 30 (by decide)) (by kernel_rfl) (all_oneCell_toArray mcells_one) ?_)
            have hz := k2.setCells (mcells tens) 0 (by decide)
            rw [spl_all _ _ rfl] at hz
            have bz := below_setCells (o := 0) (vs := mcells tens) c2 hg1
            refine bodyPost_ret (v := .tuple #[magg tens, .bool false]) (res_cell2 (mcells tens) _ Try.results34 rfl hz.range Try.underlying63 rfl (by kernel_rfl) rfl) rfl ?_
            exact ReadI.no HE.out bz
          · replace h0 := Decidable.not_not.1 h0
            have h0' : ((V0 : Int) != 1768776048) = false := by rw [bne_eq_false_iff_eq]; omega
            by_cases h1 : ¬ V1 = k
            · have h1' : ((V1 : Int) != (k : Int)) = true := by rw [bne_iff_ne]; omega
              have HE := Lib.hid (show formB k l = false by rw [HFM.out, HHD.out, decide_eq_false (fun q => h1 q.2)])
              clear h0 h1 HFM HHD
              go_wp2_with (refine wpList_store_mid rfl 63 (.tmp 4) (.tmp 54) rfl g0 0 (mcells tens).toArray rfl rfl (k2.there 0 30 (by decide)) (by kernel_rfl) (all_oneCell_toArray mcells_one) ?_)
              have hz := k2.setCells (mcells tens) 0 (by decide)
              rw [spl_all _ _ rfl] at hz
              have bz := below_setCells (o := 0) (vs := mcells tens) c2 hg1
              refine bodyPost_ret (v := .tuple #[magg tens, .bool false]) (res_cell2 (mcells tens) _ Try.results34 rfl hz.range Try.underlying63 rfl (by kernel_rfl) rfl) rfl ?_
              exact ReadI.no HE.out bz
            · replace h1 := Decidable.not_not.1 h1
              have h1' : ((V1 : Int) != (k : Int)) = false := by rw [bne_eq_false_iff_eq]; omega
              have HE := Lib.hid (show formB k l = true by rw [HFM.out, HHD.out, decide_eq_true ⟨h0, h1⟩])
              clear h0 h1 HFM HHD
              go_upto_region 14 with (fail)
              generalize hW : w2.alloc (.cells _ 63) = w3
              have hkb0 : Blk w3 w2.heap.size 63 (mcells tens) := by rw [← hW]; exact Blk.new w2 _ _
              have b3 : Below w2.heap.size w2 w3 := by rw [← hW]; exact (Below.refl _ _).alloc (Nat.le_refl _) _
              clear hW
              have kz := k2.ext b3
              have hg0l := k2.lt
              have c3 := c2.trans (b3.mono c2.size)
              have HV3 := Lib.hid (fun j hj => (b3.cell (p := ⟨bx, ox + j, none⟩) hbx).trans (HV.out j hj))
              have hs2 := c2.size
              have hlt10 := hkb0.lt
              obtain ⟨g10, hg10⟩ : ∃ g, g = w2.heap.size := ⟨_, rfl⟩
              rw [← hg10] at hkb0 hlt10 ⊢
              have hg7 : w.heap.size ≤ g10 := by omega
              have hne0 : g0 ≠ g10 := by omega
              have hneb : bx ≠ g10 := by omega
              have hbx3 : bx < w3.heap.size := by omega
              clear k2 b3 c2 HV hx0 hx1 hg10 hs2
              go_wp2
              go_loopw [55] (fun i wr => ∃ j : Nat, j ≤ 10 ∧ i = .int .i64 j ∧ Blk wr g10 63 (mcells (fillTo B j)) ∧ w3.grownBy wr (some g10)) (fun i _ => 10 - (intOf i).toNat)
              case atStart => exact ⟨0, by omega, rfl, hkb0, World.grownBy.refl _ _⟩
              case round =>
                obtain ⟨j, hj, rfl, hkb, hgr⟩ := hrel
                clear hkb0
                by_cases hlt : j < 10
                · have hn := HNM.out j hlt
                  have hbd := HBD.out _ (Im.getD_mem (m := B) (i := j) (by rw [HBL.out]; exact hlt))
                  have HY0 := Lib.hid (HV3.out (2 + 3 * j) (by omega))
                  have HY1 := Lib.hid (HV3.out (2 + 3 * j + 1) (by omega))
                  have HY2 := Lib.hid (HV3.out (2 + 3 * j + 2) (by omega))
                  rw [hn.1] at HY0
                  rw [hn.2.1] at HY1
                  rw [hn.2.2] at HY2
                  have HFS := Lib.hid (show spl (mcells (fillTo B j)) (3 * j) (scells (B.getD j Sl.zero)) = mcells (fillTo B (j + 1)) by rw [mcells_set _ _ _ (by rw [fillTo_len HBL.out hj]; exact hlt), fillTo_succ HBL.out hlt])
                  have HFL := Lib.hid (show (mcells (fillTo B j)).length = 30 by rw [mcells_len, fillTo_len HBL.out hj])
                  clear hn
                  generalize B.getD j Sl.zero = pp at *
                  obtain ⟨aa, s, vv⟩ := pp
                  simp only at HY0 HY1 HY2 hbd
                  obtain ⟨aa, rfl⟩ := Int.eq_ofNat_of_zero_le hbd.1
                  obtain ⟨vv, rfl⟩ := Int.eq_ofNat_of_zero_le hbd.2.2.2.1
                  rw [Int.toNat_natCast] at HY0 HY2
                  have y1 : aa < 4294967296 := by omega
                  have y2 : s < 4294967296 := by omega
                  have y3 : vv < 4294967296 := by omega
                  clear hbd
                  have z0 := cell_grown hgr hbx3 hneb HY0.out
                  have z1 := cell_grown hgr hbx3 hneb HY1.out
                  have z2 := cell_grown hgr hbx3 hneb HY2.out
                  rw [← Nat.add_assoc] at z1 z2
                  have f0 : (0 : Int) ≤ 2 + 3 * (j : Int) := by omega
                  have f1 : (2 + 3 * (j : Int)).toNat = 2 + 3 * j := by omega
                  have f2 : 2 + 3 * (j : Int) ≤ 32 := by omega
                  have f3 : 2 + 3 * (j : Int) ≤ (cx : Int) := by omega
                  have f4 : ¬ cx = 2 + 3 * j := by omega
                  have f5 : (3 : Int) * j ≤ 30 := by omega
                  go_upto_region 18 with (fail)
                  have hLL : 3 ≤ 32 - (2 + 3 * j) := by omega
                  clear f0 f1 f2 f3 f4 f5
                  generalize ox + (2 + 3 * j) = OO at *
                  generalize 32 - (2 + 3 * j) = LL at *
                  generalize cx - (2 + 3 * j) = CC at *
                  have j0 : (0 : Int) ≤ (j : Int) := by omega
                  have j1 : (j : Int) < 10 := by omega
                  have l0 : (0 : Int) < LL := by omega
                  have l00 : 0 < LL := by omega
                  have l1 : (1 : Int) < LL := by omega
                  have l2 : (2 : Int) < LL := by omega
                  have hG0 : (fun (b : Bool) (x : World) => (b = false → Blk x g10 63 (mcells (fillTo B j)) ∧ x.cell? ⟨bx, OO, none⟩ = some (.int .u64 (aa : Int)) ∧ x.cell? ⟨bx, OO + 1, none⟩ = some (.int .u64 (s : Int)) ∧ x.cell? ⟨bx, OO + 2, none⟩ = some (.int .u64 (vv : Int))) ∧ (b = true → Blk x g10 63 (mcells (fillTo B (j + 1)))) ∧ w3.grownBy x (some g10)) false wr.drew := ⟨fun _ => ⟨hkb.drew, z0, z1, z2⟩, (fun h => by cases h), grown_drew hgr⟩
                  clear HY0 HY1 HY2
                  refine wp_region_tail 17 16 [(fun y_ _ => y_ = .int .i64 (j : Int)),
                    (fun y_ _ => y_ = .slice (some ⟨bx, OO, none⟩) LL CC),
                    (fun y_ _ => y_ = .pointer (some ⟨bx, OO, none⟩)),
                    (fun y_ _ => y_ = .int .u64 (aa : Int)),
                    (fun y_ _ => y_ = .int .i64 (aa : Int)),
                    (fun y_ _ => y_ = .slice (some ⟨bx, OO, none⟩) LL CC),
                    (fun y_ _ => y_ = .pointer (some ⟨bx, OO + 1, none⟩)),
                    (fun y_ _ => y_ = .int .u64 (s : Int)),
                    (fun y_ _ => y_ = .int .u32 (s : Int)),
                    (fun y_ _ => y_ = .agg #[.int .i64 (aa : Int), .int .u32 (s : Int)]),
                    (fun y_ _ => y_ = .slice (some ⟨bx, OO, none⟩) LL CC),
                    (fun y_ _ => y_ = .pointer (some ⟨bx, OO + 2, none⟩)),
                    (fun y_ _ => y_ = .int .u64 (vv : Int)),
                    (fun y_ _ => y_ = .int .i64 (vv : Int)),
                    (fun y_ _ => y_ = .agg #[.int .i64 (aa : Int), .int .u32 (s : Int), .int .i64 (vv : Int)]),
                    (fun y_ _ => y_ = .pointer (some ⟨g10, j * 3, none⟩)),
                    (fun y_ _ => y_ = undef)]
                    ((fun (b : Bool) (x : World) => (b = false → Blk x g10 63 (mcells (fillTo B j)) ∧ x.cell? ⟨bx, OO, none⟩ = some (.int .u64 (aa : Int)) ∧ x.cell? ⟨bx, OO + 1, none⟩ = some (.int .u64 (s : Int)) ∧ x.cell? ⟨bx, OO + 2, none⟩ = some (.int .u64 (vv : Int))) ∧ (b = true → Blk x g10 63 (mcells (fillTo B (j + 1)))) ∧ w3.grownBy x (some g10))) (fun _ _ => True) (by kernel_rfl) rfl (by decide) (by kernel_rfl) (by kernel_rfl) ?_ ?_ ?_ ?_ ?_
                  · exact hG0
                  · exact ⟨stab_eq _, stab_eq _, stab_eq _, stab_eq _, stab_eq _, stab_eq _, stab_eq _, stab_eq _, stab_eq _, stab_eq _, stab_eq _, stab_eq _, stab_eq _, stab_eq _, stab_eq _, stab_eq _, stab_eq _, trivial⟩
                  · exact ⟨stabE_eq _, stabE_eq _, stabE_eq _, stabE_eq _, stabE_eq _, stabE_eq _, stabE_eq _, stabE_eq _, stabE_eq _, stabE_eq _, stabE_eq _, stabE_eq _, stabE_eq _, stabE_eq _, stabE_eq _, stabE_eq _, trivial⟩
                  · refine ⟨?_, ?_, ?_, ?_, ?_, ?_, ?_, ?_, ?_, ?_, ?_, ?_, ?_, ?_, ?_, ?_, ?_, trivial⟩
                    · intro a x hG hd hs K hK
                      replace hG : ((fun (b : Bool) (x : World) => (b = false → Blk x g10 63 (mcells (fillTo B j)) ∧ x.cell? ⟨bx, OO, none⟩ = some (.int .u64 (aa : Int)) ∧ x.cell? ⟨bx, OO + 1, none⟩ = some (.int .u64 (s : Int)) ∧ x.cell? ⟨bx, OO + 2, none⟩ = some (.int .u64 (vv : Int))) ∧ (b = true → Blk x g10 63 (mcells (fillTo B (j + 1)))) ∧ w3.grownBy x (some g10))) false x := hG
                      have h11 : a.tmps.getD 11 undef = .int .i64 (j : Int) := hs 11 (by kernel_rfl)
                      clear hd hs
                      refine wpOp_plain rfl rfl ?_
                      go_simp
                      exact hK _ _ rfl hG (Below.refl _ _)
                    · intro a x hG hd hs K hK
                      replace hG : ((fun (b : Bool) (x : World) => (b = false → Blk x g10 63 (mcells (fillTo B j)) ∧ x.cell? ⟨bx, OO, none⟩ = some (.int .u64 (aa : Int)) ∧ x.cell? ⟨bx, OO + 1, none⟩ = some (.int .u64 (s : Int)) ∧ x.cell? ⟨bx, OO + 2, none⟩ = some (.int .u64 (vv : Int))) ∧ (b = true → Blk x g10 63 (mcells (fillTo B (j + 1)))) ∧ w3.grownBy x (some g10))) false x := hG
                      have h12 : a.tmps.getD 12 undef = .slice (some ⟨bx, OO, none⟩) LL CC := hs 12 (by kernel_rfl)
                      clear hd hs
                      refine wpOp_plain rfl rfl ?_
                      go_simp
                      exact hK _ _ rfl hG (Below.refl _ _)
                    · intro a x hG hd hs K hK
                      replace hG : ((fun (b : Bool) (x : World) => (b = false → Blk x g10 63 (mcells (fillTo B j)) ∧ x.cell? ⟨bx, OO, none⟩ = some (.int .u64 (aa : Int)) ∧ x.cell? ⟨bx, OO + 1, none⟩ = some (.int .u64 (s : Int)) ∧ x.cell? ⟨bx, OO + 2, none⟩ = some (.int .u64 (vv : Int))) ∧ (b = true → Blk x g10 63 (mcells (fillTo B (j + 1)))) ∧ w3.grownBy x (some g10))) false x := hG
                      have h64 : a.tmps.getD 64 undef = .slice (some ⟨bx, OO, none⟩) LL CC := hd 1 64 (by kernel_rfl)
                      clear hd hs
                      refine wpOp_plain rfl rfl ?_
                      go_simp
                      exact hK _ _ rfl hG (Below.refl _ _)
                    · intro a x hG hd hs K hK
                      replace hG : ((fun (b : Bool) (x : World) => (b = false → Blk x g10 63 (mcells (fillTo B j)) ∧ x.cell? ⟨bx, OO, none⟩ = some (.int .u64 (aa : Int)) ∧ x.cell? ⟨bx, OO + 1, none⟩ = some (.int .u64 (s : Int)) ∧ x.cell? ⟨bx, OO + 2, none⟩ = some (.int .u64 (vv : Int))) ∧ (b = true → Blk x g10 63 (mcells (fillTo B (j + 1)))) ∧ w3.grownBy x (some g10))) false x := hG
                      have h65 : a.tmps.getD 65 undef = .pointer (some ⟨bx, OO, none⟩) := hd 2 65 (by kernel_rfl)
                      clear hd hs
                      refine wpOp_plain rfl rfl ?_
                      have hc := (hG.1 rfl).2.1
                      go_simp
                      exact hK _ _ rfl hG (Below.refl _ _)
                    · intro a x hG hd hs K hK
                      replace hG : ((fun (b : Bool) (x : World) => (b = false → Blk x g10 63 (mcells (fillTo B j)) ∧ x.cell? ⟨bx, OO, none⟩ = some (.int .u64 (aa : Int)) ∧ x.cell? ⟨bx, OO + 1, none⟩ = some (.int .u64 (s : Int)) ∧ x.cell? ⟨bx, OO + 2, none⟩ = some (.int .u64 (vv : Int))) ∧ (b = true → Blk x g10 63 (mcells (fillTo B (j + 1)))) ∧ w3.grownBy x (some g10))) false x := hG
                      have h66 : a.tmps.getD 66 undef = .int .u64 (aa : Int) := hd 3 66 (by kernel_rfl)
                      clear hd hs
                      refine wpOp_plain rfl rfl ?_
                      have hwr : IntKind.i64.wrap (aa : Int) = (aa : Int) := IntWalk.i64_in _ (by omega)
                      go_simp
                      exact hK _ _ rfl hG (Below.refl _ _)
                    · intro a x hG hd hs K hK
                      replace hG : ((fun (b : Bool) (x : World) => (b = false → Blk x g10 63 (mcells (fillTo B j)) ∧ x.cell? ⟨bx, OO, none⟩ = some (.int .u64 (aa : Int)) ∧ x.cell? ⟨bx, OO + 1, none⟩ = some (.int .u64 (s : Int)) ∧ x.cell? ⟨bx, OO + 2, none⟩ = some (.int .u64 (vv : Int))) ∧ (b = true → Blk x g10 63 (mcells (fillTo B (j + 1)))) ∧ w3.grownBy x (some g10))) false x := hG
                      have h12 : a.tmps.getD 12 undef = .slice (some ⟨bx, OO, none⟩) LL CC := hs 12 (by kernel_rfl)
                      clear hd hs
                      refine wpOp_plain rfl rfl ?_
                      go_simp
                      exact hK _ _ rfl hG (Below.refl _ _)
                    · intro a x hG hd hs K hK
                      replace hG : ((fun (b : Bool) (x : World) => (b = false → Blk x g10 63 (mcells (fillTo B j)) ∧ x.cell? ⟨bx, OO, none⟩ = some (.int .u64 (aa : Int)) ∧ x.cell? ⟨bx, OO + 1, none⟩ = some (.int .u64 (s : Int)) ∧ x.cell? ⟨bx, OO + 2, none⟩ = some (.int .u64 (vv : Int))) ∧ (b = true → Blk x g10 63 (mcells (fillTo B (j + 1)))) ∧ w3.grownBy x (some g10))) false x := hG
                      have h68 : a.tmps.getD 68 undef = .slice (some ⟨bx, OO, none⟩) LL CC := hd 5 68 (by kernel_rfl)
                      clear hd hs
                      refine wpOp_plain rfl rfl ?_
                      go_simp
                      exact hK _ _ rfl hG (Below.refl _ _)
                    · intro a x hG hd hs K hK
                      replace hG : ((fun (b : Bool) (x : World) => (b = false → Blk x g10 63 (mcells (fillTo B j)) ∧ x.cell? ⟨bx, OO, none⟩ = some (.int .u64 (aa : Int)) ∧ x.cell? ⟨bx, OO + 1, none⟩ = some (.int .u64 (s : Int)) ∧ x.cell? ⟨bx, OO + 2, none⟩ = some (.int .u64 (vv : Int))) ∧ (b = true → Blk x g10 63 (mcells (fillTo B (j + 1)))) ∧ w3.grownBy x (some g10))) false x := hG
                      have h69 : a.tmps.getD 69 undef = .pointer (some ⟨bx, OO + 1, none⟩) := hd 6 69 (by kernel_rfl)
                      clear hd hs
                      refine wpOp_plain rfl rfl ?_
                      have hc := (hG.1 rfl).2.2.1
                      go_simp
                      exact hK _ _ rfl hG (Below.refl _ _)
                    · intro a x hG hd hs K hK
                      replace hG : ((fun (b : Bool) (x : World) => (b = false → Blk x g10 63 (mcells (fillTo B j)) ∧ x.cell? ⟨bx, OO, none⟩ = some (.int .u64 (aa : Int)) ∧ x.cell? ⟨bx, OO + 1, none⟩ = some (.int .u64 (s : Int)) ∧ x.cell? ⟨bx, OO + 2, none⟩ = some (.int .u64 (vv : Int))) ∧ (b = true → Blk x g10 63 (mcells (fillTo B (j + 1)))) ∧ w3.grownBy x (some g10))) false x := hG
                      have h70 : a.tmps.getD 70 undef = .int .u64 (s : Int) := hd 7 70 (by kernel_rfl)
                      clear hd hs
                      refine wpOp_plain rfl rfl ?_
                      have hwr : IntKind.u32.wrap (s : Int) = (s : Int) := IntWalk.u32_in _ (by omega)
                      go_simp
                      exact hK _ _ rfl hG (Below.refl _ _)
                    · intro a x hG hd hs K hK
                      replace hG : ((fun (b : Bool) (x : World) => (b = false → Blk x g10 63 (mcells (fillTo B j)) ∧ x.cell? ⟨bx, OO, none⟩ = some (.int .u64 (aa : Int)) ∧ x.cell? ⟨bx, OO + 1, none⟩ = some (.int .u64 (s : Int)) ∧ x.cell? ⟨bx, OO + 2, none⟩ = some (.int .u64 (vv : Int))) ∧ (b = true → Blk x g10 63 (mcells (fillTo B (j + 1)))) ∧ w3.grownBy x (some g10))) false x := hG
                      have h67 : a.tmps.getD 67 undef = .int .i64 (aa : Int) := hd 4 67 (by kernel_rfl)
                      have h67o := getD_opt h67
                      have h71 : a.tmps.getD 71 undef = .int .u32 (s : Int) := hd 8 71 (by kernel_rfl)
                      have h71o := getD_opt h71
                      clear hd hs
                      refine wpOp_plain rfl rfl ?_
                      go_simp
                      exact hK _ _ rfl hG (Below.refl _ _)
                    · intro a x hG hd hs K hK
                      replace hG : ((fun (b : Bool) (x : World) => (b = false → Blk x g10 63 (mcells (fillTo B j)) ∧ x.cell? ⟨bx, OO, none⟩ = some (.int .u64 (aa : Int)) ∧ x.cell? ⟨bx, OO + 1, none⟩ = some (.int .u64 (s : Int)) ∧ x.cell? ⟨bx, OO + 2, none⟩ = some (.int .u64 (vv : Int))) ∧ (b = true → Blk x g10 63 (mcells (fillTo B (j + 1)))) ∧ w3.grownBy x (some g10))) false x := hG
                      have h12 : a.tmps.getD 12 undef = .slice (some ⟨bx, OO, none⟩) LL CC := hs 12 (by kernel_rfl)
                      clear hd hs
                      refine wpOp_plain rfl rfl ?_
                      go_simp
                      exact hK _ _ rfl hG (Below.refl _ _)
                    · intro a x hG hd hs K hK
                      replace hG : ((fun (b : Bool) (x : World) => (b = false → Blk x g10 63 (mcells (fillTo B j)) ∧ x.cell? ⟨bx, OO, none⟩ = some (.int .u64 (aa : Int)) ∧ x.cell? ⟨bx, OO + 1, none⟩ = some (.int .u64 (s : Int)) ∧ x.cell? ⟨bx, OO + 2, none⟩ = some (.int .u64 (vv : Int))) ∧ (b = true → Blk x g10 63 (mcells (fillTo B (j + 1)))) ∧ w3.grownBy x (some g10))) false x := hG
                      have h73 : a.tmps.getD 73 undef = .slice (some ⟨bx, OO, none⟩) LL CC := hd 10 73 (by kernel_rfl)
                      clear hd hs
                      refine wpOp_plain rfl rfl ?_
                      go_simp
                      exact hK _ _ rfl hG (Below.refl _ _)
                    · intro a x hG hd hs K hK
                      replace hG : ((fun (b : Bool) (x : World) => (b = false → Blk x g10 63 (mcells (fillTo B j)) ∧ x.cell? ⟨bx, OO, none⟩ = some (.int .u64 (aa : Int)) ∧ x.cell? ⟨bx, OO + 1, none⟩ = some (.int .u64 (s : Int)) ∧ x.cell? ⟨bx, OO + 2, none⟩ = some (.int .u64 (vv : Int))) ∧ (b = true → Blk x g10 63 (mcells (fillTo B (j + 1)))) ∧ w3.grownBy x (some g10))) false x := hG
                      have h74 : a.tmps.getD 74 undef = .pointer (some ⟨bx, OO + 2, none⟩) := hd 11 74 (by kernel_rfl)
                      clear hd hs
                      refine wpOp_plain rfl rfl ?_
                      have hc := (hG.1 rfl).2.2.2
                      go_simp
                      exact hK _ _ rfl hG (Below.refl _ _)
                    · intro a x hG hd hs K hK
                      replace hG : ((fun (b : Bool) (x : World) => (b = false → Blk x g10 63 (mcells (fillTo B j)) ∧ x.cell? ⟨bx, OO, none⟩ = some (.int .u64 (aa : Int)) ∧ x.cell? ⟨bx, OO + 1, none⟩ = some (.int .u64 (s : Int)) ∧ x.cell? ⟨bx, OO + 2, none⟩ = some (.int .u64 (vv : Int))) ∧ (b = true → Blk x g10 63 (mcells (fillTo B (j + 1)))) ∧ w3.grownBy x (some g10))) false x := hG
                      have h75 : a.tmps.getD 75 undef = .int .u64 (vv : Int) := hd 12 75 (by kernel_rfl)
                      clear hd hs
                      refine wpOp_plain rfl rfl ?_
                      have hwr : IntKind.i64.wrap (vv : Int) = (vv : Int) := IntWalk.i64_in _ (by omega)
                      go_simp
                      exact hK _ _ rfl hG (Below.refl _ _)
                    · intro a x hG hd hs K hK
                      replace hG : ((fun (b : Bool) (x : World) => (b = false → Blk x g10 63 (mcells (fillTo B j)) ∧ x.cell? ⟨bx, OO, none⟩ = some (.int .u64 (aa : Int)) ∧ x.cell? ⟨bx, OO + 1, none⟩ = some (.int .u64 (s : Int)) ∧ x.cell? ⟨bx, OO + 2, none⟩ = some (.int .u64 (vv : Int))) ∧ (b = true → Blk x g10 63 (mcells (fillTo B (j + 1)))) ∧ w3.grownBy x (some g10))) false x := hG
                      have h72 : a.tmps.getD 72 undef = .agg #[.int .i64 (aa : Int), .int .u32 (s : Int)] := hd 9 72 (by kernel_rfl)
                      have h72o := getD_opt h72
                      have h76 : a.tmps.getD 76 undef = .int .i64 (vv : Int) := hd 13 76 (by kernel_rfl)
                      have h76o := getD_opt h76
                      clear hd hs
                      refine wpOp_plain rfl rfl ?_
                      go_simp
                      exact hK _ _ rfl hG (Below.refl _ _)
                    · intro a x hG hd hs K hK
                      replace hG : ((fun (b : Bool) (x : World) => (b = false → Blk x g10 63 (mcells (fillTo B j)) ∧ x.cell? ⟨bx, OO, none⟩ = some (.int .u64 (aa : Int)) ∧ x.cell? ⟨bx, OO + 1, none⟩ = some (.int .u64 (s : Int)) ∧ x.cell? ⟨bx, OO + 2, none⟩ = some (.int .u64 (vv : Int))) ∧ (b = true → Blk x g10 63 (mcells (fillTo B (j + 1)))) ∧ w3.grownBy x (some g10))) false x := hG
                      have h10 : a.tmps.getD 10 undef = .pointer (some ⟨g10, 0, none⟩) := hs 10 (by kernel_rfl)
                      have h63 : a.tmps.getD 63 undef = .int .i64 (j : Int) := hd 0 63 (by kernel_rfl)
                      clear hd hs
                      refine wpOp_plain rfl rfl ?_
                      go_simp
                      exact hK _ _ rfl hG (Below.refl _ _)
                    · intro a x hG hd hs K hK
                      replace hG : ((fun (b : Bool) (x : World) => (b = false → Blk x g10 63 (mcells (fillTo B j)) ∧ x.cell? ⟨bx, OO, none⟩ = some (.int .u64 (aa : Int)) ∧ x.cell? ⟨bx, OO + 1, none⟩ = some (.int .u64 (s : Int)) ∧ x.cell? ⟨bx, OO + 2, none⟩ = some (.int .u64 (vv : Int))) ∧ (b = true → Blk x g10 63 (mcells (fillTo B (j + 1)))) ∧ w3.grownBy x (some g10))) false x := hG
                      have h78 : a.tmps.getD 78 undef = .pointer (some ⟨g10, j * 3, none⟩) := hd 15 78 (by kernel_rfl)
                      have h77 : a.tmps.getD 77 undef = .agg #[.int .i64 (aa : Int), .int .u32 (s : Int), .int .i64 (vv : Int)] := hd 14 77 (by kernel_rfl)
                      clear hd hs
                      refine wpOp_plain rfl rfl ?_
                      refine wp_store_mid 26 (.tmp 78) (.tmp 77) rfl g10 (j * 3) #[.int .i64 (aa : Int), .int .u32 (s : Int), .int .i64 (vv : Int)] h78 h77 ((hG.1 rfl).1.there _ 3 (by rw [HFL.out]; omega)) (by kernel_rfl) (by simp [Value.oneCell']) ?_
                      refine hK _ _ rfl ⟨(fun h => by cases h), fun _ => ?_, hG.2.2.trans (grown_setCells _ _ _)⟩ trivial
                      rw [← HFS.out, Nat.mul_comm 3 j]
                      exact (hG.1 rfl).1.setCells (scells ⟨(aa : Int), s, (vv : Int)⟩) (j * 3) (by rw [HFL.out]; show j * 3 + 3 ≤ 30; omega)
                  · intro x hG
                    rintro _ rfl _ rfl _ rfl _ rfl _ rfl _ rfl _ rfl _ rfl _ rfl _ rfl _ rfl _ rfl _ rfl _ rfl _ rfl _ rfl
                    simp only [Act.put, List.setIfInBounds_toArray, List.set_cons_zero, List.set_cons_succ, REnd]
                    try simp only [Exit.then]
                    go_wp2
                    go_roundw
                    case rel => exact ⟨j + 1, by omega, by go_num, hG.2.1 rfl, hG.2.2⟩
                    case measure => simp [intOf]; omega
                · obtain rfl : j = 10 := by omega
                  rw [fillTo_ten HBL.out] at hkb
                  have kz2 := kz.grown hgr (fun e => by injection e with e; exact hne0 e)
                  have c4 := below_of_grown c3 hgr hg7 (by have := c3.size; omega)
                  rw [show (((10 : Nat) : Int)) = 10 from rfl]
                  go_upto_region 20 with (fail)
                  have hG0 : (fun (f : Nat → Bool) (x : World) => Blk x g10 63 (mcells B) ∧ (f 4 = false → Blk x g0 63 (mcells tens)) ∧ (f 4 = true → Blk x g0 63 (mcells B)) ∧ Below w.heap.size w x) (fun _ => false) wr.drew := ⟨hkb.drew, fun _ => kz2.drew, (fun h => by cases h), c4.drew⟩
                  refine wp_region_flags 6 [magg B, magg B, .int .i64 (k : Int), .bool (Im.blkB B (k : Int)), undef, .bool (Im.blkB B (k : Int))] ((fun (f : Nat → Bool) (x : World) => Blk x g10 63 (mcells B) ∧ (f 4 = false → Blk x g0 63 (mcells tens)) ∧ (f 4 = true → Blk x g0 63 (mcells B)) ∧ Below w.heap.size w x)) (by kernel_rfl) rfl (by kernel_rfl) ?_ ?_ ?_
                  · exact hG0
                  · refine ⟨?_, ?_, ?_, ?_, ?_, ?_, trivial⟩
                    · intro f a x hfi hdf hG hd hs K hK
                      replace hG : ((fun (f : Nat → Bool) (x : World) => Blk x g10 63 (mcells B) ∧ (f 4 = false → Blk x g0 63 (mcells tens)) ∧ (f 4 = true → Blk x g0 63 (mcells B)) ∧ Below w.heap.size w x)) f x := hG
                      have h10 : a.tmps.getD 10 undef = .pointer (some ⟨g10, 0, none⟩) := hs 10 (by kernel_rfl)
                      clear hd hs
                      refine wpOp_plain rfl rfl ?_
                      refine wp_load_mid 63 (.tmp 10) rfl g10 0 h10 (mcells B) _ hG.1.range Try.underlying63 rfl (infoB _ HBL.out) ?_
                      exact hK _ _ rfl hG
                    · intro f a x hfi hdf hG hd hs K hK
                      replace hG : ((fun (f : Nat → Bool) (x : World) => Blk x g10 63 (mcells B) ∧ (f 4 = false → Blk x g0 63 (mcells tens)) ∧ (f 4 = true → Blk x g0 63 (mcells B)) ∧ Below w.heap.size w x)) f x := hG
                      have h10 : a.tmps.getD 10 undef = .pointer (some ⟨g10, 0, none⟩) := hs 10 (by kernel_rfl)
                      clear hd hs
                      refine wpOp_plain rfl rfl ?_
                      refine wp_load_mid 63 (.tmp 10) rfl g10 0 h10 (mcells B) _ hG.1.range Try.underlying63 rfl (infoB _ HBL.out) ?_
                      exact hK _ _ rfl hG
                    · intro f a x hfi hdf hG hd hs K hK
                      replace hG : ((fun (f : Nat → Bool) (x : World) => Blk x g10 63 (mcells B) ∧ (f 4 = false → Blk x g0 63 (mcells tens)) ∧ (f 4 = true → Blk x g0 63 (mcells B)) ∧ Below w.heap.size w x)) f x := hG
                      have h0 : a.tmps.getD 0 undef = .int .i64 (k : Int) := hs 0 (by kernel_rfl)
                      clear hd hs
                      refine wpOp_plain rfl rfl ?_
                      go_simp
                      exact hK _ _ rfl hG
                    · intro f a x hfi hdf hG hd hs K hK
                      replace hG : ((fun (f : Nat → Bool) (x : World) => Blk x g10 63 (mcells B) ∧ (f 4 = false → Blk x g0 63 (mcells tens)) ∧ (f 4 = true → Blk x g0 63 (mcells B)) ∧ Below w.heap.size w x)) f x := hG
                      have h81 : a.tmps.getD 81 undef = magg B := hd 1 81 (by kernel_rfl)
                      have h82 : a.tmps.getD 82 undef = .int .i64 (k : Int) := hd 2 82 (by kernel_rfl)
                      clear hd hs
                      refine wpOp_plain rfl rfl ?_
                      go_simp
                      refine (mayBlk_any B (k : Int) _ HBL.out).mono ?_
                      rintro e w' ⟨rfl, b9⟩
                      exact hK _ _ rfl ⟨hG.1.ext b9, fun h => (hG.2.1 h).ext b9, fun h => (hG.2.2.1 h).ext b9, hG.2.2.2.trans (b9.mono hG.2.2.2.size)⟩
                    · intro f a x hfi hdf hG hd hs K hK
                      replace hG : ((fun (f : Nat → Bool) (x : World) => Blk x g10 63 (mcells B) ∧ (f 4 = false → Blk x g0 63 (mcells tens)) ∧ (f 4 = true → Blk x g0 63 (mcells B)) ∧ Below w.heap.size w x)) f x := hG
                      have h4 : a.tmps.getD 4 undef = .pointer (some ⟨g0, 0, none⟩) := hs 4 (by kernel_rfl)
                      have h80 : a.tmps.getD 80 undef = magg B := hd 0 80 (by kernel_rfl)
                      clear hd hs
                      refine wpOp_plain rfl rfl ?_
                      have kt := hG.2.1 hfi
                      have hlt3 : 0 + (mcells B).length ≤ (mcells tens).length := by rw [mcells_len, mcells_len, HBL.out]; decide
                      refine wp_store_mid 63 (.tmp 4) (.tmp 80) rfl g0 0 (mcells B).toArray h4 h80 (kt.there 0 _ (by rw [List.size_toArray]; exact hlt3)) (infoB _ HBL.out) (all_oneCell_toArray mcells_one) ?_
                      have kt2 := kt.setCells (mcells B) 0 hlt3
                      rw [spl_all _ _ (by rw [mcells_len, mcells_len, HBL.out]; rfl)] at kt2
                      exact hK _ _ rfl ⟨hG.1.grown (grown_setCells (g := g0) (mcells B) _ 0) (fun e => by injection e with e; exact hne0 e.symm), (fun h => by cases h), fun _ => kt2, below_setCells (o := 0) (vs := mcells B) hG.2.2.2 hg1⟩
                    · intro f a x hfi hdf hG hd hs K hK
                      replace hG : ((fun (f : Nat → Bool) (x : World) => Blk x g10 63 (mcells B) ∧ (f 4 = false → Blk x g0 63 (mcells tens)) ∧ (f 4 = true → Blk x g0 63 (mcells B)) ∧ Below w.heap.size w x)) f x := hG
                      have h83 : a.tmps.getD 83 undef = .bool (Im.blkB B (k : Int)) := hd 3 83 (by kernel_rfl)
                      clear hd hs
                      refine wpOp_plain rfl rfl ?_
                      go_simp
                      exact hK _ _ rfl hG
                  · intro x hG
                    rintro _ rfl _ rfl _ rfl _ rfl _ rfl
                    simp only [Act.put, List.setIfInBounds_toArray, List.set_cons_zero, List.set_cons_succ, REnd]
                    try simp only [Exit.then]
                    have kf := hG.2.2.1 rfl
                    go_wp2
                    refine bodyPost_ret (v := .tuple #[magg B, .bool (Im.blkB B (k : Int))]) (res_cell2 (mcells B) _ Try.results34 rfl kf.range Try.underlying63 rfl (infoB _ HBL.out) rfl) rfl ?_
                    exact ReadI.yes HE.out HXX.out rfl hG.2.2.2
end Go.Proofs.Ytpgibmffgliibaa
