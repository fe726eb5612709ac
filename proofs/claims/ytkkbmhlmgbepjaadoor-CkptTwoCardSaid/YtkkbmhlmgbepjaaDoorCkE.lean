/-
  The walk of ckpt.Encode. By an AI agent.
-/
import Derived.Test.YtkkbmhlmgbepjaaDoorCkW
namespace Go.Proofs.YtkkbmhlmgbepjaaDoor
open Go.RowKit Go.ChangeShapes Go.WideShapes Go.ChangeAt

/-- One element of an array that is a value. -/
theorem run_idx {P : Program} {t e : TypeId} {n : Nat} (d : Nat) (ht : P.underlying t = some (.array n e)) (he : chkT P d e = true) {i : TypeInfo} (hi : P.info? e = some i) (cs : List Value) (k : Nat) (hk : k < n) (hl : k * P.cellsOf e + P.cellsOf e ≤ cs.length) (z : Int) (hz : z = k) (W : World) :
    (Instr.index t (.agg cs.toArray) (.int .i64 z)).run P W = .ok (mkV P e ((cs.drop (k * P.cellsOf e)).take (P.cellsOf e))) W := by
  subst hz
  have h1 : (0 : Int) ≤ (k : Int) ∧ (k : Int) < (n : Int) := by omega
  simp only [Instr.index, asIntOf, Sem.run_bind, Sem.run_pure, Result.andThen_ok, run_underlying ht, h1, and_self, if_true, run_sizeOf W hi, Int.toNat_natCast]
  rw [part_mk he cs.toArray _ (by simpa using hl) W]
theorem chkPtr : chkT Tryd.prog 3 24 = true := by kernel_rfl
theorem chkInt : chkT Tryd.prog 3 3 = true := by kernel_rfl
theorem cellsPtr : Tryd.prog.cellsOf 24 = 2 := by kernel_rfl
theorem cellsInt : Tryd.prog.cellsOf 3 = 1 := by kernel_rfl
theorem idx_ptr (ps : List (Int × Nat)) (hl : ps.length = 4) (k : Nat) (hk : k < 4) (z : Int) (hz : z = k) (W : World) :
    (Instr.index 25 (.agg (pcells ps).toArray) (.int .i64 z)).run Tryd.prog W = .ok (.agg #[.int .i64 (ps[k]'(by omega)).1, .int .u32 ((ps[k]'(by omega)).2 : Int)]) W := by
  obtain ⟨i, hi⟩ : ∃ i, Tryd.prog.info? 24 = some i := Option.isSome_iff_exists.1 (by kernel_rfl)
  have := run_idx 3 Tryd.underlying25 chkPtr hi (pcells ps) k hk (by rw [cellsPtr, pcells_len]; omega) z hz W
  rw [this, cellsPtr]
  have e : ((pcells ps).drop (k * 2)).take 2 = [.int .i64 (ps[k]'(by omega)).1, .int .u32 ((ps[k]'(by omega)).2 : Int)] := by
    have h := pcells_at ps k (by omega)
    have hlen := pcells_len ps
    rw [List.drop_eq_getElem_cons (by omega), List.drop_eq_getElem_cons (by omega), List.take_succ_cons, List.take_succ_cons, List.take_zero]
    rw [List.getElem?_eq_getElem (by omega), List.getElem?_eq_getElem (by omega)] at h
    rw [Option.some.inj h.1, Option.some.inj h.2]
  rw [e]
  unfold mkV
  rw [Tryd.underlying24]
theorem idx_int (us : List Int) (hl : us.length = 8) (k : Nat) (hk : k < 8) (z : Int) (hz : z = k) (W : World) :
    (Instr.index 26 (.agg (ucells us).toArray) (.int .i64 z)).run Tryd.prog W = .ok (.int .i64 (us[k]'(by omega))) W := by
  obtain ⟨i, hi⟩ : ∃ i, Tryd.prog.info? 3 = some i := Option.isSome_iff_exists.1 (by kernel_rfl)
  have := run_idx 3 Tryd.underlying26 chkInt hi (ucells us) k hk (by rw [cellsInt, ucells_len]; omega) z hz W
  rw [this, cellsInt]
  have e : ((ucells us).drop (k * 1)).take 1 = [.int .i64 (us[k]'(by omega))] := by
    have hlen := ucells_len us
    rw [Nat.mul_one, List.drop_eq_getElem_cons (by omega), List.take_succ_cons, List.take_zero]
    unfold ucells
    rw [List.getElem_map]
  rw [e]
  unfold mkV
  rw [Tryd.underlying3]
  rfl
def cH (x : Ck.Ck) : List (Int × Nat) := [(4, 1667985524), (6, x.s.toNat), (6, x.n.toNat), (4, x.a.toNat)]
def uN (us : List Int) : List (Int × Nat) := us.map fun u => (2, u.toNat)
theorem ckN_eq (x : Ck.Ck) (hm : x.mp.length = 4) (hu : x.us.length = 8) : Ck.ckW.zip (Ck.ckV x) = cH x ++ (pN x.mp ++ uN x.us) := by
  have h2 : (Ck.uW 8).zip (Ck.uV x.us) = uN x.us := by
    have key : ∀ l : List Int, (Ck.uW l.length).zip (Ck.uV l) = uN l := by
      intro l
      induction l with
      | nil => rfl
      | cons u l ih =>
        unfold Ck.uW Ck.uV uN at ih ⊢
        rw [List.length_cons, List.replicate_succ, List.map_cons, List.zip_cons_cons, List.map_cons, ih]
    rw [← hu]; exact key x.us
  unfold Ck.ckW Ck.ckV
  rw [Nd.zip_app _ _ _ _ rfl, Nd.zip_app _ _ _ _ (by rw [Nd.pW_len, Nd.pV_len, hm]), h2]
  unfold pN
  rw [hm]
  rfl
theorem ccells_mapR (x : Ck.Ck) : pcells x.mp = ((ccells x).drop 3).take (pcells x.mp).length := by
  unfold ccells
  rw [List.drop_succ_cons, List.drop_succ_cons, List.drop_succ_cons, List.drop_zero, List.take_left]
theorem ccells_usedR (x : Ck.Ck) (hm : x.mp.length = 4) : ucells x.us = ((ccells x).drop 11).take (ucells x.us).length := by
  unfold ccells
  rw [List.drop_succ_cons, List.drop_succ_cons, List.drop_succ_cons, List.drop_left' (by rw [pcells_len, hm]), List.take_length]
theorem uN_snoc (us : List Int) (k : Nat) (h : k < us.length) : uN (us.take (k + 1)) = uN (us.take k) ++ [(2, us[k].toNat)] := by
  unfold uN
  rw [List.take_succ_eq_append_getElem h, List.map_append]; rfl
theorem pN_snoc (ps : List (Int × Nat)) (k : Nat) (h : k < ps.length) : pN (ps.take (k + 1)) = pN (ps.take k) ++ [(4, ps[k].1.toNat), (4, ps[k].2)] := by
  rw [List.take_succ_eq_append_getElem h, pN_app]; congr 1

set_option maxHeartbeats 1000000 in
theorem encodeC_no (x : Ck.Ck) (w : World) (hm : x.mp.length = 4) (hu : x.us.length = 8) (hn : Ck.mayB x = false) :
    Calls Tryd.prog 12 #[cagg x] w fun e w' => e = .returned (.tuple #[.slice none 0 0, .int .i64 1]) ∧ Below w.heap.size w w' := by
  unfold cagg
  go_enter Tryd.func12, Tryd.ntmps12
  go_upto_region 1 with (fail)
  have hk := Blk.new w 28 (ccells x).toArray
  have hb := (Below.refl w.heap.size w).alloc (Nat.le_refl _) (.cells (ccells x).toArray 28)
  change Blk _ _ _ (ccells x) at hk
  generalize w.alloc (.cells (ccells x).toArray 28) = w0 at *
  generalize w.heap.size = gq at hk ⊢
  have hrg := hk.range
  go_wp2_with (refine wpList_load_at 28 (.tmp 1) rfl rfl gq 0 rfl (ccells x) _ hrg Tryd.underlying28 rfl (infoC x hm hu) ?_)
  refine (mayC_any x _ hm hu).mono ?_
  rintro e w1 ⟨rfl, b1⟩
  rw [hn]
  go_wp2
  go_ret2
  exact ⟨rfl, hb.trans (b1.mono hb.size)⟩

set_option maxRecDepth 100000 in
set_option maxHeartbeats 4000000 in
theorem encodeC_yes (x : Ck.Ck) (w : World) (hg : Ck.Good x) (hmy : Ck.mayB x = true) (hH : Halves w) :
    Calls Tryd.prog 12 #[cagg x] w (Made (Ck.ckE x) w) := by
  have HM := Lib.hid hg.1
  have HU := Lib.hid hg.2.1
  have HS := Lib.hid hg.2.2
  have HC := Lib.hid (Ck.ck_chk x hmy hg)
  have HL := Lib.hid (Ck.ckE_len x hg)
  have HE := Lib.hid (show Ck.ckE x = Crc.sealed (Pk.recs (cH x ++ (pN x.mp ++ uN x.us))) by rw [← ckN_eq x hg.1 hg.2.1]; rfl)
  rw [ckN_eq x hg.1 hg.2.1] at HC HL
  obtain ⟨p1, p2, p3⟩ := Ck.may_parts hmy
  have HP2 := Lib.hid p2
  have HP3 := Lib.hid p3
  obtain ⟨sn, hsn⟩ := Int.eq_ofNat_of_zero_le (show 0 ≤ x.s by omega)
  obtain ⟨nn, hnn⟩ := Int.eq_ofNat_of_zero_le (show 0 ≤ x.n by omega)
  obtain ⟨an, han⟩ := Int.eq_ofNat_of_zero_le (show 0 ≤ x.a by omega)
  have HNE := Lib.hid (show ncells (cH x) = [.int .i64 4, .int .u64 1667985524, .int .i64 6, .int .u64 (sn : Int), .int .i64 6, .int .u64 (nn : Int), .int .i64 4, .int .u64 (an : Int)] by
    unfold ncells cH
    rw [hsn, hnn, han]
    rfl)
  have l1 : sn ≤ 281474976710655 := by omega
  have l2 : nn ≤ 281474976710655 := by omega
  have l3 : an ≤ 2147483647 := by omega
  have HMY := Lib.hid hmy
  clear hg hmy p1 p2 p3
  unfold cagg
  go_enter Tryd.func12, Tryd.ntmps12
  go_upto_region 1 with (fail)
  have hk := Blk.new w 28 (ccells x).toArray
  have hb := (Below.refl w.heap.size w).alloc (Nat.le_refl _) (.cells (ccells x).toArray 28)
  change Blk _ _ _ (ccells x) at hk
  generalize w.alloc (.cells (ccells x).toArray 28) = w0 at *
  generalize w.heap.size = gq at hk ⊢
  have hrg := hk.range
  go_wp2_with (refine wpList_load_at 28 (.tmp 1) rfl rfl gq 0 rfl (ccells x) _ hrg Tryd.underlying28 rfl (infoC x HM.out HU.out) ?_)
  refine (mayC_any x _ HM.out HU.out).mono ?_
  rintro e w1 ⟨rfl, b1⟩
  rw [HMY.out]
  have k1 := hk.ext b1
  have c1 := hb.trans (b1.mono hb.size)
  have x0 := k1.cell 0
  have x1 := k1.cell 1
  have x2 := k1.cell 2
  unfold ccells at x0 x1 x2
  simp only [List.getElem?_cons_zero, List.getElem?_cons_succ] at x0 x1 x2
  rw [hsn] at x0
  rw [hnn] at x1
  rw [han] at x2
  clear hrg hk b1 hb hsn hnn han
  go_upto_region 4 with (fail)
  have hown0 := (Blk.new w1 58 #[.int .i64 4, .int .u64 1667985524, .int .i64 6, .int .u64 (sn : Int), .int .i64 6, .int .u64 (nn : Int), .int .i64 4, .int .u64 (an : Int)]).own (base := w1.heap.size) (Nat.le_refl _) 4 4 2 rfl (Nat.le_refl _) (by simp [maxLen])
  rw [List.take_of_length_le (by simp)] at hown0
  have k2 := k1.alloc (.cells #[.int .i64 4, .int .u64 1667985524, .int .i64 6, .int .u64 (sn : Int), .int .i64 6, .int .u64 (nn : Int), .int .i64 4, .int .u64 (an : Int)] 58)
  have b2 := (Below.refl w1.heap.size w1).alloc (Nat.le_refl _) (.cells #[.int .i64 4, .int .u64 1667985524, .int .i64 6, .int .u64 (sn : Int), .int .i64 6, .int .u64 (nn : Int), .int .i64 4, .int .u64 (an : Int)] 58)
  rw [show (#[.int .i64 4, .int .u64 1667985524, .int .i64 6, .int .u64 (sn : Int), .int .i64 6, .int .u64 (nn : Int), .int .i64 4, .int .u64 (an : Int)] : Array Value).toList = ncells (cH x) from HNE.out.symm] at hown0
  generalize w1.alloc (.cells #[.int .i64 4, .int .u64 1667985524, .int .i64 6, .int .u64 (sn : Int), .int .i64 6, .int .u64 (nn : Int), .int .i64 4, .int .u64 (an : Int)] 58) = w2 at *
  have r2 := k2.rangeMid 3 _ (ccells_mapR x)
  generalize hv4 : Value.slice (some ⟨w1.heap.size, 0, none⟩) 4 4 = v4 at hown0 ⊢
  clear hv4 x0 x1 x2
  have hgl := k1.lt
  have HI25 := Lib.hid (show (Tryd.prog.info? 25).map (·.size) = some (pcells x.mp).length by rw [pcells_len, HM.out]; kernel_rfl)
  have HI26 := Lib.hid (show (Tryd.prog.info? 26).map (·.size) = some (ucells x.us).length by rw [ucells_len, HU.out]; kernel_rfl)
  go_wp2_with (refine wpList_load_at 25 (.tmp 28) rfl rfl gq 3 rfl (pcells x.mp) _ r2 Tryd.underlying25 rfl HI25.out ?_)
  clear r2 k2
  go_loopw [4, 30] (fun y i wr => ∃ k : Nat, k ≤ 4 ∧ i = .int .i64 k ∧ wr.ownsRow w1.heap.size 58 2 y (4 + 2 * k) (ncells (cH x ++ pN (x.mp.take k))) ∧ Below w1.heap.size w1 wr) (fun _ i _ => 4 - (intOf i).toNat)
  case atStart => exact ⟨0, by omega, rfl, by rw [show pN (x.mp.take 0) = [] from rfl, List.append_nil]; exact hown0, b2⟩
  case round =>
    obtain ⟨k, hk, rfl, hown, hbw⟩ := hrel
    clear hown0 b2
    by_cases hlt : k < 4
    · have hkl : k < x.mp.length := by rw [HM.out]; exact hlt
      have HIX := Lib.hid (fun W => idx_ptr x.mp HM.out k hlt (k : Int) rfl W)
      have HSN := Lib.hid (show ncells (cH x ++ pN (x.mp.take (k + 1))) = ncells (cH x ++ pN (x.mp.take k)) ++ ncells [(4, x.mp[k].1.toNat), (4, x.mp[k].2)] by rw [pN_snoc x.mp k hkl, ← List.append_assoc, ncells_app])
      have hpb := List.all_eq_true.1 HP2.out _ (List.getElem_mem hkl)
      have hps := HS.out _ (List.getElem_mem hkl)
      unfold Ck.ptB at hpb
      rw [decide_eq_true_iff] at hpb
      generalize x.mp[k] = p at *
      obtain ⟨aa, s⟩ := p
      simp only at HSN hpb hps HIX
      obtain ⟨aa, rfl⟩ := Int.eq_ofNat_of_zero_le (show 0 ≤ aa by omega)
      rw [Int.toNat_natCast] at HSN
      have hal : aa ≤ 2147483647 := by omega
      clear hpb
      have hix := HIX.out
      go_wp2_with (at_builtin; refine stop_ ?_)
      clear hix HIX
      have hz1 : (wr.alloc (.cells #[.int .i64 (aa : Int), .int .u32 (s : Int)] 24)).heap.size = wr.heap.size + 1 := by simp
      have hkn := Blk.new (wr.alloc (.cells #[.int .i64 (aa : Int), .int .u32 (s : Int)] 24)) 58 #[.int .i64 4, .int .u64 (aa : Int), .int .i64 4, .int .u64 (s : Int)]
      rw [hz1] at hkn
      have ho2 := (hown.alloc (.cells #[.int .i64 (aa : Int), .int .u32 (s : Int)] 24)).alloc (.cells #[.int .i64 4, .int .u64 (aa : Int), .int .i64 4, .int .u64 (s : Int)] 58)
      have d1 := hbw.alloc hbw.size (.cells #[.int .i64 (aa : Int), .int .u32 (s : Int)] 24)
      have d2 := d1.alloc d1.size (.cells #[.int .i64 4, .int .u64 (aa : Int), .int .i64 4, .int .u64 (s : Int)] 58)
      obtain ⟨ua, wa, hruna, howna, hgra, _⟩ := run_append_rds (P := Tryd.prog) (ty := 59) Tryd.underlying59 infoNum rfl (by decide) ho2 (hkn.rds 0 2 2 2 (by simp) (by omega) (by simp [maxLen])) (by simp [Value.oneCell']) (by rw [maxLen_eq]; omega) (by omega) d2.size
      refine wpList_append_run (v := u4) (u := .slice (some ⟨wr.heap.size + 1, 0, none⟩) 2 2) rfl (.tmp 33) (.tmp 42) 59 rfl rfl rfl hruna ?_
      have d3 := d2.grown hgra d2.size (fun g hg => (ho2.lt g hg).1)
      clear hkn ho2 hruna hgra hz1 d1 d2 hown hbw
      go_wp2
      go_roundw
      case rel => exact ⟨k + 1, by omega, by go_num, by rw [HSN.out, show 4 + 2 * (k + 1) = 4 + 2 * k + 2 by omega]; exact howna, d3⟩
      case measure => simp [intOf]; omega
    · obtain rfl : k = 4 := by omega
      rw [List.take_of_length_le (by rw [HM.out]; omega)] at hown
      have k3 := k1.ext hbw
      have r3 := k3.rangeMid 11 _ (ccells_usedR x HM.out)
      obtain ⟨w3, hw3⟩ : ∃ w3, w3 = wr := ⟨_, rfl⟩
      rw [← hw3] at hown hbw k3 r3 ⊢
      clear hw3
      go_wp2_with (refine wpList_load_at 26 (.tmp 45) rfl rfl gq 11 rfl (ucells x.us) _ r3 Tryd.underlying26 rfl HI26.out ?_)
      clear r3 k3
      go_loopw [4, 47] (fun y i wr => ∃ k : Nat, k ≤ 8 ∧ i = .int .i64 k ∧ wr.ownsRow w1.heap.size 58 2 y (12 + k) (ncells (cH x ++ (pN x.mp ++ uN (x.us.take k)))) ∧ Below w1.heap.size w1 wr) (fun _ i _ => 8 - (intOf i).toNat)
      case atStart => exact ⟨0, by omega, rfl, by rw [show uN (x.us.take 0) = [] from rfl, List.append_nil]; exact hown, hbw⟩
      case round =>
        obtain ⟨k, hk, rfl, hown2, hbw2⟩ := hrel
        clear hown hbw
        by_cases hlt : k < 8
        · have hkl : k < x.us.length := by rw [HU.out]; exact hlt
          have HIX := Lib.hid (fun W => idx_int x.us HU.out k hlt (k : Int) rfl W)
          have HSN := Lib.hid (show ncells (cH x ++ (pN x.mp ++ uN (x.us.take (k + 1)))) = ncells (cH x ++ (pN x.mp ++ uN (x.us.take k))) ++ ncells [(2, x.us[k].toNat)] by rw [uN_snoc x.us k hkl, ← List.append_assoc, ← List.append_assoc, ncells_app, List.append_assoc])
          have hpb := List.all_eq_true.1 HP3.out _ (List.getElem_mem hkl)
          unfold Ck.usB at hpb
          rw [decide_eq_true_iff] at hpb
          generalize x.us[k] = uu at *
          obtain ⟨un, rfl⟩ := Int.eq_ofNat_of_zero_le hpb.1
          rw [Int.toNat_natCast] at HSN
          have hal : un ≤ 256 := by omega
          clear hpb
          have hix := HIX.out
          go_wp2_with (at_builtin; refine stop_ ?_)
          clear hix HIX
          refine wpList_append_elem rfl _ _ rfl rfl rfl rfl Tryd.underlying59 infoNum rfl (by decide) hown2 rfl (by simp [Value.oneCell']) (by rw [maxLen_eq]; omega) (by omega) hbw2.size ?_
          intro v' w' hown' hgr
          have hb' := hbw2.grown hgr hbw2.size (fun g hg => (hown2.lt g hg).1)
          clear hown2 hgr hbw2
          go_wp2
          go_roundw
          case rel => exact ⟨k + 1, by omega, by go_num, by rw [HSN.out]; exact hown', hb'⟩
          case measure => simp [intOf]; omega
        · obtain rfl : k = 8 := by omega
          rw [List.take_of_length_le (by rw [HU.out]; omega)] at hown2
          have hll : (cH x ++ (pN x.mp ++ uN x.us)).length = 20 := by
            rw [List.length_append, List.length_append, pN_len, HM.out]
            unfold uN
            rw [List.length_map, HU.out]; rfl
          have hna : Nums wr wr.heap.size u4 (cH x ++ (pN x.mp ++ uN x.us)) := Nums.of_own (base := w1.heap.size) (e := 58) (by rw [hll]; exact hown2)
          have HNA := Lib.hid hna
          have HLL := Lib.hid hll
          have HZ := Lib.hid (zip_lt HC.out)
          have hp := Pk.perr_of HC.out
          have hk : Pk.packed (cH x ++ (pN x.mp ++ uN x.us)) = Pk.recs (cH x ++ (pN x.mp ++ uN x.us)) := by unfold Pk.packed; rw [if_pos hp]
          have HPE := Lib.hid (And.intro hp hk)
          have c2 := c1.trans (hbw2.mono c1.size)
          clear hp hk hna hll hown2
          generalize cH x ++ (pN x.mp ++ uN x.us) = L at *
          go_wp2_with fail
          refine (pack_any _ _ _ L HNA.out (Nat.le_refl _) (by rw [HLL.out]; omega) HZ.out).mono ?_
          rintro e w5 ⟨u, rfl, hown5, b5⟩
          rw [HPE.out.1]
          rw [HPE.out.2] at hown5
          have hs : Bs w5 w5.heap.size u (Pk.recs L) := Bs.of_own hown5
          have HSB := Lib.hid hs
          have c3 := c2.trans (b5.mono c2.size)
          clear hown5 hs HPE b5 c2 hbw2 HNA
          go_wp2_with fail
          refine (seal_any _ _ _ _ (hH.ext c3) HSB.out (Nat.le_refl _) (by rw [HL.out]; omega)).mono ?_
          rintro e w6 ⟨u2, rfl, hown6, b6⟩
          have hs2 : Bs w6 w6.heap.size u2 (Crc.sealed (Pk.recs L)) := Bs.of_own (by rw [Crc.length_sealed _ (by rw [HL.out]; omega)]; exact hown6)
          rw [← HE.out] at hs2
          go_wp2
          go_ret2
          exact ⟨_, rfl, hs2, c3.trans (b6.mono c3.size)⟩
end Go.Proofs.YtkkbmhlmgbepjaaDoor
