/-
  The walk of imap.Encode. By an AI agent.
-/
import Derived.Test.YtpgibmffgliibaaImO
namespace Go.Proofs.Ytpgibmffgliibaa
open Go.RowKit Go.ChangeShapes Go.WideShapes Go.ChangeAt
open Im (Sl)

def iH (k : Nat) : List (Int × Nat) := [(4, 1768776048), (1, k)]
def sN (b : List Sl) : List (Int × Nat) := b.flatMap fun y => [(4, y.a.toNat), (4, y.s), (4, y.v.toNat)]
theorem sN_cons (y : Sl) (b : List Sl) : sN (y :: b) = (4, y.a.toNat) :: (4, y.s) :: (4, y.v.toNat) :: sN b := by unfold sN; rw [List.flatMap_cons]; rfl
theorem sN_app (a b : List Sl) : sN (a ++ b) = sN a ++ sN b := by unfold sN; rw [List.flatMap_append]
theorem sN_len : ∀ b : List Sl, (sN b).length = 3 * b.length
  | [] => rfl
  | y :: b => by rw [sN_cons]; simp only [List.length_cons, sN_len b]; omega
theorem sN_zip : ∀ b : List Sl, (Im.tW b.length).zip (Im.sV b) = sN b
  | [] => rfl
  | y :: b => by rw [List.length_cons, Im.tW, Im.sV_cons, List.zip_cons_cons, List.zip_cons_cons, List.zip_cons_cons, sN_zip b, sN_cons]
theorem imN_eq (b : List Sl) (h : b.length = 10) (k : Nat) : Im.imW.zip (Im.imV b k) = iH k ++ sN b := by
  unfold Im.imW Im.imV
  rw [Nd.zip_app _ _ _ _ rfl, ← sN_zip b, h]
  rfl
theorem sN_snoc (b : List Sl) (j : Nat) (h : j < b.length) : sN (b.take (j + 1)) = sN (b.take j) ++ [(4, (b.getD j Sl.zero).a.toNat), (4, (b.getD j Sl.zero).s), (4, (b.getD j Sl.zero).v.toNat)] := by
  have e : b.getD j Sl.zero = b[j] := by simp [List.getD, h]
  rw [List.take_succ_eq_append_getElem h, sN_app, e]
  rfl
def MadeI (l : List UInt8) (w : World) (e : Ending) (w' : World) : Prop := ∃ u, e = .returned (.tuple #[u, .int .i64 0]) ∧ Bs w' w'.heap.size u l ∧ Below w.heap.size w w'
set_option maxRecDepth 100000 in
theorem encodeI_no (m : List Sl) (k : Int) (w : World) (hm : m.length = 40) (hn : Im.mayB m = false) :
    Calls Try.prog 19 #[magg m, .int .i64 k] w fun e w' => e = .returned (.tuple #[.slice none 0 0, .int .i64 1]) ∧ Below w.heap.size w w' := by
  have HM := Lib.hid hm
  have HMY := Lib.hid hn
  clear hm hn
  unfold magg
  go_enter Try.func19, Try.ntmps19
  go_upto_region 1 with (fail)
  have i0 := Blk.new w 28 (mcells m).toArray
  have c0 := (Below.refl w.heap.size w).alloc (Nat.le_refl _) (.cells (mcells m).toArray 28)
  change Blk _ _ _ (mcells m) at i0
  generalize w.alloc (.cells (mcells m).toArray 28) = w0 at *
  generalize w.heap.size = g2 at i0 ⊢
  have hr := i0.range
  go_wp2_with (refine wpList_load_at 28 (.tmp 2) rfl rfl g2 0 rfl (mcells m) _ hr Try.underlying28 rfl (infoM _ HM.out) ?_)
  refine (mayM_any m _ HM.out).mono ?_
  rintro e w1 ⟨rfl, b1⟩
  rw [HMY.out]
  have i1 := i0.ext b1
  have c1 := c0.trans (b1.mono c0.size)
  clear hr i0 c0 b1
  go_wp2
  go_ret2
  exact ⟨rfl, c1⟩
set_option maxRecDepth 100000 in
theorem encodeI_far (m : List Sl) (k : Int) (w : World) (hm : m.length = 40) (hn : Im.mayB m = true) (hk : Im.kB k = false) :
    Calls Try.prog 19 #[magg m, .int .i64 k] w fun e w' => e = .returned (.tuple #[.slice none 0 0, .int .i64 4]) ∧ Below w.heap.size w w' := by
  have HM := Lib.hid hm
  have HMY := Lib.hid hn
  have HK : ¬ (0 ≤ k ∧ k ≤ 3) := of_decide_eq_false hk
  clear hm hn hk
  by_cases h0 : 0 ≤ k
  · have h3 : 4 ≤ k := by omega
    clear HK
    unfold magg
    go_enter Try.func19, Try.ntmps19
    go_upto_region 1 with (fail)
    have i0 := Blk.new w 28 (mcells m).toArray
    have c0 := (Below.refl w.heap.size w).alloc (Nat.le_refl _) (.cells (mcells m).toArray 28)
    change Blk _ _ _ (mcells m) at i0
    generalize w.alloc (.cells (mcells m).toArray 28) = w0 at *
    generalize w.heap.size = g2 at i0 ⊢
    have hr := i0.range
    go_wp2_with (refine wpList_load_at 28 (.tmp 2) rfl rfl g2 0 rfl (mcells m) _ hr Try.underlying28 rfl (infoM _ HM.out) ?_)
    refine (mayM_any m _ HM.out).mono ?_
    rintro e w1 ⟨rfl, b1⟩
    rw [HMY.out]
    have i1 := i0.ext b1
    have c1 := c0.trans (b1.mono c0.size)
    clear hr i0 c0 b1
    go_wp2
    go_ret2
    exact ⟨rfl, c1⟩
  · clear HK
    unfold magg
    go_enter Try.func19, Try.ntmps19
    go_upto_region 1 with (fail)
    have i0 := Blk.new w 28 (mcells m).toArray
    have c0 := (Below.refl w.heap.size w).alloc (Nat.le_refl _) (.cells (mcells m).toArray 28)
    change Blk _ _ _ (mcells m) at i0
    generalize w.alloc (.cells (mcells m).toArray 28) = w0 at *
    generalize w.heap.size = g2 at i0 ⊢
    have hr := i0.range
    go_wp2_with (refine wpList_load_at 28 (.tmp 2) rfl rfl g2 0 rfl (mcells m) _ hr Try.underlying28 rfl (infoM _ HM.out) ?_)
    refine (mayM_any m _ HM.out).mono ?_
    rintro e w1 ⟨rfl, b1⟩
    rw [HMY.out]
    have i1 := i0.ext b1
    have c1 := c0.trans (b1.mono c0.size)
    clear hr i0 c0 b1
    go_wp2
    go_ret2
    exact ⟨rfl, c1⟩
set_option maxRecDepth 100000 in
set_option maxHeartbeats 4000000 in
theorem encodeI_yes (m : List Sl) (k : Nat) (w : World) (hg : Im.Good m) (hmy : Im.mayB m = true) (hk : k < 4) :
    Calls Try.prog 19 #[magg m, .int .i64 (k : Int)] w (MadeI (Im.imE m k) w) := by
  have HM := Lib.hid hg.1
  have HMY := Lib.hid hmy
  have hb := Im.blk_len hg.1 hk
  have hsl : ∀ y ∈ Im.blk m k, Im.slB y = true := fun y hy => (Im.may_all hmy).1 y (Im.mem_blk hy)
  have hss : ∀ y ∈ Im.blk m k, y.s < 4294967296 := fun y hy => hg.2 y (Im.mem_blk hy)
  have HC := Lib.hid (Im.im_chk hb k (by omega) hsl hss)
  have HL := Lib.hid (Im.imR_len hb k)
  have HE := Lib.hid (show Im.imE m k = Crc.pad 128 (Pk.recs (iH k ++ sN (Im.blk m k))) by rw [← imN_eq _ hb]; rfl)
  rw [imN_eq _ hb] at HC HL
  have HB := Lib.hid hb
  have HSL := Lib.hid hsl
  have HSS := Lib.hid hss
  have HSN := Lib.hid (fun j h => sN_snoc (Im.blk m k) j h)
  have hk0 : (0 : Int) ≤ (k : Int) := by omega
  have hk1 : (k : Int) < 4 := by omega
  clear hg hmy hb hsl hss
  unfold magg
  go_enter Try.func19, Try.ntmps19
  go_upto_region 1 with (fail)
  have i0 := Blk.new w 28 (mcells m).toArray
  have c0 := (Below.refl w.heap.size w).alloc (Nat.le_refl _) (.cells (mcells m).toArray 28)
  change Blk _ _ _ (mcells m) at i0
  generalize w.alloc (.cells (mcells m).toArray 28) = w0 at *
  generalize w.heap.size = g2 at i0 ⊢
  have hr := i0.range
  go_wp2_with (refine wpList_load_at 28 (.tmp 2) rfl rfl g2 0 rfl (mcells m) _ hr Try.underlying28 rfl (infoM _ HM.out) ?_)
  refine (mayM_any m _ HM.out).mono ?_
  rintro e w1 ⟨rfl, b1⟩
  rw [HMY.out]
  have i1 := i0.ext b1
  have c1 := c0.trans (b1.mono c0.size)
  clear hr i0 c0 b1
  go_upto_region 6 with (fail)
  have hown0 := (Blk.new w1 68 #[.int .i64 4, .int .u64 1768776048, .int .i64 1, .int .u64 (k : Int)]).own (base := w1.heap.size) (Nat.le_refl _) 2 2 2 rfl (Nat.le_refl _) (by simp [maxLen])
  rw [List.take_of_length_le (by simp)] at hown0
  have i2 := i1.alloc (.cells #[.int .i64 4, .int .u64 1768776048, .int .i64 1, .int .u64 (k : Int)] 68)
  have b2 := (Below.refl w1.heap.size w1).alloc (Nat.le_refl _) (.cells #[.int .i64 4, .int .u64 1768776048, .int .i64 1, .int .u64 (k : Int)] 68)
  rw [show (#[.int .i64 4, .int .u64 1768776048, .int .i64 1, .int .u64 (k : Int)] : Array Value).toList = ncells (iH k) from rfl] at hown0
  generalize w1.alloc (.cells #[.int .i64 4, .int .u64 1768776048, .int .i64 1, .int .u64 (k : Int)] 68) = w2 at *
  generalize hv4 : Value.slice (some ⟨w1.heap.size, 0, none⟩) 2 2 = v4 at hown0 ⊢
  clear hv4
  have hr := i2.range
  go_wp2_with (refine wpList_load_at 28 (.tmp 2) rfl rfl g2 0 rfl (mcells m) _ hr Try.underlying28 rfl (infoM _ HM.out) ?_)
  refine (slots_any m k _ HM.out hk).mono ?_
  rintro e w3 ⟨rfl, b3⟩
  replace hown0 := own_ext hown0 b3
  replace b2 := b2.trans (b3.mono b2.size)
  clear hr i1 i2 b3
  generalize Im.blk m k = B at *
  unfold magg
  go_wp2
  go_loopw [6, 28] (fun y i wr => ∃ j : Nat, j ≤ 10 ∧ i = .int .i64 j ∧ wr.ownsRow w1.heap.size 68 2 y (2 + 3 * j) (ncells (iH k ++ sN (B.take j))) ∧ Below w1.heap.size w1 wr) (fun _ i _ => 10 - (intOf i).toNat)
  case atStart => exact ⟨0, by omega, rfl, by rw [show sN (B.take 0) = [] from rfl, List.append_nil]; exact hown0, b2⟩
  case round =>
    obtain ⟨j, hj, rfl, hown, hbw⟩ := hrel
    clear hown0 b2
    by_cases hlt : j < 10
    · have hjl : j < B.length := by rw [HB.out]; exact hlt
      have hix := idx_sl B HB.out j hlt
      have HSJ := Lib.hid (show ncells (iH k ++ sN (B.take (j + 1))) = ncells (iH k ++ sN (B.take j)) ++ ncells [(4, (B.getD j Sl.zero).a.toNat), (4, (B.getD j Sl.zero).s), (4, (B.getD j Sl.zero).v.toNat)] by rw [HSN.out j hjl, ← List.append_assoc, ncells_app])
      have hpb := Im.sl_parts (HSL.out _ (Im.getD_mem hjl))
      have hps := HSS.out _ (Im.getD_mem hjl)
      generalize B.getD j Sl.zero = y at *
      obtain ⟨aa, s, vv⟩ := y
      unfold sagg at hix
      simp only at HSJ hpb hps hix
      obtain ⟨aa, rfl⟩ := Int.eq_ofNat_of_zero_le hpb.1
      obtain ⟨vv, rfl⟩ := Int.eq_ofNat_of_zero_le hpb.2.2.2.1
      rw [Int.toNat_natCast, Int.toNat_natCast] at HSJ
      have hal : aa ≤ 2147483647 := by omega
      have hvl : vv ≤ 2147483647 := by omega
      clear hpb
      go_wp2_with (at_builtin; refine stop_ ?_)
      clear hix
      have hz1 : (wr.alloc (.cells #[.int .i64 (aa : Int), .int .u32 (s : Int), .int .i64 (vv : Int)] 26)).heap.size = wr.heap.size + 1 := by simp
      have hkn := Blk.new (wr.alloc (.cells #[.int .i64 (aa : Int), .int .u32 (s : Int), .int .i64 (vv : Int)] 26)) 68 #[.int .i64 4, .int .u64 (aa : Int), .int .i64 4, .int .u64 (s : Int), .int .i64 4, .int .u64 (vv : Int)]
      rw [hz1] at hkn
      have ho2 := (hown.alloc (.cells #[.int .i64 (aa : Int), .int .u32 (s : Int), .int .i64 (vv : Int)] 26)).alloc (.cells #[.int .i64 4, .int .u64 (aa : Int), .int .i64 4, .int .u64 (s : Int), .int .i64 4, .int .u64 (vv : Int)] 68)
      have d1 := hbw.alloc hbw.size (.cells #[.int .i64 (aa : Int), .int .u32 (s : Int), .int .i64 (vv : Int)] 26)
      have d2 := d1.alloc d1.size (.cells #[.int .i64 4, .int .u64 (aa : Int), .int .i64 4, .int .u64 (s : Int), .int .i64 4, .int .u64 (vv : Int)] 68)
      obtain ⟨ua, wa, hruna, howna, hgra, _⟩ := run_append_rds (P := Try.prog) (ty := 69) Try.underlying69 infoNum rfl (by decide) ho2 (hkn.rds 0 3 3 2 (by simp) (by omega) (by simp [maxLen])) (by simp [Value.oneCell']) (by rw [maxLen_eq]; omega) (by omega) d2.size
      refine wpList_append_run (v := u6) (u := .slice (some ⟨wr.heap.size + 1, 0, none⟩) 3 3) rfl (.tmp 31) (.tmp 46) 69 rfl rfl rfl hruna ?_
      have d3 := d2.grown hgra d2.size (fun g hg => (ho2.lt g hg).1)
      clear hkn ho2 hruna hgra hz1 d1 d2 hown hbw
      go_wp2
      go_roundw
      case rel => exact ⟨j + 1, by omega, by go_num, by rw [HSJ.out, show 2 + 3 * (j + 1) = 2 + 3 * j + 3 by omega]; exact howna, d3⟩
      case measure => simp [intOf]; omega
    · obtain rfl : j = 10 := by omega
      rw [List.take_of_length_le (by rw [HB.out]; omega)] at hown
      have hll : (iH k ++ sN B).length = 32 := by rw [List.length_append, sN_len, HB.out]; rfl
      have hna : Nums wr wr.heap.size u6 (iH k ++ sN B) := Nums.of_own (base := w1.heap.size) (e := 68) (by rw [hll]; exact hown)
      have HNA := Lib.hid hna
      have HLL := Lib.hid hll
      have HZ := Lib.hid (zip_lt HC.out)
      have hp := Pk.perr_of HC.out
      have hkk : Pk.packed (iH k ++ sN B) = Pk.recs (iH k ++ sN B) := by unfold Pk.packed; rw [if_pos hp]
      have HPE := Lib.hid (And.intro hp hkk)
      have c2 := c1.trans (hbw.mono c1.size)
      rw [show (((10 : Nat)) : Int) = 10 from rfl]
      clear hp hkk hna hll hown
      generalize iH k ++ sN B = L at *
      go_wp2_with fail
      refine (pack_any _ _ _ L HNA.out (Nat.le_refl _) (by rw [HLL.out]; omega) HZ.out).mono ?_
      rintro e w5 ⟨u, rfl, hown5, b5⟩
      rw [HPE.out.1]
      rw [HPE.out.2] at hown5
      have hs : Bs w5 w5.heap.size u (Pk.recs L) := Bs.of_own hown5
      have HSB := Lib.hid hs
      have c3 := c2.trans (b5.mono c2.size)
      clear hown5 hs HPE b5 c2 hbw HNA
      go_wp2_with fail
      refine (fill_any _ _ _ _ HSB.out (Nat.le_refl _) (by rw [HL.out]; omega)).mono ?_
      rintro e w6 ⟨rfl, hk6, b6⟩
      have hpl : (Pk.pad 128 (Pk.recs L)).length = 128 := Crc.length_pad 128 (Pk.recs L) (by rw [HL.out]; omega)
      have hs2 : Bs w6 w6.heap.size (.slice (some ⟨w5.heap.size, 0, none⟩) 128 128) (Im.imE m k) := by
        rw [HE.out]
        have hrr := (hk6.rds 0 128 128 1 (by rw [List.length_map, hpl]; omega) (Nat.le_refl _) (by rw [maxLen_eq]; omega)).more (B' := w6.heap.size) hk6.lt
        rw [List.drop_zero, List.take_of_length_le (by rw [List.length_map, hpl]; omega)] at hrr
        unfold Bs
        rw [show Crc.pad 128 (Pk.recs L) = Pk.pad 128 (Pk.recs L) from rfl, hpl]
        exact hrr
      have HS2 := Lib.hid hs2
      clear hs2 hk6 hpl
      go_wp2
      go_ret2
      exact ⟨_, rfl, HS2.out, c3.trans (b6.mono c3.size)⟩
end Go.Proofs.Ytpgibmffgliibaa
