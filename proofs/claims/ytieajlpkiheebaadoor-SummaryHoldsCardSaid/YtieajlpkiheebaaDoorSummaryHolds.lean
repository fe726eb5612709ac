/-
  SummaryHolds: blocks are whole in the part that is made of them; one of them with one up to 32 bits beside one another turned over is not. For every input.
-/
import Derived.Test.YtieajlpkiheebaaDoorSumT
namespace Go.Proofs.YtieajlpkiheebaaDoor
open Go.ChangeShapes Go.WideShapes Go.ChangeAt Go.RowKit

theorem blk_dlr {w : World} {g : Nat} {t : TypeId} {s : List UInt8} {rest : List Value} {wide q j : Nat} (h : Blk w g t (((Crc.xor2 s (Crc.dl wide q j)).map fun c => .int .u8 (c.toNat : Int)) ++ rest)) (hs : s.length = 128) (hq : q + j < 128) {ch : UInt8} (hc : (Crc.xor2 s (Crc.dl wide q j)).getD (q + j) 0 = ch) :
    Blk (w.setCell ⟨g, q + j, none⟩ (.int .u8 (bits .xor .u8 (ch.toNat : Int) ((wide : Int) / 2 ^ (8 * j) % 256)))) g t (((Crc.xor2 s (Crc.dl wide q (j + 1))).map fun c => .int .u8 (c.toNat : Int)) ++ rest) := by
  have e1 : ((wide : Int) / 2 ^ (8 * j) % 256) = ((wide / 256 ^ j % 256 : Nat) : Int) := by
    have hp : (2 : Int) ^ (8 * j) = ((256 ^ j : Nat) : Int) := by
      rw [show (256 : Nat) = 2 ^ 8 from rfl, ← Nat.pow_mul]
      exact (Int.natCast_pow 2 (8 * j)).symm
    rw [hp]
    rfl
  have e2 : bits .xor .u8 (ch.toNat : Int) ((wide : Int) / 2 ^ (8 * j) % 256) = ((ch ^^^ UInt8.ofNat (wide / 256 ^ j)).toNat : Int) := by
    rw [e1, u8_xor_nat _ _ ch.toNat_lt (by omega), UInt8.toNat_xor, UInt8.toNat_ofNat']
  have h1 := h.set_ (q + j) (.int .u8 ((ch ^^^ UInt8.ofNat (wide / 256 ^ j)).toNat : Int))
  rw [List.set_append_left _ _ (by rw [List.length_map, Crc.length_xor2 _ _ (by rw [hs, Crc.length_dl _ _ _ (by omega)]), hs]; exact hq)] at h1
  rw [e2, ← Crc.xor2_dl s wide q j hs hq (ch ^^^ UInt8.ofNat (wide / 256 ^ j)) (by rw [hc]), List.map_set]
  exact h1
theorem bytes_one (l : List UInt8) : ∀ u ∈ l.map (fun c => Value.int .u8 (c.toNat : Int)), u.oneCell' = true := by
  intro u hu
  obtain ⟨c, _, rfl⟩ := List.mem_map.1 hu
  rfl
set_option maxRecDepth 100000 in
set_option maxHeartbeats 8000000 in
theorem summaryHolds_walk (w : World) (s n : Int) (e : Bool) (vl vb : Value) (l : List Sm.En) (bl : List (List UInt8)) (at_ turn : Nat) (hl : Ents w w.heap.size vl l) (hb : Bss w w.heap.size vb bl) (hat : at_ < 18446744073709551616) (htn : turn < 4294967296) (hH : Halves w) :
    Calls Tryd.prog 6 #[.agg (tcells s n e vl vb at_ turn).toArray] w fun r w' => r = .returned (.bool true) ∧ Below w.heap.size w w' := by
  obtain ⟨A, c, rfl, hc, hm, _⟩ := hl.open_
  obtain ⟨Ab, cb, rfl, hcb, hmb, _⟩ := hb.open_
  have HL := Lib.hid hl
  have HBL := Lib.hid hb
  clear hl hb
  unfold tcells
  go_enter Tryd.func6, Tryd.ntmps6
  go_upto_region 1 with (fail)
  have k1 := Blk.new w 51 #[.int .i64 s, .int .i64 n, .bool e, .slice A l.length c, .slice Ab bl.length cb, .int .u64 (at_ : Int), .int .u32 (turn : Int)]
  have b1 := (Below.refl w.heap.size w).alloc (Nat.le_refl _) (.cells #[.int .i64 s, .int .i64 n, .bool e, .slice A l.length c, .slice Ab bl.length cb, .int .u64 (at_ : Int), .int .u32 (turn : Int)] 51)
  obtain ⟨w1, hw1⟩ : ∃ w1, w.alloc (.cells #[.int .i64 s, .int .i64 n, .bool e, .slice A l.length c, .slice Ab bl.length cb, .int .u64 (at_ : Int), .int .u32 (turn : Int)] 51) = w1 := ⟨_, rfl⟩
  rw [hw1] at k1 b1 ⊢
  clear hw1
  obtain ⟨g1, hg1⟩ : ∃ g1, w.heap.size = g1 := ⟨_, rfl⟩
  rw [hg1] at k1 ⊢
  clear hg1
  refine wp_region_vars 10 [.pointer (some ⟨g1, 0, none⟩), .agg (pcS s n e (.slice A l.length c)).toArray, .pointer (some ⟨g1, 5, none⟩), .int .u64 (at_ : Int), .pointer (some ⟨g1, 6, none⟩), .int .u32 (turn : Int), undef, undef, .int .u64 (at_ : Int), .int .u32 (turn : Int)] [⟨6, 7, 3, 18, 24, [.int .i64 0, .int .i64 0, .bool false, .slice none 0 0], pcS s n e (.slice A l.length c)⟩] (by kernel_rfl) rfl (by kernel_rfl) rfl ?_ ?_ ?_
  · intro xv hxv
    simp only [List.mem_cons, List.not_mem_nil, or_false] at hxv
    rcases hxv with rfl
    · refine ⟨by kernel_rfl, by kernel_rfl, of_decide_eq_true (by kernel_rfl), rfl, by kernel_rfl, ⟨1, by kernel_rfl, by simp, rfl⟩, ?_, ?_⟩
      · intro a x K h
        refine wpOp_plain rfl rfl ?_
        go_simp
        exact h
      · intro a x g K h1 h2 h3 h
        refine wpOp_plain rfl rfl ?_
        refine wp_store_mid 24 (.tmp 3) (.tmp 18) rfl g 0 (pcS s n e (.slice A l.length c)).toArray h1 h2 (by rw [List.size_toArray]; exact h3) (by kernel_rfl) (all_oneCell_toArray (pcS_one rfl)) ?_
        exact h
  · refine ⟨?_, ?_, ?_, ?_, ?_, ?_, ?_, ?_, ?_, ?_, trivial⟩
    · intro _ a x hG hd hs K hK
      replace hG : Below (w1).heap.size (w1) x := hG
      replace hK : ∀ (v : Value) w', v = .pointer (some ⟨g1, 0, none⟩) → Below (w1).heap.size (w1) w' → Below x.heap.size x w' → K _ w' := fun v w' e1 e2 e3 => hK v w' (fun _ => e1) e2 e3
      have h1 : a.tmps.getD 1 undef = .pointer (some ⟨g1, 0, none⟩) := hs 1 (by kernel_rfl)
      clear hd hs
      refine wpOp_plain rfl rfl ?_
      go_simp
      exact hK _ _ rfl hG (Below.refl _ _)
    · intro _ a x hG hd hs K hK
      replace hG : Below (w1).heap.size (w1) x := hG
      replace hK : ∀ (v : Value) w', v = .agg (pcS s n e (.slice A l.length c)).toArray → Below (w1).heap.size (w1) w' → Below x.heap.size x w' → K _ w' := fun v w' e1 e2 e3 => hK v w' (fun _ => e1) e2 e3
      have h17 : a.tmps.getD 17 undef = .pointer (some ⟨g1, 0, none⟩) := hd 0 17 (by kernel_rfl) (by simp)
      clear hd hs
      refine wpOp_plain rfl rfl ?_
      refine wp_load_mid 24 (.tmp 17) rfl g1 0 h17 (pcS s n e (.slice A l.length c)) _ ((k1.ext hG).rangeMid 0 _ rfl) Tryd.underlying24 rfl (by kernel_rfl) ?_
      exact hK _ _ rfl hG (Below.refl _ _)
    · intro _ a x hG hd hs K hK
      replace hG : Below (w1).heap.size (w1) x := hG
      replace hK : ∀ (v : Value) w', v = .pointer (some ⟨g1, 5, none⟩) → Below (w1).heap.size (w1) w' → Below x.heap.size x w' → K _ w' := fun v w' e1 e2 e3 => hK v w' (fun _ => e1) e2 e3
      have h1 : a.tmps.getD 1 undef = .pointer (some ⟨g1, 0, none⟩) := hs 1 (by kernel_rfl)
      clear hd hs
      refine wpOp_plain rfl rfl ?_
      go_simp
      exact hK _ _ rfl hG (Below.refl _ _)
    · intro _ a x hG hd hs K hK
      replace hG : Below (w1).heap.size (w1) x := hG
      replace hK : ∀ (v : Value) w', v = .int .u64 (at_ : Int) → Below (w1).heap.size (w1) w' → Below x.heap.size x w' → K _ w' := fun v w' e1 e2 e3 => hK v w' (fun _ => e1) e2 e3
      have h19 : a.tmps.getD 19 undef = .pointer (some ⟨g1, 5, none⟩) := hd 2 19 (by kernel_rfl) (by simp)
      clear hd hs
      refine wpOp_plain rfl rfl ?_
      have x0 : x.cell? ⟨g1, 5, none⟩ = some (.int .u64 (at_ : Int)) := (k1.ext hG).cell 5
      go_simp
      exact hK _ _ rfl hG (Below.refl _ _)
    · intro _ a x hG hd hs K hK
      replace hG : Below (w1).heap.size (w1) x := hG
      replace hK : ∀ (v : Value) w', v = .pointer (some ⟨g1, 6, none⟩) → Below (w1).heap.size (w1) w' → Below x.heap.size x w' → K _ w' := fun v w' e1 e2 e3 => hK v w' (fun _ => e1) e2 e3
      have h1 : a.tmps.getD 1 undef = .pointer (some ⟨g1, 0, none⟩) := hs 1 (by kernel_rfl)
      clear hd hs
      refine wpOp_plain rfl rfl ?_
      go_simp
      exact hK _ _ rfl hG (Below.refl _ _)
    · intro _ a x hG hd hs K hK
      replace hG : Below (w1).heap.size (w1) x := hG
      replace hK : ∀ (v : Value) w', v = .int .u32 (turn : Int) → Below (w1).heap.size (w1) w' → Below x.heap.size x w' → K _ w' := fun v w' e1 e2 e3 => hK v w' (fun _ => e1) e2 e3
      have h21 : a.tmps.getD 21 undef = .pointer (some ⟨g1, 6, none⟩) := hd 4 21 (by kernel_rfl) (by simp)
      clear hd hs
      refine wpOp_plain rfl rfl ?_
      have x0 : x.cell? ⟨g1, 6, none⟩ = some (.int .u32 (turn : Int)) := (k1.ext hG).cell 6
      go_simp
      exact hK _ _ rfl hG (Below.refl _ _)
    · intro hno
      exact absurd rfl ((hno _ (List.Mem.head _)).1)
    · intro hno
      exact absurd rfl ((hno _ (List.Mem.head _)).2)
    · intro _ a x hG hd hs K hK
      replace hG : Below (w1).heap.size (w1) x := hG
      replace hK : ∀ (v : Value) w', v = .int .u64 (at_ : Int) → Below (w1).heap.size (w1) w' → Below x.heap.size x w' → K _ w' := fun v w' e1 e2 e3 => hK v w' (fun _ => e1) e2 e3
      have h20 : a.tmps.getD 20 undef = .int .u64 (at_ : Int) := hd 3 20 (by kernel_rfl) (by simp)
      clear hd hs
      refine wpOp_plain rfl rfl ?_
      go_simp
      exact hK _ _ rfl hG (Below.refl _ _)
    · intro _ a x hG hd hs K hK
      replace hG : Below (w1).heap.size (w1) x := hG
      replace hK : ∀ (v : Value) w', v = .int .u32 (turn : Int) → Below (w1).heap.size (w1) w' → Below x.heap.size x w' → K _ w' := fun v w' e1 e2 e3 => hK v w' (fun _ => e1) e2 e3
      have h22 : a.tmps.getD 22 undef = .int .u32 (turn : Int) := hd 5 22 (by kernel_rfl) (by simp)
      clear hd hs
      refine wpOp_plain rfl rfl ?_
      go_simp
      exact hK _ _ rfl hG (Below.refl _ _)
  · intro x gs hG hgs
    intro v0 hv0 v1 hv1 v2 hv2 v3 hv3 v4 hv4 v5 hv5 v6 hv6 v8 hv8 v9 hv9
    replace hv0 : v0 = .pointer (some ⟨g1, 0, none⟩) := hv0
    subst hv0
    replace hv1 : v1 = .agg (pcS s n e (.slice A l.length c)).toArray := hv1
    subst hv1
    replace hv2 : v2 = .pointer (some ⟨g1, 5, none⟩) := hv2
    subst hv2
    replace hv3 : v3 = .int .u64 (at_ : Int) := hv3
    subst hv3
    replace hv4 : v4 = .pointer (some ⟨g1, 6, none⟩) := hv4
    subst hv4
    replace hv5 : v5 = .int .u32 (turn : Int) := hv5
    subst hv5
    replace hv6 : v6 = .pointer (some ⟨gs.getD 0 0, 0, none⟩) := hv6
    subst hv6
    replace hv8 : v8 = .int .u64 (at_ : Int) := hv8
    subst hv8
    replace hv9 : v9 = .int .u32 (turn : Int) := hv9
    subst hv9
    obtain ⟨gl0, gk0⟩ := hgs 0 _ rfl
    replace gl0 : (w1).heap.size ≤ gs.getD 0 0 := gl0
    replace gk0 : Blk x (gs.getD 0 0) 24 (pcS s n e (.slice A l.length c)) := gk0
    clear hgs
    generalize gs.getD 0 0 = gv0 at *
    simp only [Act.put, List.setIfInBounds_toArray, List.set_cons_zero, List.set_cons_succ, REnd]
    try simp only [Exit.then]
    replace k1 := k1.ext hG
    have hgv : w.heap.size ≤ gv0 := Nat.le_trans b1.size gl0
    have hne : g1 ≠ gv0 := by have := k1.lt; intro e; subst e; unfold Blk at k1 gk0; rw [k1] at gk0; cases gk0
    replace b1 := b1.trans (hG.mono b1.size)
    clear gl0 hG
    have p3 : x.cell? ⟨gv0, 3, none⟩ = some (.slice A l.length c) := gk0.cell 3
    have f3 := gk0.frozen 3
    go_wp2_with fail
    refine (fewS_any _ _ w.heap.size l (HL.out.below b1)).mono ?_
    rintro r w' ⟨u, rfl, hE, rfl⟩
    replace hE : Ents w w.heap.size u (l.take 20) := hE.keep fun p hp => (b1.cell hp).symm
    obtain ⟨A2, c2, rfl, _⟩ := hE.open_
    have hm20 : (l.take 20).length ≤ 1000000 := by rw [List.length_take]; omega
    generalize l.take 20 = m at *
    have HE := Lib.hid hE
    clear HL hE
    have k1' := k1.far (p := ⟨gv0, 3, none⟩) hne (.slice A2 m.length c2)
    have gk1 : Blk (x.setCell ⟨gv0, 3, none⟩ (.slice A2 m.length c2)) gv0 24 [.int .i64 s, .int .i64 n, .bool e, .slice A2 m.length c2] := gk0.set_ 3 (.slice A2 m.length c2)
    have b2 := b1.setCell (p := ⟨gv0, 3, none⟩) hgv (.slice A2 m.length c2)
    go_upto_region 3 with (fail)
    clear p3 f3 k1 gk0 b1
    obtain ⟨w2, hw2⟩ : ∃ w2, x.setCell ⟨gv0, 3, none⟩ (.slice A2 m.length c2) = w2 := ⟨_, rfl⟩
    rw [hw2] at k1' gk1 b2 ⊢
    clear hw2
    have p4 := k1'.cell 4
    go_wp2_with fail
    refine (blocks_any w2 _ bl ((HBL.out.ext (Nat.le_refl _) b2).more b2.size)).mono ?_
    rintro r w3 ⟨ub, us, rfl, hB, -, b3⟩
    have HSH : Hid (∀ b ∈ bk9 bl, b.length ≤ 1000000) := Lib.hid (by
      intro b hb
      unfold bk9 at hb
      obtain ⟨c, _, rfl⟩ := List.mem_map.1 hb
      rw [List.length_take]; omega)
    have hq20 : (bk9 bl).length ≤ 20 := by unfold bk9; rw [List.length_map, List.length_take]; omega
    generalize bk9 bl = Q at *
    replace gk1 := gk1.ext b3
    replace b2 := b2.trans (b3.mono b2.size)
    obtain ⟨Aq, cq, rfl, hcq, hmq, _⟩ := hB.open_
    have HB := Lib.hid hB
    clear hB b3 HBL p4 k1'
    have p0 := gk1.cell 0
    have p1 := gk1.cell 1
    have p2 := gk1.cell 2
    have p3 := gk1.cell 3
    go_wp2_with fail
    refine (of_any s n e _ _ m Q w3 ((HE.out.below b2).more b2.size) HB.out (hH.ext b2)).mono ?_
    clear p0 p1 p2 p3 gk1
    rintro r w4 (⟨u6, er, rfl, hof, rfl, hE6, b4⟩ | ⟨rfl, hof, b4⟩)
    rotate_left
    · have HE6 := Lib.hid (show Ents w4 w4.heap.size (.slice none 0 0) [] from Rds.nil_ _ _ _)
      have x4 := b4
      replace b2 := b2.trans (b4.mono b2.size)
      have k8 := Blk.new w4 24 #[.int .i64 0, .int .i64 0, .bool false, .slice none 0 0]
      have y4 := (Below.refl w4.heap.size w4).alloc (Nat.le_refl _) (.cells #[.int .i64 0, .int .i64 0, .bool false, .slice none 0 0] 24)
      have c4 := b2.alloc b2.size (.cells #[.int .i64 0, .int .i64 0, .bool false, .slice none 0 0] 24)
      go_wp2_with fail
      refine (whole_any 0 0 false _ _ [] Q _ (Rds.nil_ _ _ _) ((HB.out.ext (Nat.le_refl _) (x4.trans (y4.mono x4.size))).more (by have := x4.size; have := y4.size; omega)) (hH.ext c4)).mono ?_
      rintro r w5 ⟨rfl, b5⟩
      rw [wh_zero]
      have c5 := c4.trans (b5.mono c4.size)
      clear k8 y4 c4 b5 x4 b2
      go_wp2_with fail
      refine (awakeS_any w5 (hH.ext c5)).mono ?_
      rintro r w6 ⟨rfl, b6⟩
      go_wp2
      go_ret
      exact ⟨rfl, c5.trans (b6.mono c5.size)⟩
    have HOF := Lib.hid hof
    obtain ⟨hq1, -, hq3⟩ := ofB_parts hof
    have hqm : 1 ≤ Q.length := by
      have := (Sm.may_parts (ofB_parts hof).2.1).1
      dsimp only at this
      omega
    have HQ3 := Lib.hid (show ∀ k, k < Q.length → (Q.getD k []).length = 128 from fun k hk => hq3 k (by omega))
    have HWH := Lib.hid (wh_of hof)
    obtain ⟨A6, c6, rfl, _⟩ := hE6.open_
    have HE6 := Lib.hid hE6
    have HWT := Lib.hid (fun i y (hi : i < Q.length) => wh_turned (y := y) hof hi)
    generalize ofL m Q = ol at *
    have x4 := b4
    replace b2 := b2.trans (b4.mono b2.size)
    have k8 := Blk.new w4 24 #[.int .i64 s, .int .i64 n, .bool e, .slice A6 ol.length c6]
    have y4 := (Below.refl w4.heap.size w4).alloc (Nat.le_refl _) (.cells #[.int .i64 s, .int .i64 n, .bool e, .slice A6 ol.length c6] 24)
    have c4 := b2.alloc b2.size (.cells #[.int .i64 s, .int .i64 n, .bool e, .slice A6 ol.length c6] 24)
    clear hof hq1 hq3 hE6 b4
    go_wp2_with fail
    refine (whole_any s n e _ _ ol Q _ ((HE6.out.below y4).more y4.size) ((HB.out.ext (Nat.le_refl _) (x4.trans (y4.mono x4.size))).more (by have := x4.size; have := y4.size; omega)) (hH.ext c4)).mono ?_
    rintro r w5 ⟨rfl, b5⟩
    rw [HWH.out]
    replace k8 := k8.ext b5
    have z4 := y4.trans (b5.mono y4.size)
    have c5 := c4.trans (b5.mono c4.size)
    have HE5 := Lib.hid ((HE6.out.below z4).more z4.size)
    have HB5 : Hid (Bss w5 w5.heap.size (.slice Aq Q.length cq) Q) := Lib.hid ((HB.out.ext (Nat.le_refl _) (x4.trans (z4.mono x4.size))).more (Nat.le_trans x4.size z4.size))
    clear c4 b5 x4 b2 y4 z4 HE6 HB HWH
    generalize w4.heap.size = g8 at k8 ⊢
    by_cases ht : turn = 0
    · subst ht
      have hqz : ((Q.length : Int) == 0) = false := by rw [beq_eq_false_iff_ne]; omega
      go_wp2_with fail
      refine (awakeS_any w5 (hH.ext c5)).mono ?_
      rintro r w6 ⟨rfl, b6⟩
      go_wp2
      go_ret
      exact ⟨rfl, c5.trans (b6.mono c5.size)⟩
    have ht' : ((turn : Int) == 0) = false := by rw [beq_eq_false_iff_ne]; omega
    have hqz : ((Q.length : Int) == 0) = false := by rw [beq_eq_false_iff_ne]; omega
    go_upto_region 11 with (fail)
    have hmi : ((at_ : Int) / 1024 % (Q.length : Int)) = ((at_ / 1024 % Q.length : Nat) : Int) := by simp
    have hi : at_ / 1024 % Q.length < Q.length := Nat.mod_lt _ (by omega)
    generalize at_ / 1024 % Q.length = i at *
    have hq0 : ¬ (Q.length : Int) = 0 := by omega
    obtain ⟨A9, c9, hA9, _, _, hcell⟩ := HB5.out.open_
    injection hA9 with e1 e2 e3
    subst e1 e3
    clear e2
    obtain ⟨b, off, u, rfl, hbB, hcu, hbs⟩ := hcell i hi
    have HQI := Lib.hid (show Q.getD i [] = Q[i] by rw [List.getD_eq_getElem?_getD, List.getElem?_eq_getElem hi]; rfl)
    have HLI := Lib.hid (show Q[i].length = 128 by rw [← HQI.out]; exact HQ3.out i hi)
    have HWT2 := Lib.hid (fun y hy => HWT.out i y hi (by rw [HQI.out]; exact hy))
    clear hcell HWT
    generalize hQi : Q[i] = qi at *
    have HQi := Lib.hid hQi
    clear hQi
    obtain ⟨Ai, ci, rfl, _⟩ := hbs.open_
    rw [HLI.out] at hcu
    have HBS := Lib.hid hbs
    clear hbs
    go_wp2_with (at_builtin; refine stop_ ?_)
    have hown0 := (Blk.new w5 5 #[]).own (base := w5.heap.size) (Nat.le_refl _) 0 0 1 rfl (Nat.le_refl _) (Nat.zero_le _)
    have xa := (Below.refl w5.heap.size w5).alloc (Nat.le_refl _) (.cells #[] 5)
    have hsrc : Rds (w5.alloc (.cells #[] 5)) w5.heap.size 1 (.slice Ai 128 ci) 128 (qi.map fun c => .int .u8 (c.toNat : Int)) := by
      have h9 : Bs _ _ _ _ := HBS.out.ext (Nat.le_refl _) xa
      unfold Bs at h9
      rw [HLI.out] at h9
      exact h9
    obtain ⟨v', wa, hruna, howna, hgra, _⟩ := run_append_rds (P := Tryd.prog) (ty := 26) Tryd.underlying26 infoU8c rfl (by decide) hown0 hsrc (bytes_one qi) (by decide) (by decide) xa.size
    refine wpList_append_run rfl _ _ _ rfl rfl rfl hruna ?_
    have xb := xa.grown hgra xa.size (fun g e => (hown0.lt g e).1)
    obtain ⟨g11, cap, rest, rfl, hg11, hk11, hcap, hcapm⟩ : ∃ g11 cap rest, v' = .slice (some ⟨g11, 0, none⟩) 128 cap ∧ w5.heap.size ≤ g11 ∧ Blk wa g11 5 ((qi.map fun c => .int .u8 (c.toNat : Int)) ++ rest) ∧ 128 ≤ cap ∧ cap ≤ maxLen := by
      rcases howna.2 with ⟨_, h0⟩ | ⟨g11, cap, cur, h1, h2, h3, h4, h5, h6, h7⟩
      · exact absurd h0 (by decide)
      · refine ⟨g11, cap, cur.toList.drop 128, h1, h2, ?_, h4, h5⟩
        have e9 : (qi.map fun c => Value.int .u8 (c.toNat : Int)) ++ cur.toList.drop 128 = cur.toList := by
          have h8 : cur.toList.take 128 = qi.map fun c => Value.int .u8 (c.toNat : Int) := by simpa using h7
          rw [← h8, List.take_append_drop]
        rw [e9]
        unfold Blk
        simpa using h3
    replace k8 := k8.ext xb
    have hba : b < w5.heap.size := hbB
    have hne8 : g8 ≠ g11 := by
      intro e9
      subst e9
      unfold Blk at k8 hk11
      rw [k8] at hk11
      injection hk11 with hk11
      injection hk11 with _ hk11
      exact absurd hk11 (by decide)
    clear hruna howna hgra hown0 hsrc xa hcu HBS hbB
    have hmod : at_ % 993 < 993 := Nat.mod_lt _ (by omega)
    have hmi2 : ((at_ : Int) % 993) = ((at_ % 993 : Nat) : Int) := by omega
    generalize at_ % 993 = k at *
    have hpow : turn * 2 ^ (k % 8) < 1099511627776 := by
      have h1 : 2 ^ (k % 8) ≤ 2 ^ 7 := Nat.pow_le_pow_right (by omega) (by omega)
      have h2 : turn * 2 ^ (k % 8) ≤ turn * 2 ^ 7 := Nat.mul_le_mul_left _ h1
      omega
    have hwr : IntKind.u64.wrap ((turn : Int) * 2 ^ (k % 8)) = ((turn * 2 ^ (k % 8) : Nat) : Int) := by
      have e : ((turn * 2 ^ (k % 8) : Nat) : Int) = (turn : Int) * 2 ^ (k % 8) := by rw [Int.natCast_mul, Int.natCast_pow]; rfl
      rw [← e]
      exact IntWalk.u64_in _ ⟨by omega, by omega⟩
    go_wp2_with fail
    try simp only [hmi2, hwr]
    generalize hwd : turn * 2 ^ (k % 8) = wide at *
    have HWD := Lib.hid hwd
    clear hwd hwr hmi2 hmi
    go_loopw [14] (fun i wr => ∃ j : Nat, j ≤ 5 ∧ k / 8 + j ≤ 128 ∧ i = .int .u64 j ∧ Below w5.heap.size w5 wr ∧ Blk wr g8 24 [.int .i64 s, .int .i64 n, .bool e, .slice A6 ol.length c6] ∧ Blk wr g11 5 (((Crc.xor2 qi (Crc.dl wide (k / 8) j)).map fun c => .int .u8 (c.toNat : Int)) ++ rest)) (fun i _ => 5 - (intOf i).toNat)
    case atStart => exact ⟨0, by omega, by omega, rfl, xb, k8, by rw [Crc.dl_zero _ _ (by omega), Crc.xor2_zero qi HLI.out]; exact hk11⟩
    case round =>
      obtain ⟨j, hj, hq, rfl, hbw, hk8, hkw⟩ := hrel
      clear k8 hk11 xb
      by_cases hlt : j < 5 ∧ k / 8 + j < 128
      · obtain ⟨h5, h128⟩ := hlt
        have hfr := hkw.frozen (k / 8 + j)
        have hce : wr.cell? ⟨g11, k / 8 + j, none⟩ = some (.int .u8 (((Crc.xor2 qi (Crc.dl wide (k / 8) j)).getD (k / 8 + j) 0).toNat : Int)) := by
          have hxl : (Crc.xor2 qi (Crc.dl wide (k / 8) j)).length = 128 := by rw [Crc.length_xor2 _ _ (by rw [HLI.out, Crc.length_dl _ _ _ hq]), HLI.out]
          rw [hkw.cell, List.getElem?_append_left (by rw [List.length_map, hxl]; exact h128), List.getElem?_map, List.getD_eq_getElem?_getD, List.getElem?_eq_getElem (by rw [hxl]; exact h128)]
          rfl
        generalize hch : (Crc.xor2 qi (Crc.dl wide (k / 8) j)).getD (k / 8 + j) 0 = ch at hce
        have HC := Lib.hid hch
        clear hch
        have h128' : (k : Int) / 8 + j < 128 := by omega
        have hcap' : (128 : Int) ≤ cap := by omega
        go_wp2
        exact ⟨⟨j + 1, by omega, by omega, by simp, hbw.setCell (p := ⟨g11, k / 8 + j, none⟩) hg11 _, hk8.far (p := ⟨g11, k / 8 + j, none⟩) hne8 _, blk_dlr hkw HLI.out h128 HC.out⟩, by simp [intOf]; omega⟩
      · have HF := Lib.hid (Crc.sum_burst qi (Crc.dl wide (k / 8) j) turn k (by rw [HLI.out, Crc.length_dl _ _ _ hq]) (by omega) ht (by rw [Crc.length_dl _ _ _ hq]; omega) (Crc.le_turn turn k j wide (by omega) hmod hj HWD.out hlt hq))
        have hlen := Lib.hid (show (Crc.xor2 qi (Crc.dl wide (k / 8) j)).length = 128 by rw [Crc.length_xor2 _ _ (by rw [HLI.out, Crc.length_dl _ _ _ hq]), HLI.out])
        generalize Crc.xor2 qi (Crc.dl wide (k / 8) j) = y at *
        obtain ⟨wo, hwo⟩ : ∃ wo, wo = wr := ⟨_, rfl⟩
        rw [← hwo] at hbw hk8 hkw ⊢
        clear hwo
        have HE8 : Hid (Ents wo wo.heap.size (.slice A6 ol.length c6) ol) := Lib.hid ((HE5.out.below hbw).more hbw.size)
        have HB8 : Hid (Bss wo wo.heap.size (.slice (some ⟨b, off, none⟩) Q.length cq) Q) := Lib.hid ((HB5.out.ext (Nat.le_refl _) hbw).more hbw.size)
        have hY : Bs wo wo.heap.size (.slice (some ⟨g11, 0, none⟩) 128 cap) y := by
          have h9 := (hkw.rds 0 128 cap 1 (by rw [List.length_append, List.length_map, hlen.out]; omega) hcap hcapm).more (B' := wo.heap.size) hkw.lt
          rw [List.drop_zero, List.take_append_of_le_length (by rw [List.length_map, hlen.out]; omega), List.take_of_length_le (by rw [List.length_map, hlen.out]; omega)] at h9
          unfold Bs
          rw [hlen.out]
          exact h9
        have HY := Lib.hid hY
        have c7 := c5.trans (hbw.mono c5.size)
        clear hY hkw hbw c5 HE5 HB5
        have hpart : (j < 5 ∧ ¬ ((k : Int) / 8 + j < 128)) ∨ ¬ ((j : Int) < 5) := by omega
        clear hlt
        have hsl : Hid (∀ jj u, ([] : List Value)[jj]? = some u → Bs wo wo.heap.size u ((Q.set i y).getD jj [])) := Lib.hid (fun jj u hu => by simp at hu)
        rcases hpart with ⟨h5, h128⟩ | h5'
        all_goals
          go_wp2
          go_loopw [15, 16] (fun t15 t16 wr => ∃ k2 : Nat, k2 ≤ Q.length ∧ t16 = .int .i64 k2 ∧ (∃ us : List Value, Hid (us.length = k2) ∧ Hid (∀ jj u, us[jj]? = some u → Bs wo wo.heap.size u ((Q.set i y).getD jj [])) ∧ wr.ownsRow wo.heap.size 26 1 t15 k2 us) ∧ Below wo.heap.size wo wr) (fun _ t16 _ => Q.length - (intOf t16).toNat)
          case atStart => exact ⟨0, Nat.zero_le _, rfl, ⟨[], Lib.hid rfl, hsl, World.ownsRow_nil _ _ _ _⟩, Below.refl _ _⟩
          case round =>
            obtain ⟨k2, hk2, rfl, ⟨us2, hus, hub, hown⟩, hbr⟩ := hrel
            clear hsl
            by_cases hlt2 : k2 < Q.length
            · have hstep : ∀ u2, Bs wo wo.heap.size u2 ((Q.set i y).getD k2 []) → Hid ((us2 ++ [u2]).length = k2 + 1) ∧ Hid (∀ jj u, (us2 ++ [u2])[jj]? = some u → Bs wo wo.heap.size u ((Q.set i y).getD jj [])) := fun u2 hu2 =>
                ⟨Lib.hid (by rw [List.length_append, hus.out]; rfl), Lib.hid (fun jj u hu => by
                  by_cases hj : jj < us2.length
                  · rw [List.getElem?_append_left hj] at hu; exact hub.out jj u hu
                  · rw [List.getElem?_append_right (by omega)] at hu
                    by_cases h0 : jj - us2.length = 0
                    · rw [h0] at hu
                      simp at hu
                      subst hu
                      rw [show jj = k2 by have := hus.out; omega]; exact hu2
                    · rw [List.getElem?_eq_none (by simp; omega)] at hu; cases hu)⟩
              by_cases hki : k2 = i
              · have hkb : ((k2 : Int) == (i : Int)) = true := by rw [beq_iff_eq]; omega
                have HU := Lib.hid (hstep (.slice (some ⟨g11, 0, none⟩) 128 cap) (by rw [hki, List.getD_eq_getElem?_getD, List.getElem?_set_self hi]; exact HY.out))
                clear hstep hki
                go_wp2_with (at_builtin; refine stop_ ?_)
                refine wpList_append_one rfl _ _ rfl rfl rfl rfl Tryd.underlying39 infoBsl rfl hown rfl (by rw [maxLen_eq]; omega) (by omega) hbr.size ?_
                intro v1 w7 hown' hgr
                have hb3 := hbr.grown hgr hbr.size (fun g hg => (hown.lt g hg).1)
                clear hgr hown hbr
                go_wp2
                go_roundw
                case rel => exact ⟨k2 + 1, by omega, by go_num, ⟨_, HU.out.1, HU.out.2, hown'⟩, hb3⟩
                case measure => simp [intOf]; omega
              · have hkb : ((k2 : Int) == (i : Int)) = false := by rw [beq_eq_false_iff_ne]; omega
                obtain ⟨A9, c9, hA9, _, _, hcell⟩ := HB8.out.open_
                injection hA9 with e1 e2 e3
                subst e3
                clear e2
                obtain ⟨b7, off7, u7, hAe, hb7, hcu7, hbs7⟩ := hcell k2 hlt2
                rw [← e1] at hAe
                injection hAe with hAe
                injection hAe with e4 e5
                subst e4 e5
                obtain ⟨A7, c77, rfl, _⟩ := hbs7.open_
                have HU := Lib.hid (hstep _ (by rw [List.getD_eq_getElem?_getD, List.getElem?_set_ne (fun h => hki h.symm), List.getElem?_eq_getElem hlt2]; exact hbs7))
                have hcw := (hbr.cell (p := ⟨b, off + k2, none⟩) hb7).trans hcu7
                clear hstep hki hcell hbs7 e1 hcu7
                go_wp2_with (at_builtin; refine stop_ ?_)
                refine wpList_append_one rfl _ _ rfl rfl rfl rfl Tryd.underlying39 infoBsl rfl hown rfl (by rw [maxLen_eq]; omega) (by omega) hbr.size ?_
                intro v1 w7 hown' hgr
                have hb3 := hbr.grown hgr hbr.size (fun g hg => (hown.lt g hg).1)
                clear hgr hown hbr hcw
                go_wp2
                go_roundw
                case rel => exact ⟨k2 + 1, by omega, by go_num, ⟨_, HU.out.1, HU.out.2, hown'⟩, hb3⟩
                case measure => simp [intOf]; omega
            · obtain rfl : k2 = Q.length := by omega
              have HBF : Hid (Bss wr wr.heap.size _ (Q.set i y)) := Lib.hid ⟨us2, by rw [hus.out, List.length_set], by rw [List.length_set]; exact Rds.of_own hown, fun jj u mm hu hm9 => by
                have h9 := hub.out jj u hu
                rw [List.getD_eq_getElem?_getD, hm9] at h9
                exact (h9.below hbr).more hbr.size⟩
              have k9 := hk8.ext hbr
              have c8 := c7.trans (hbr.mono c7.size)
              obtain ⟨Av, cv, rfl⟩ := own_slice hown
              have p0 := k9.cell 0
              have p1 := k9.cell 1
              have p2 := k9.cell 2
              have p3 := k9.cell 3
              go_wp2_with fail
              refine (whole_any s n e _ _ ol (Q.set i y) _ ((HE8.out.below hbr).more hbr.size) HBF.out (hH.ext c8)).mono ?_
              rintro r w9 ⟨rfl, b9⟩
              rw [HWT2.out y HF.out]
              have c9 := c8.trans (b9.mono c8.size)
              clear p0 p1 p2 p3 k9 c8 b9 hbr hown
              go_wp2_with fail
              refine (awakeS_any w9 (hH.ext c9)).mono ?_
              rintro r w10 ⟨rfl, b10⟩
              go_wp2
              go_ret
              exact ⟨rfl, c9.trans (b10.mono c9.size)⟩

/-- What the walk gives, for every argument and every world that holds the table. -/
theorem summaryHolds_contract (H : Type) (enc : TypeId × Value → H) (W : World) (base : Nat) (args : Array Value) (ds gs : List (DataW H)) (before : List MemPlace)
    (hval : ∀ (j : Nat) t v, Tryd.f6.params[j]? = some t → args[j]? = some v → Value.okWide Tryd.prog W .any base t v)
    (hW : DataW.Whole enc Tryd.prog Tryd.f6.params.toList Rows.summaryHoldsSpec.vars false W args.toList ds gs before) (hL : laidMetH Tryd.prog Rows.summaryHoldsRow.laid W) :
    Calls Tryd.prog 6 args W fun e W' => ∃ v, e = .returned v ∧ Rows.summaryHoldsSpec.post enc Tryd.prog Tryd.f6 false true false false W args v W' := by
  have hW' := hW
  obtain ⟨p, q, hA0, hV, hps, hfz, hnd⟩ := hW
  have hA : DataW.TrodAll enc Tryd.prog W 0 (fun _ => true) true Tryd.f6.params.toList args.toList ds p := hA0
  rw [Tryd.params6] at hA hval
  obtain ⟨v0, vs0, d0, ds0, p0, q0, hargs, rfl, rfl, h0, r0⟩ := trodAll_cons hA
  obtain ⟨rfl, rfl, rfl⟩ := trodAll_nil r0
  obtain rfl : args = #[v0] := by cases args; simp_all
  obtain ⟨rfl, rfl⟩ := trodVars_none hV
  obtain ⟨s0, n0, e0, vl0, vb0, l0, bl0, at0, tn0, rfl, b0, bb0, ha0, ht0⟩ := turned_of_trod (hval 0 51 v0 rfl rfl) h0
  clear hA0
  refine (summaryHolds_walk W s0 n0 e0 vl0 vb0 l0 bl0 at0 tn0 b0 bb0 ha0 ht0 (halves_of hL)).mono fun e W' ⟨he, hb⟩ => ?_
  subst he
  exact ⟨_, rfl, law_post laidOut (by rw [Tryd.params6]; decide +kernel) rfl Tryd.underlying4 rfl rfl hW' hb⟩

theorem summaryHolds_met (os : Os) : laidMet Tryd.prog Rows.summaryHoldsRow.laid ((laidWorld os).forCall (fun _ _ => 0) ⟨#[], #[.agg #[.int .i64 0, .int .i64 0, .bool false, .slice none 0 0, .slice none 0 0, .int .u64 0, .int .u32 0]], []⟩).memory :=
  laidMet_of_run' 8 (by kernel_rfl) (by kernel_rfl)
theorem summaryHolds_reads (os : Os) {H : Type} (enc : TypeId × Value → H) : ∃ places, DataW.whole enc Tryd.prog ((laidWorld os).forCall (fun _ _ => 0) ⟨#[], #[.agg #[.int .i64 0, .int .i64 0, .bool false, .slice none 0 0, .slice none 0 0, .int .u64 0, .int .u32 0]], []⟩).memory Tryd.f6.params.toList Rows.summaryHoldsSpec.vars false (#[.agg #[.int .i64 0, .int .i64 0, .bool false, .slice none 0 0, .slice none 0 0, .int .u64 0, .int .u32 0]] : Array Value).toList 8 = some ([.agg [.agg [.lit (.int .i64 0), .lit (.int .i64 0), .lit (.bool false), .nil], .nil, .lit (.int .u64 0), .lit (.int .u32 0)]], [], places) :=
  ⟨[], by kernel_rfl⟩

set_option maxRecDepth 100000 in
theorem summaryHolds_lifted (os : Os) (started : os.Started) (H : Type) (enc : TypeId × Value → H) (F : Stop.Interp) :
    ReturnsInHanded {} Tryd.checked os 6 .any ((OpenSpec.ofChange Rows.summaryHoldsSpec).preRow enc Tryd.prog Tryd.f6 Rows.summaryHoldsRow.domain false Rows.summaryHoldsRow.laid) (((OpenSpec.ofChange Rows.summaryHoldsSpec).at F).post enc Tryd.prog Tryd.f6 false true false false) := by
  obtain ⟨places, hx⟩ := summaryHolds_reads os enc
  refine returnsInHanded_of_row (C := Tryd.checked) (s := OpenSpec.ofChange Rows.summaryHoldsSpec) own started (by kernel_rfl) Tryd.func6
    (witness_row_at (enc := enc) (C := Tryd.checked) false (laidWorld os) #[.agg #[.int .i64 0, .int .i64 0, .bool false, .slice none 0 0, .slice none 0 0, .int .u64 0, .int .u32 0]] rfl (by kernel_rfl) (by kernel_rfl) (by kernel_rfl)
      (OpenSpec.preRow_of_cond 8 hx (by kernel_rfl) (fun k hk => by cases hk) (by kernel_rfl) (summaryHolds_met os))) ?_
  intro W base args ds gs before hval hW _ _ _ hL _ _
  exact summaryHolds_contract H enc W base args ds gs before hval hW hL

theorem summaryHolds_said : Rows.SummaryHoldsSaid :=
  OpenClaim.holds_of_cond 6 Tryd.f6 rfl rfl rfl rfl rfl rfl rfl ⟨rfl, rfl, rfl, rfl, rfl⟩ rfl rfl rfl rfl rfl (by kernel_rfl) Tryd.func6 (by kernel_rfl)
    (of_decide_eq_true (by kernel_rfl)) (by unfold Func.isWrapper; first | (rw [if_pos (by decide +kernel)]; kernel_rfl) | (rw [if_neg (by decide +kernel)]; exact ⟨rfl, rfl⟩))
    (fun os started H enc _ F => by rw [OpenClaim.pre_eq_preRow]; exact summaryHolds_lifted os started H enc F)

theorem summaryHolds_plain (f : FuncId) (fn : Func) (hf : Tryd.pinned.checked.prog.funcNamed "haymow/haymowlaw06.SummaryHolds" = some f) (hfn : Tryd.pinned.checked.prog.funcs[f]? = some fn) :
    false = Tryd.pinned.checked.prog.looks [] ∧ ∀ (j : Nat) t, fn.params[j]? = some t → Tryd.pinned.checked.prog.wantsStandIn t = false := by
  obtain rfl : f = 6 := Option.some.inj ((show Tryd.prog.funcNamed "haymow/haymowlaw06.SummaryHolds" = some 6 by kernel_rfl).symm.trans hf) |>.symm
  obtain rfl : fn = Tryd.f6 := (Option.some.inj (Tryd.func6.symm.trans hfn)).symm
  refine ⟨by kernel_rfl, fun j t ht => ?_⟩
  rw [Tryd.params6] at ht
  have hall : ∀ t ∈ (Tryd.f6).params.toList, Tryd.prog.wantsStandIn t = false := by rw [Tryd.params6]; decide +kernel
  exact hall t (by rw [Tryd.params6]; exact Array.mem_toList_iff.2 (Array.mem_of_getElem? ht))

/-- THE CARD. -/
theorem summaryHolds_holds : Rows.SummaryHoldsCardSaid :=
  Claim7.holds_tied_plain_at .later [] _ _ _ _ summaryHolds_said (fun _ h => by cases h) (by kernel_rfl) (fun _ h => by cases h) summaryHolds_row_tie rfl ⟨rfl, rfl⟩ (by kernel_rfl) rfl summaryHolds_plain (by kernel_rfl)

end Go.Proofs.YtieajlpkiheebaaDoor
