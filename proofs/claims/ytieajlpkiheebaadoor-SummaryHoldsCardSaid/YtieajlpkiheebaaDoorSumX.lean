/-
  The reference of chapter 06: Decode. By an AI agent.
-/
import Derived.Test.YtieajlpkiheebaaDoorSumV
namespace Go.Proofs.YtieajlpkiheebaaDoor
open Go.RowKit Go.ChangeShapes Go.WideShapes Go.ChangeAt

theorem val_oneS (l : List UInt8) (j : Nat) (hj : j < l.length) : Pk.val ((l.drop j).take 1) = l[j].toNat := by
  rw [List.drop_eq_getElem_cons hj, List.take_succ_cons, List.take_zero]
  simp [Pk.val]
/-- s[j]. -/
theorem run_atS (l : List UInt8) (j : Nat) (hj : j < l.length) (z : Int) (hz : z = j) (W : World) : (Instr.index 9 (.string ⟨l.toArray⟩) (.int .i64 z)).run Tryd.prog W = .ok (.int .u8 (Pk.val ((l.drop j).take 1) : Nat)) W := by
  subst hz
  rw [run_index_string W _ _ _ _ Tryd.underlying9]
  have h1 : ((j : Int) < ((⟨l.toArray⟩ : ByteArray).size : Int)) := by rw [ba_size]; omega
  rw [dif_pos ⟨Int.natCast_nonneg _, h1⟩, val_oneS l j hj]
  rfl

set_option maxRecDepth 100000 in
set_option maxHeartbeats 8000000 in
theorem rdecodeS_any (w : World) (l : List UInt8) (hm : l.length ≤ 1000000) :
    Calls Tryd.prog 16 #[.string ⟨l.toArray⟩] w (DecS l w) := by
  go_enter Tryd.func16, Tryd.ntmps16
  go_wp2_with fail
  generalize hW : w.alloc (.cells _ 24) = W0
  have hk0 : Blk W0 w.heap.size 24 [.int .i64 0, .int .i64 0, .bool false, .slice none 0 0] := by rw [← hW]; exact Blk.new w _ _
  have b0 : Below w.heap.size w W0 := by rw [← hW]; exact (Below.refl _ _).alloc (Nat.le_refl _) _
  clear hW
  obtain ⟨g2, hg2⟩ : ∃ g2, g2 = w.heap.size := ⟨_, rfl⟩
  rw [← hg2] at hk0 ⊢
  have hg1 : w.heap.size ≤ g2 := by omega
  clear hg2
  refine (rheld_any _ l (by omega)).mono ?_
  rintro e w1 ⟨rfl, b1⟩
  have hk1 := hk0.ext b1
  have c1 := b0.trans (b1.mono b0.size)
  clear hk0 b1 b0
  have HDOC := Lib.hid (Sm.sm_doc l)
  cases hh : Crc.held l with
  | false =>
    have HE := Lib.hid (show Sm.smErr l = 5 by rw [HDOC.out, hh]; rfl)
    clear hh
    have e0 := hk1.cell 0
    have e1 := hk1.cell 1
    have e2 := hk1.cell 2
    have e3 := hk1.cell 3
    have ef := hk1.frozen
    go_wp2
    have hz := (((hk1.set_ 0 (.int .i64 0)).set_ 1 (.int .i64 0)).set_ 2 (.bool false)).set_ 3 (.slice none 0 0)
    have bz := (((c1.setCell (p := ⟨g2, 0, none⟩) hg1 (.int .i64 0)).setCell (p := ⟨g2, 1, none⟩) hg1 (.int .i64 0)).setCell (p := ⟨g2, 2, none⟩) hg1 (.bool false)).setCell (p := ⟨g2, 3, none⟩) hg1 (.slice none 0 0)
    refine bodyPost_ret (v := .tuple #[.agg #[.int .i64 0, .int .i64 0, .bool false, .slice none 0 0], .int .i64 5]) (res_cell2 [.int .i64 0, .int .i64 0, .bool false, .slice none 0 0] _ Tryd.results16 rfl hz.range Tryd.underlying24 rfl (by kernel_rfl) rfl) rfl ?_
    exact DecS.no HE.out (by decide) rfl bz
  | true =>
    have hlen := Cd.held_len hh
    have HE := Lib.hid (show Sm.smErr l = if Sm.mayB (Sm.smOf l) ∧ Sm.smE (Sm.smOf l) = l then 0 else 3 by rw [HDOC.out, hh]; rfl)
    have hl1 : 128 ≤ l.length := by omega
    have hl2 : l.length ≤ 128 := by omega
    have HLEN := Lib.hid hlen
    have HBIG := Lib.hid (Sm.big_not l)
    clear hh hlen HDOC
    have HO := Lib.hid (show Sm.smOf l = ⟨((Pk.val ((l.drop 4).take 6) : Nat) : Int), ((Pk.val ((l.drop 10).take 4) : Nat) : Int), Sm.fin l == 1, Sm.entsOf (l.drop 16) (Sm.cnt l)⟩ from rfl)
    have HR15 := Lib.hid (show ∀ W, (Instr.index 9 (.string ⟨l.toArray⟩) (.int .i64 15)).run Tryd.prog W = .ok (.int .u8 (Sm.fin l : Nat)) W from run_atS l 15 (by omega) 15 rfl)
    have hr14 : ∀ W, (Instr.index 9 (.string ⟨l.toArray⟩) (.int .i64 14)).run Tryd.prog W = .ok (.int .u8 (Sm.cnt l : Nat)) W := run_atS l 14 (by omega) 14 rfl
    have v1 : Pk.val ((l.drop 4).take 6) < 281474976710656 := Sm.val_lt_of _ 6
    have v2 : Pk.val ((l.drop 10).take 4) < 4294967296 := Sm.val_lt_of _ 4
    have v3 : Sm.cnt l < 256 := Sm.val_lt_of _ 1
    have v4 : Sm.fin l < 256 := Sm.val_lt_of _ 1
    generalize Sm.cnt l = V3 at *
    generalize Sm.fin l = V4 at *
    have HGET1 := Lib.hid (fun W => rget_eq W l 4 6 4 6 rfl rfl (by omega) (by omega) (by omega))
    have HGET2 := Lib.hid (fun W => rget_eq W l 10 4 10 4 rfl rfl (by omega) (by omega) (by omega))
    generalize Pk.val ((l.drop 4).take 6) = V1 at *
    generalize Pk.val ((l.drop 10).take 4) = V2 at *
    obtain ⟨eb, heb⟩ : ∃ eb, ((V4 : Int) == 1) = eb := ⟨_, rfl⟩
    have HEB := Lib.hid (show eb = (V4 == 1) by
      rw [← heb, Bool.eq_iff_iff, beq_iff_eq, beq_iff_eq]; omega)
    have HHEB := Lib.hid heb
    clear heb
    go_upto_region 3 with fail
    refine wp_region_vars 12 [.string ⟨l.toArray⟩, .int .u64 (V1 : Int), .int .i64 (V1 : Int), .string ⟨l.toArray⟩, .int .u64 (V2 : Int), .int .i64 (V2 : Int), .string ⟨l.toArray⟩, .int .u8 (V4 : Int), .bool eb, .agg (pcS (V1 : Int) (V2 : Int) eb (.slice none 0 0)).toArray, undef, undef] [⟨10, 11, 4, 21, 24, [.int .i64 0, .int .i64 0, .bool false, .slice none 0 0], pcS (V1 : Int) (V2 : Int) eb (.slice none 0 0)⟩] (by kernel_rfl) rfl (by kernel_rfl) rfl ?_ ?_ ?_
    · intro xv hxv
      simp only [List.mem_cons, List.not_mem_nil, or_false] at hxv
      rcases hxv with rfl
      · refine ⟨by kernel_rfl, by kernel_rfl, of_decide_eq_true (by kernel_rfl), rfl, by kernel_rfl, ⟨9, by kernel_rfl, by simp, rfl⟩, ?_, ?_⟩
        · intro a x K h
          refine wpOp_plain rfl rfl ?_
          go_simp
          exact h
        · intro a x g K h1 h2 h3 h
          refine wpOp_plain rfl rfl ?_
          refine wp_store_mid 24 (.tmp 4) (.tmp 21) rfl g 0 (pcS (V1 : Int) (V2 : Int) eb (.slice none 0 0)).toArray h1 h2 (by rw [List.size_toArray]; exact h3) (by kernel_rfl) (all_oneCell_toArray (pcS_one rfl)) ?_
          exact h
    · refine ⟨?_, ?_, ?_, ?_, ?_, ?_, ?_, ?_, ?_, ?_, ?_, ?_, trivial⟩
      · intro _ a x hG hd hs K hK
        replace hG : Below (w1).heap.size (w1) x := hG
        replace hK : ∀ (v : Value) w', v = .string ⟨l.toArray⟩ → Below (w1).heap.size (w1) w' → Below x.heap.size x w' → K _ w' := fun v w' e1 e2 e3 => hK v w' (fun _ => e1) e2 e3
        have h0 : a.tmps.getD 0 undef = .string ⟨l.toArray⟩ := hs 0 (by kernel_rfl)
        clear hd hs
        refine wpOp_plain rfl rfl ?_
        go_simp
        exact hK _ _ rfl hG (Below.refl _ _)
      · intro _ a x hG hd hs K hK
        replace hG : Below (w1).heap.size (w1) x := hG
        replace hK : ∀ (v : Value) w', v = .int .u64 (V1 : Int) → Below (w1).heap.size (w1) w' → Below x.heap.size x w' → K _ w' := fun v w' e1 e2 e3 => hK v w' (fun _ => e1) e2 e3
        have h12 : a.tmps.getD 12 undef = .string ⟨l.toArray⟩ := hd 0 12 (by kernel_rfl) (by simp)
        clear hd hs
        refine wpOp_plain rfl rfl ?_
        go_simp
        refine (HGET1.out _).mono ?_
        rintro e w' ⟨rfl, rfl⟩
        exact hK _ _ rfl hG (Below.refl _ _)
      · intro _ a x hG hd hs K hK
        replace hG : Below (w1).heap.size (w1) x := hG
        replace hK : ∀ (v : Value) w', v = .int .i64 (V1 : Int) → Below (w1).heap.size (w1) w' → Below x.heap.size x w' → K _ w' := fun v w' e1 e2 e3 => hK v w' (fun _ => e1) e2 e3
        have h13 : a.tmps.getD 13 undef = .int .u64 (V1 : Int) := hd 1 13 (by kernel_rfl) (by simp)
        clear hd hs
        refine wpOp_plain rfl rfl ?_
        have hwr : IntKind.i64.wrap (V1 : Int) = (V1 : Int) := IntWalk.i64_in _ (by omega)
        go_simp
        exact hK _ _ rfl hG (Below.refl _ _)
      · intro _ a x hG hd hs K hK
        replace hG : Below (w1).heap.size (w1) x := hG
        replace hK : ∀ (v : Value) w', v = .string ⟨l.toArray⟩ → Below (w1).heap.size (w1) w' → Below x.heap.size x w' → K _ w' := fun v w' e1 e2 e3 => hK v w' (fun _ => e1) e2 e3
        have h0 : a.tmps.getD 0 undef = .string ⟨l.toArray⟩ := hs 0 (by kernel_rfl)
        clear hd hs
        refine wpOp_plain rfl rfl ?_
        go_simp
        exact hK _ _ rfl hG (Below.refl _ _)
      · intro _ a x hG hd hs K hK
        replace hG : Below (w1).heap.size (w1) x := hG
        replace hK : ∀ (v : Value) w', v = .int .u64 (V2 : Int) → Below (w1).heap.size (w1) w' → Below x.heap.size x w' → K _ w' := fun v w' e1 e2 e3 => hK v w' (fun _ => e1) e2 e3
        have h15 : a.tmps.getD 15 undef = .string ⟨l.toArray⟩ := hd 3 15 (by kernel_rfl) (by simp)
        clear hd hs
        refine wpOp_plain rfl rfl ?_
        go_simp
        refine (HGET2.out _).mono ?_
        rintro e w' ⟨rfl, rfl⟩
        exact hK _ _ rfl hG (Below.refl _ _)
      · intro _ a x hG hd hs K hK
        replace hG : Below (w1).heap.size (w1) x := hG
        replace hK : ∀ (v : Value) w', v = .int .i64 (V2 : Int) → Below (w1).heap.size (w1) w' → Below x.heap.size x w' → K _ w' := fun v w' e1 e2 e3 => hK v w' (fun _ => e1) e2 e3
        have h16 : a.tmps.getD 16 undef = .int .u64 (V2 : Int) := hd 4 16 (by kernel_rfl) (by simp)
        clear hd hs
        refine wpOp_plain rfl rfl ?_
        have hwr : IntKind.i64.wrap (V2 : Int) = (V2 : Int) := IntWalk.i64_in _ (by omega)
        go_simp
        exact hK _ _ rfl hG (Below.refl _ _)
      · intro _ a x hG hd hs K hK
        replace hG : Below (w1).heap.size (w1) x := hG
        replace hK : ∀ (v : Value) w', v = .string ⟨l.toArray⟩ → Below (w1).heap.size (w1) w' → Below x.heap.size x w' → K _ w' := fun v w' e1 e2 e3 => hK v w' (fun _ => e1) e2 e3
        have h0 : a.tmps.getD 0 undef = .string ⟨l.toArray⟩ := hs 0 (by kernel_rfl)
        clear hd hs
        refine wpOp_plain rfl rfl ?_
        go_simp
        exact hK _ _ rfl hG (Below.refl _ _)
      · intro _ a x hG hd hs K hK
        replace hG : Below (w1).heap.size (w1) x := hG
        replace hK : ∀ (v : Value) w', v = .int .u8 (V4 : Int) → Below (w1).heap.size (w1) w' → Below x.heap.size x w' → K _ w' := fun v w' e1 e2 e3 => hK v w' (fun _ => e1) e2 e3
        have h18 : a.tmps.getD 18 undef = .string ⟨l.toArray⟩ := hd 6 18 (by kernel_rfl) (by simp)
        clear hd hs
        refine wpOp_plain rfl rfl ?_
        have hr15 := HR15.out
        go_simp
        exact hK _ _ rfl hG (Below.refl _ _)
      · intro _ a x hG hd hs K hK
        replace hG : Below (w1).heap.size (w1) x := hG
        replace hK : ∀ (v : Value) w', v = .bool eb → Below (w1).heap.size (w1) w' → Below x.heap.size x w' → K _ w' := fun v w' e1 e2 e3 => hK v w' (fun _ => e1) e2 e3
        have h19 : a.tmps.getD 19 undef = .int .u8 (V4 : Int) := hd 7 19 (by kernel_rfl) (by simp)
        clear hd hs
        refine wpOp_plain rfl rfl ?_
        have heb := HHEB.out
        go_simp
        exact hK _ _ rfl hG (Below.refl _ _)
      · intro _ a x hG hd hs K hK
        replace hG : Below (w1).heap.size (w1) x := hG
        replace hK : ∀ (v : Value) w', v = .agg (pcS (V1 : Int) (V2 : Int) eb (.slice none 0 0)).toArray → Below (w1).heap.size (w1) w' → Below x.heap.size x w' → K _ w' := fun v w' e1 e2 e3 => hK v w' (fun _ => e1) e2 e3
        have h14 : a.tmps.getD 14 undef = .int .i64 (V1 : Int) := hd 2 14 (by kernel_rfl) (by simp)
        have h14o := getD_opt h14
        have h17 : a.tmps.getD 17 undef = .int .i64 (V2 : Int) := hd 5 17 (by kernel_rfl) (by simp)
        have h17o := getD_opt h17
        have h20 : a.tmps.getD 20 undef = .bool eb := hd 8 20 (by kernel_rfl) (by simp)
        have h20o := getD_opt h20
        clear hd hs
        refine wpOp_plain rfl rfl ?_
        go_simp
        exact hK _ _ rfl hG (Below.refl _ _)
      · intro hno
        exact absurd rfl ((hno _ (List.Mem.head _)).1)
      · intro hno
        exact absurd rfl ((hno _ (List.Mem.head _)).2)
    · intro x gs hG hgs
      intro v0 hv0 v1 hv1 v2 hv2 v3 hv3 v4 hv4 v5 hv5 v6 hv6 v7 hv7 v8 hv8 v9 hv9 v10 hv10
      replace hv0 : v0 = .string ⟨l.toArray⟩ := hv0
      subst hv0
      replace hv1 : v1 = .int .u64 (V1 : Int) := hv1
      subst hv1
      replace hv2 : v2 = .int .i64 (V1 : Int) := hv2
      subst hv2
      replace hv3 : v3 = .string ⟨l.toArray⟩ := hv3
      subst hv3
      replace hv4 : v4 = .int .u64 (V2 : Int) := hv4
      subst hv4
      replace hv5 : v5 = .int .i64 (V2 : Int) := hv5
      subst hv5
      replace hv6 : v6 = .string ⟨l.toArray⟩ := hv6
      subst hv6
      replace hv7 : v7 = .int .u8 (V4 : Int) := hv7
      subst hv7
      replace hv8 : v8 = .bool eb := hv8
      subst hv8
      replace hv9 : v9 = .agg (pcS (V1 : Int) (V2 : Int) eb (.slice none 0 0)).toArray := hv9
      subst hv9
      replace hv10 : v10 = .pointer (some ⟨gs.getD 0 0, 0, none⟩) := hv10
      subst hv10
      obtain ⟨gl0, gk0⟩ := hgs 0 _ rfl
      replace gl0 : (w1).heap.size ≤ gs.getD 0 0 := gl0
      replace gk0 : Blk x (gs.getD 0 0) 24 (pcS (V1 : Int) (V2 : Int) eb (.slice none 0 0)) := gk0
      clear hgs
      generalize gs.getD 0 0 = gv0 at *
      simp only [Act.put, List.setIfInBounds_toArray, List.set_cons_zero, List.set_cons_succ, REnd]
      try simp only [Exit.then]
      have hg6 : g2 ≠ gv0 := by have := hk1.lt; omega
      have hg6b : w.heap.size ≤ gv0 := Nat.le_trans c1.size gl0
      replace hk1 := hk1.ext hG
      replace c1 := c1.trans (hG.mono c1.size)
      clear gl0 hG HR15 HHEB HGET1 HGET2
      by_cases h13 : 13 < V3
      · have HE3 := Lib.hid (show Sm.smErr l = 3 by rw [HE.out, HBIG.out h13]; simp)
        have h13' : 13 < (V3 : Int) := by omega
        clear h13
        have e0 := hk1.cell 0
        have e1 := hk1.cell 1
        have e2 := hk1.cell 2
        have e3 := hk1.cell 3
        have ef := hk1.frozen
        go_wp2
        have hz := (((hk1.set_ 0 (.int .i64 0)).set_ 1 (.int .i64 0)).set_ 2 (.bool false)).set_ 3 (.slice none 0 0)
        have bz := (((c1.setCell (p := ⟨g2, 0, none⟩) hg1 (.int .i64 0)).setCell (p := ⟨g2, 1, none⟩) hg1 (.int .i64 0)).setCell (p := ⟨g2, 2, none⟩) hg1 (.bool false)).setCell (p := ⟨g2, 3, none⟩) hg1 (.slice none 0 0)
        refine bodyPost_ret (v := .tuple #[.agg #[.int .i64 0, .int .i64 0, .bool false, .slice none 0 0], .int .i64 3]) (res_cell2 [.int .i64 0, .int .i64 0, .bool false, .slice none 0 0] _ Tryd.results16 rfl hz.range Tryd.underlying24 rfl (by kernel_rfl) rfl) rfl ?_
        exact DecS.no HE3.out (by decide) rfl bz
      · have h13' : (V3 : Int) ≤ 13 := by omega
        have v3' : V3 ≤ 13 := by omega
        clear HBIG h13 v3
        go_wp2
        clear hr14 h13'
        go_loopw [6] (fun t6 wr => ∃ k : Nat, k ≤ V3 ∧ t6 = .int .i64 (k : Int) ∧ (∃ v, Blk wr gv0 24 (pcS (V1 : Int) (V2 : Int) eb v) ∧ wr.ownsRow w.heap.size 62 4 v k (ecells (Sm.entsOf (l.drop 16) k))) ∧ Blk wr g2 24 [.int .i64 0, .int .i64 0, .bool false, .slice none 0 0] ∧ Below w.heap.size w wr) (fun t6 _ => V3 - (intOf t6).toNat)
        case atStart => exact ⟨0, Nat.zero_le _, rfl, ⟨_, gk0, World.ownsRow_nil _ _ _ _⟩, hk1, c1⟩
        case round =>
          obtain ⟨k, hk, rfl, ⟨v, bv, hown⟩, hkz, hbr⟩ := hrel
          clear gk0 hk1 c1
          by_cases hlt : k < V3
          · have HRA := Lib.hid (run_atS l (16 + 8 * k) (by omega) (16 + 8 * (k : Int)) (by omega))
            have HRB := Lib.hid (run_atS l (16 + 8 * k + 1) (by omega) (16 + 8 * (k : Int) + 1) (by omega))
            have HGC := Lib.hid (fun W => rget_eq W l (16 + 8 * k + 2) 2 (16 + 8 * (k : Int) + 2) 2 (by omega) rfl (by omega) (by omega) (by omega))
            have HGD := Lib.hid (fun W => rget_eq W l (16 + 8 * k + 4) 4 (16 + 8 * (k : Int) + 4) 4 (by omega) rfl (by omega) (by omega) (by omega))
            have HEN := Lib.hid (entAt_16 l k)
            simp only [List.drop_drop] at HEN
            have u0 : Pk.val ((l.drop (16 + 8 * k)).take 1) < 256 := Sm.val_lt_of _ 1
            have u1 : Pk.val ((l.drop (16 + 8 * k + 1)).take 1) < 256 := Sm.val_lt_of _ 1
            have u2 : Pk.val ((l.drop (16 + 8 * k + 2)).take 2) < 65536 := Sm.val_lt_of _ 2
            have u3 : Pk.val ((l.drop (16 + 8 * k + 4)).take 4) < 4294967296 := Sm.val_lt_of _ 4
            generalize Pk.val ((l.drop (16 + 8 * k)).take 1) = U0 at *
            generalize Pk.val ((l.drop (16 + 8 * k + 1)).take 1) = U1 at *
            generalize Pk.val ((l.drop (16 + 8 * k + 2)).take 2) = U2 at *
            generalize Pk.val ((l.drop (16 + 8 * k + 4)).take 4) = U3 at *
            have hz1 : 0 ≤ 16 + 8 * (k : Int) := by omega
            go_upto_region 11 with fail
            have hG0 : Below wr.heap.size wr wr.drew := (Below.refl _ _).drew
            refine wp_region_then 26 23 [(fun y_ _ => y_ = .pointer (some ⟨gv0, 3, none⟩)),
              (fun y_ _ => y_ = v),
              (fun y_ _ => y_ = .string ⟨l.toArray⟩),
              (fun y_ _ => y_ = .int .i64 (16 + 8 * (k : Int))),
              (fun y_ _ => y_ = .int .u8 (U0 : Int)),
              (fun y_ _ => y_ = .int .i64 (U0 : Int)),
              (fun y_ _ => y_ = .string ⟨l.toArray⟩),
              (fun y_ _ => y_ = .int .i64 (16 + 8 * (k : Int))),
              (fun y_ _ => y_ = .int .i64 (16 + 8 * (k : Int) + 1)),
              (fun y_ _ => y_ = .int .u8 (U1 : Int)),
              (fun y_ _ => y_ = .int .i64 (U1 : Int)),
              (fun y_ _ => y_ = .string ⟨l.toArray⟩),
              (fun y_ _ => y_ = .int .i64 (16 + 8 * (k : Int))),
              (fun y_ _ => y_ = .int .i64 (16 + 8 * (k : Int) + 2)),
              (fun y_ _ => y_ = .int .u64 (U2 : Int)),
              (fun y_ _ => y_ = .int .i64 (U2 : Int)),
              (fun y_ _ => y_ = .string ⟨l.toArray⟩),
              (fun y_ _ => y_ = .int .i64 (16 + 8 * (k : Int))),
              (fun y_ _ => y_ = .int .i64 (16 + 8 * (k : Int) + 4)),
              (fun y_ _ => y_ = .int .u64 (U3 : Int)),
              (fun y_ _ => y_ = .int .u32 (U3 : Int)),
              (fun y_ _ => y_ = .agg #[.int .i64 (U0 : Int), .int .i64 (U1 : Int), .int .i64 (U2 : Int), .int .u32 (U3 : Int)]),
              (fun u q => ∃ g, u = .slice (some ⟨g, 0, none⟩) 1 1 ∧ Blk q g 62 (ecells [⟨(U0 : Int), (U1 : Int), (U2 : Int), U3⟩]) ∧ wr.heap.size ≤ g)]
              (fun q => Below wr.heap.size wr q) (by kernel_rfl) rfl (by decide) (by kernel_rfl) (by kernel_rfl) ?_ ?_ ?_ ?_
            · exact hG0
            · exact ⟨stab_eq _, stab_eq _, stab_eq _, stab_eq _, stab_eq _, stab_eq _, stab_eq _, stab_eq _, stab_eq _, stab_eq _, stab_eq _, stab_eq _, stab_eq _, stab_eq _, stab_eq _, stab_eq _, stab_eq _, stab_eq _, stab_eq _, stab_eq _, stab_eq _, stab_eq _, fun _ _ _ ⟨g, h1, h2, h3⟩ hb => ⟨g, h1, h2.ext hb, h3⟩, trivial⟩
            · refine ⟨?_, ?_, ?_, ?_, ?_, ?_, ?_, ?_, ?_, ?_, ?_, ?_, ?_, ?_, ?_, ?_, ?_, ?_, ?_, ?_, ?_, ?_, ?_, trivial⟩
              · intro a x hG hd hs K hK
                have h4 : a.tmps.getD 4 undef = .pointer (some ⟨gv0, 0, none⟩) := hs 4 (by kernel_rfl)
                clear hd hs
                refine wpOp_plain rfl rfl ?_
                go_simp
                exact hK _ _ rfl hG (Below.refl _ _)
              · intro a x hG hd hs K hK
                have h36 : a.tmps.getD 36 undef = .pointer (some ⟨gv0, 3, none⟩) := hd 0 36 (by kernel_rfl)
                clear hd hs
                refine wpOp_plain rfl rfl ?_
                have hc : x.cell? ⟨gv0, 3, none⟩ = some v := (hG.cell (p := ⟨gv0, 3, none⟩) bv.lt).trans (bv.cell 3)
                go_simp
                exact hK _ _ rfl hG (Below.refl _ _)
              · intro a x hG hd hs K hK
                have h0 : a.tmps.getD 0 undef = .string ⟨l.toArray⟩ := hs 0 (by kernel_rfl)
                clear hd hs
                refine wpOp_plain rfl rfl ?_
                go_simp
                exact hK _ _ rfl hG (Below.refl _ _)
              · intro a x hG hd hs K hK
                have h7 : a.tmps.getD 7 undef = .int .i64 (16 + 8 * (k : Int)) := hs 7 (by kernel_rfl)
                clear hd hs
                refine wpOp_plain rfl rfl ?_
                go_simp
                exact hK _ _ rfl hG (Below.refl _ _)
              · intro a x hG hd hs K hK
                have h38 : a.tmps.getD 38 undef = .string ⟨l.toArray⟩ := hd 2 38 (by kernel_rfl)
                have h39 : a.tmps.getD 39 undef = .int .i64 (16 + 8 * (k : Int)) := hd 3 39 (by kernel_rfl)
                clear hd hs
                refine wpOp_plain rfl rfl ?_
                have hr := HRA.out
                go_simp
                exact hK _ _ rfl hG (Below.refl _ _)
              · intro a x hG hd hs K hK
                have h40 : a.tmps.getD 40 undef = .int .u8 (U0 : Int) := hd 4 40 (by kernel_rfl)
                clear hd hs
                refine wpOp_plain rfl rfl ?_
                have hwr : IntKind.i64.wrap (U0 : Int) = (U0 : Int) := IntWalk.i64_in _ (by omega)
                go_simp
                exact hK _ _ rfl hG (Below.refl _ _)
              · intro a x hG hd hs K hK
                have h0 : a.tmps.getD 0 undef = .string ⟨l.toArray⟩ := hs 0 (by kernel_rfl)
                clear hd hs
                refine wpOp_plain rfl rfl ?_
                go_simp
                exact hK _ _ rfl hG (Below.refl _ _)
              · intro a x hG hd hs K hK
                have h7 : a.tmps.getD 7 undef = .int .i64 (16 + 8 * (k : Int)) := hs 7 (by kernel_rfl)
                clear hd hs
                refine wpOp_plain rfl rfl ?_
                go_simp
                exact hK _ _ rfl hG (Below.refl _ _)
              · intro a x hG hd hs K hK
                have h43 : a.tmps.getD 43 undef = .int .i64 (16 + 8 * (k : Int)) := hd 7 43 (by kernel_rfl)
                clear hd hs
                refine wpOp_plain rfl rfl ?_
                have hwr : IntKind.i64.wrap (16 + 8 * (k : Int) + 1) = 16 + 8 * (k : Int) + 1 := IntWalk.i64_in _ (by omega)
                go_simp
                exact hK _ _ rfl hG (Below.refl _ _)
              · intro a x hG hd hs K hK
                have h42 : a.tmps.getD 42 undef = .string ⟨l.toArray⟩ := hd 6 42 (by kernel_rfl)
                have h44 : a.tmps.getD 44 undef = .int .i64 (16 + 8 * (k : Int) + 1) := hd 8 44 (by kernel_rfl)
                clear hd hs
                refine wpOp_plain rfl rfl ?_
                have hr := HRB.out
                go_simp
                exact hK _ _ rfl hG (Below.refl _ _)
              · intro a x hG hd hs K hK
                have h45 : a.tmps.getD 45 undef = .int .u8 (U1 : Int) := hd 9 45 (by kernel_rfl)
                clear hd hs
                refine wpOp_plain rfl rfl ?_
                have hwr : IntKind.i64.wrap (U1 : Int) = (U1 : Int) := IntWalk.i64_in _ (by omega)
                go_simp
                exact hK _ _ rfl hG (Below.refl _ _)
              · intro a x hG hd hs K hK
                have h0 : a.tmps.getD 0 undef = .string ⟨l.toArray⟩ := hs 0 (by kernel_rfl)
                clear hd hs
                refine wpOp_plain rfl rfl ?_
                go_simp
                exact hK _ _ rfl hG (Below.refl _ _)
              · intro a x hG hd hs K hK
                have h7 : a.tmps.getD 7 undef = .int .i64 (16 + 8 * (k : Int)) := hs 7 (by kernel_rfl)
                clear hd hs
                refine wpOp_plain rfl rfl ?_
                go_simp
                exact hK _ _ rfl hG (Below.refl _ _)
              · intro a x hG hd hs K hK
                have h48 : a.tmps.getD 48 undef = .int .i64 (16 + 8 * (k : Int)) := hd 12 48 (by kernel_rfl)
                clear hd hs
                refine wpOp_plain rfl rfl ?_
                have hwr : IntKind.i64.wrap (16 + 8 * (k : Int) + 2) = 16 + 8 * (k : Int) + 2 := IntWalk.i64_in _ (by omega)
                go_simp
                exact hK _ _ rfl hG (Below.refl _ _)
              · intro a x hG hd hs K hK
                have h47 : a.tmps.getD 47 undef = .string ⟨l.toArray⟩ := hd 11 47 (by kernel_rfl)
                have h49 : a.tmps.getD 49 undef = .int .i64 (16 + 8 * (k : Int) + 2) := hd 13 49 (by kernel_rfl)
                clear hd hs
                refine wpOp_plain rfl rfl ?_
                go_simp
                refine (HGC.out _).mono ?_
                rintro e w' ⟨rfl, rfl⟩
                exact hK _ _ rfl hG (Below.refl _ _)
              · intro a x hG hd hs K hK
                have h50 : a.tmps.getD 50 undef = .int .u64 (U2 : Int) := hd 14 50 (by kernel_rfl)
                clear hd hs
                refine wpOp_plain rfl rfl ?_
                have hwr : IntKind.i64.wrap (U2 : Int) = (U2 : Int) := IntWalk.i64_in _ (by omega)
                go_simp
                exact hK _ _ rfl hG (Below.refl _ _)
              · intro a x hG hd hs K hK
                have h0 : a.tmps.getD 0 undef = .string ⟨l.toArray⟩ := hs 0 (by kernel_rfl)
                clear hd hs
                refine wpOp_plain rfl rfl ?_
                go_simp
                exact hK _ _ rfl hG (Below.refl _ _)
              · intro a x hG hd hs K hK
                have h7 : a.tmps.getD 7 undef = .int .i64 (16 + 8 * (k : Int)) := hs 7 (by kernel_rfl)
                clear hd hs
                refine wpOp_plain rfl rfl ?_
                go_simp
                exact hK _ _ rfl hG (Below.refl _ _)
              · intro a x hG hd hs K hK
                have h53 : a.tmps.getD 53 undef = .int .i64 (16 + 8 * (k : Int)) := hd 17 53 (by kernel_rfl)
                clear hd hs
                refine wpOp_plain rfl rfl ?_
                have hwr : IntKind.i64.wrap (16 + 8 * (k : Int) + 4) = 16 + 8 * (k : Int) + 4 := IntWalk.i64_in _ (by omega)
                go_simp
                exact hK _ _ rfl hG (Below.refl _ _)
              · intro a x hG hd hs K hK
                have h52 : a.tmps.getD 52 undef = .string ⟨l.toArray⟩ := hd 16 52 (by kernel_rfl)
                have h54 : a.tmps.getD 54 undef = .int .i64 (16 + 8 * (k : Int) + 4) := hd 18 54 (by kernel_rfl)
                clear hd hs
                refine wpOp_plain rfl rfl ?_
                go_simp
                refine (HGD.out _).mono ?_
                rintro e w' ⟨rfl, rfl⟩
                exact hK _ _ rfl hG (Below.refl _ _)
              · intro a x hG hd hs K hK
                have h55 : a.tmps.getD 55 undef = .int .u64 (U3 : Int) := hd 19 55 (by kernel_rfl)
                clear hd hs
                refine wpOp_plain rfl rfl ?_
                have hwr : IntKind.u32.wrap (U3 : Int) = (U3 : Int) := IntWalk.u32_in _ (by omega)
                go_simp
                exact hK _ _ rfl hG (Below.refl _ _)
              · intro a x hG hd hs K hK
                have h41 : a.tmps.getD 41 undef = .int .i64 (U0 : Int) := hd 5 41 (by kernel_rfl)
                have h41o := getD_opt h41
                have h46 : a.tmps.getD 46 undef = .int .i64 (U1 : Int) := hd 10 46 (by kernel_rfl)
                have h46o := getD_opt h46
                have h51 : a.tmps.getD 51 undef = .int .i64 (U2 : Int) := hd 15 51 (by kernel_rfl)
                have h51o := getD_opt h51
                have h56 : a.tmps.getD 56 undef = .int .u32 (U3 : Int) := hd 20 56 (by kernel_rfl)
                have h56o := getD_opt h56
                clear hd hs
                refine wpOp_plain rfl rfl ?_
                go_simp
                exact hK _ _ rfl hG (Below.refl _ _)
              · intro a x hG hd hs K hK
                have h57 : a.tmps.getD 57 undef = .agg #[.int .i64 (U0 : Int), .int .i64 (U1 : Int), .int .i64 (U2 : Int), .int .u32 (U3 : Int)] := hd 21 57 (by kernel_rfl)
                have h57o := getD_opt h57
                clear hd hs
                refine wpOp_plain rfl rfl ?_
                go_simp
                exact hK _ _ ⟨x.heap.size, rfl, Blk.new x _ _, hG.size⟩ (hG.alloc hG.size _) ((Below.refl _ _).alloc (Nat.le_refl _) _)
            · intro x hG
              rintro _ rfl _ rfl _ rfl _ rfl _ rfl _ rfl _ rfl _ rfl _ rfl _ rfl _ rfl _ rfl _ rfl _ rfl _ rfl _ rfl _ rfl _ rfl _ rfl _ rfl _ rfl _ rfl v22 hv22
              simp only [Act.put, List.setIfInBounds_toArray, List.set_cons_zero, List.set_cons_succ, List.take_zero, REnd]
              rw [show List.range' 23 (26 - 23) = [23, 24, 25] from rfl, wpOps_cons]
              rename_i v
              obtain ⟨gn, rfl, kn, hgn⟩ := hv22
              have hown3 := own_ext hown hG
              have hr := kn.rds 0 1 1 4 (by show 0 + 1 * 4 ≤ 4; decide) (Nat.le_refl _) (by simp [maxLen])
              rw [List.drop_zero, List.take_of_length_le (show (4 : Nat) ≤ 1 * 4 by decide)] at hr
              obtain ⟨v', wa, hruna, howna, hgra, _⟩ := run_append_rds (P := Tryd.prog) (ty := 22) Tryd.underlying22 infoEnt rfl (by decide) hown3 hr (ecells_one _) (by rw [maxLen_eq]; omega) (by omega) (Nat.le_trans hbr.size hG.size)
              refine wpOp_plain rfl rfl ?_
              refine wp_append 37 58 22 rfl rfl rfl hruna ?_
              rw [wpOps_cons]
              refine wpOp_plain rfl rfl ?_
              have bx1 : Blk x gv0 24 (pcS (V1 : Int) (V2 : Int) eb v) := Blk.ext bv hG
              have ba1 := bx1.grown hgra (own_blk_ne hown3 bx1 (by decide))
              have bz1 := (Blk.ext hkz hG).grown hgra (own_blk_ne hown3 (Blk.ext hkz hG) (by decide))
              have cS : wa.cell? ⟨gv0, 3, none⟩ = some v := ba1.cell 3
              have fS := ba1.frozen 3
              obtain ⟨A', c', rfl⟩ := own_slice howna
              have hbl2 := ((hbr.trans (hG.mono hbr.size)).grown hgra (Nat.le_trans hbr.size hG.size) (fun g e => (hown3.lt g e).1)).setCell (p := ⟨gv0, 3, none⟩) hg6b (.slice A' (k + 1) c')
              have hfin := own_far howna ba1 (by decide) 3 (.slice A' (k + 1) c')
              have hbf := ba1.set_ 3 (.slice A' (k + 1) c')
              replace bz1 := bz1.far (p := ⟨gv0, 3, none⟩) hg6 (.slice A' (k + 1) c')
              rw [show ecells (Sm.entsOf (l.drop 16) k) ++ ecells [⟨(U0 : Int), (U1 : Int), (U2 : Int), U3⟩] = ecells (Sm.entsOf (l.drop 16) (k + 1)) by rw [Sm.entsOf_snoc, ecells_app, HEN.out]] at hfin
              have HF := Lib.hid hfin
              have HBF := Lib.hid hbf
              have HZ1 := Lib.hid bz1
              clear hruna howna hgra hown3 hown hfin hbf bz1 bx1 ba1 kn hr hG hG0 hkz bv
              simp only [Act.put]
              go_simp
              rw [wpOps_cons]
              refine wpOp_plain rfl rfl ?_
              go_simp
              unfold wpOps
              try simp only [Exit.then]
              clear cS fS
              obtain ⟨w3, hw3⟩ : ∃ w3, wa.setCell ⟨gv0, 3, none⟩ (.slice A' (k + 1) c') = w3 := ⟨_, rfl⟩
              rw [hw3] at HF HBF HZ1 hbl2 ⊢
              clear hw3
              go_wp2
              go_roundw
              case rel => exact ⟨k + 1, by omega, by go_num, ⟨_, HBF.out, HF.out⟩, HZ1.out, hbl2⟩
              case measure => simp [intOf]; omega
          · obtain rfl : k = V3 := by omega
            have hpl : Sm.Pt.mk (V1 : Int) (V2 : Int) eb (Sm.entsOf (l.drop 16) k) = Sm.smOf l := by rw [HO.out, HEB.out]
            have HPL := Lib.hid hpl
            have hEn : Ents wr wr.heap.size v (Sm.entsOf (l.drop 16) k) := Rds.of_own (n := (Sm.entsOf (l.drop 16) k).length) (by rw [Sm.entsOf_len]; exact hown)
            have HEn := Lib.hid hEn
            obtain ⟨Av, cv, rfl⟩ := own_slice hown
            have hgz := hkz.lt
            have hgv := bv.lt
            clear hpl hEn hlt
            have p0 : wr.cell? ⟨gv0, 0, none⟩ = some (.int .i64 (V1 : Int)) := bv.cell 0
            have p1 : wr.cell? ⟨gv0, 1, none⟩ = some (.int .i64 (V2 : Int)) := bv.cell 1
            have p2 : wr.cell? ⟨gv0, 2, none⟩ = some (.bool eb) := bv.cell 2
            have p3 : wr.cell? ⟨gv0, 3, none⟩ = some (.slice Av k cv) := bv.cell 3
            go_wp2_with fail
            refine (rmayS_any (V1 : Int) (V2 : Int) eb _ (Sm.entsOf (l.drop 16) k) wr HEn.out).mono ?_
            rintro e w5 ⟨rfl, b5⟩
            rw [HPL.out]
            replace bv := bv.ext b5
            replace hkz := hkz.ext b5
            replace hbr := hbr.trans (b5.mono hbr.size)
            have hown5 := own_ext hown b5
            have HEn5 := Lib.hid ((HEn.out.below b5).more b5.size)
            clear p0 p1 p2 p3 b5 hown HEn hgz hgv
            cases hmy : Sm.mayB (Sm.smOf l) with
            | false =>
              rw [hmy, if_neg (by simp)] at HE
              clear hmy
              have e0 := hkz.cell 0
              have e1 := hkz.cell 1
              have e2 := hkz.cell 2
              have e3 := hkz.cell 3
              have ef := hkz.frozen
              go_wp2
              have hz := (((hkz.set_ 0 (.int .i64 0)).set_ 1 (.int .i64 0)).set_ 2 (.bool false)).set_ 3 (.slice none 0 0)
              have bz := (((hbr.setCell (p := ⟨g2, 0, none⟩) hg1 (.int .i64 0)).setCell (p := ⟨g2, 1, none⟩) hg1 (.int .i64 0)).setCell (p := ⟨g2, 2, none⟩) hg1 (.bool false)).setCell (p := ⟨g2, 3, none⟩) hg1 (.slice none 0 0)
              refine bodyPost_ret (v := .tuple #[.agg #[.int .i64 0, .int .i64 0, .bool false, .slice none 0 0], .int .i64 3]) (res_cell2 [.int .i64 0, .int .i64 0, .bool false, .slice none 0 0] _ Tryd.results16 rfl hz.range Tryd.underlying24 rfl (by kernel_rfl) rfl) rfl ?_
              exact DecS.no HE.out (by decide) rfl bz
            | true =>
              have HMY := Lib.hid hmy
              rw [hmy] at HE
              simp only [true_and] at HE
              clear hmy
              have p0 : w5.cell? ⟨gv0, 0, none⟩ = some (.int .i64 (V1 : Int)) := bv.cell 0
              have p1 : w5.cell? ⟨gv0, 1, none⟩ = some (.int .i64 (V2 : Int)) := bv.cell 1
              have p2 : w5.cell? ⟨gv0, 2, none⟩ = some (.bool eb) := bv.cell 2
              have p3 : w5.cell? ⟨gv0, 3, none⟩ = some (.slice Av k cv) := bv.cell 3
              go_wp2_with fail
              refine (rencodeS_any ⟨(V1 : Int), (V2 : Int), eb, Sm.entsOf (l.drop 16) k⟩ _ w5 HEn5.out (by rw [HPL.out]; exact Sm.good_of l) (by rw [HPL.out]; exact HMY.out)).mono ?_
              rintro e w6 ⟨rfl, b6⟩
              rw [HPL.out]
              replace bv := bv.ext b6
              replace hkz := hkz.ext b6
              replace hbr := hbr.trans (b6.mono hbr.size)
              have hown6 := own_ext hown5 b6
              clear p0 p1 p2 p3 b6 hown5 HEn5
              have hse : ((⟨(Sm.smE (Sm.smOf l)).toArray⟩ : ByteArray).toList == (⟨l.toArray⟩ : ByteArray).toList) = (Sm.smE (Sm.smOf l) == l) := by rw [ByteArray.toList_eq, ByteArray.toList_eq]
              by_cases heq : Sm.smE (Sm.smOf l) = l
              rotate_left
              · skip
                rw [if_neg heq] at HE
                rw [show (Sm.smE (Sm.smOf l) == l) = false by rw [beq_eq_false_iff_ne]; exact heq] at hse
                clear heq
                generalize (⟨(Sm.smE (Sm.smOf l)).toArray⟩ : ByteArray) = S1 at *
                generalize (⟨l.toArray⟩ : ByteArray) = S2 at *
                have e0 := hkz.cell 0
                have e1 := hkz.cell 1
                have e2 := hkz.cell 2
                have e3 := hkz.cell 3
                have ef := hkz.frozen
                go_wp2
                have hz := (((hkz.set_ 0 (.int .i64 0)).set_ 1 (.int .i64 0)).set_ 2 (.bool false)).set_ 3 (.slice none 0 0)
                have bz := (((hbr.setCell (p := ⟨g2, 0, none⟩) hg1 (.int .i64 0)).setCell (p := ⟨g2, 1, none⟩) hg1 (.int .i64 0)).setCell (p := ⟨g2, 2, none⟩) hg1 (.bool false)).setCell (p := ⟨g2, 3, none⟩) hg1 (.slice none 0 0)
                refine bodyPost_ret (v := .tuple #[.agg #[.int .i64 0, .int .i64 0, .bool false, .slice none 0 0], .int .i64 3]) (res_cell2 [.int .i64 0, .int .i64 0, .bool false, .slice none 0 0] _ Tryd.results16 rfl hz.range Tryd.underlying24 rfl (by kernel_rfl) rfl) rfl ?_
                exact DecS.no HE.out (by decide) rfl bz
              · skip
                rw [if_pos heq] at HE
                rw [show (Sm.smE (Sm.smOf l) == l) = true by rw [heq]; simp] at hse
                clear heq
                generalize (⟨(Sm.smE (Sm.smOf l)).toArray⟩ : ByteArray) = S1 at *
                generalize (⟨l.toArray⟩ : ByteArray) = S2 at *
                have p0 : w6.cell? ⟨gv0, 0, none⟩ = some (.int .i64 (V1 : Int)) := bv.cell 0
                have p1 : w6.cell? ⟨gv0, 1, none⟩ = some (.int .i64 (V2 : Int)) := bv.cell 1
                have p2 : w6.cell? ⟨gv0, 2, none⟩ = some (.bool eb) := bv.cell 2
                have p3 : w6.cell? ⟨gv0, 3, none⟩ = some (.slice Av k cv) := bv.cell 3
                have e0 := hkz.cell 0
                have e1 := hkz.cell 1
                have e2 := hkz.cell 2
                have e3 := hkz.cell 3
                have ef := hkz.frozen
                go_wp2
                have y1 := hkz.set_ 0 (.int .i64 (V1 : Int))
                have y2 := y1.set_ 1 (.int .i64 (V2 : Int))
                have y3 := y2.set_ 2 (.bool eb)
                have y4 := y3.set_ 3 (.slice Av k cv)
                have zo := own_far (own_far (own_far (own_far hown6 hkz (by decide) 0 (.int .i64 (V1 : Int))) y1 (by decide) 1 (.int .i64 (V2 : Int))) y2 (by decide) 2 (.bool eb)) y3 (by decide) 3 (.slice Av k cv)
                have bz := (((hbr.setCell (p := ⟨g2, 0, none⟩) hg1 (.int .i64 (V1 : Int))).setCell (p := ⟨g2, 1, none⟩) hg1 (.int .i64 (V2 : Int))).setCell (p := ⟨g2, 2, none⟩) hg1 (.bool eb)).setCell (p := ⟨g2, 3, none⟩) hg1 (.slice Av k cv)
                have hfs : Ents _ _ (.slice Av k cv) (Sm.entsOf (l.drop 16) k) := Rds.of_own (n := (Sm.entsOf (l.drop 16) k).length) (by rw [Sm.entsOf_len]; exact zo)
                refine bodyPost_ret (v := .tuple #[.agg #[.int .i64 (V1 : Int), .int .i64 (V2 : Int), .bool eb, .slice Av k cv], .int .i64 0]) (res_cell2 [.int .i64 (V1 : Int), .int .i64 (V2 : Int), .bool eb, .slice Av k cv] _ Tryd.results16 rfl y4.range Tryd.underlying24 rfl (by kernel_rfl) rfl) rfl ?_
                exact DecS.yes HE.out (by rw [← HPL.out]) (by rw [← HPL.out]) (by rw [← HPL.out]) (by rw [← HPL.out]; exact hfs) bz
end Go.Proofs.YtieajlpkiheebaaDoor
