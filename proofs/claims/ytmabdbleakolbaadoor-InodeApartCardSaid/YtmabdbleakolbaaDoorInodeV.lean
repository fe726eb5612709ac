/-
  The walk of the document's answer of layer 7: Decode. By an AI agent.
-/
import Derived.Test.YtmabdbleakolbaaDoorInodeT
namespace Go.Proofs.YtmabdbleakolbaaDoor
open Go.RowKit Go.ChangeShapes Go.WideShapes Go.ChangeAt

theorem icells_turn6 {a : Act} {q q2 W : World} {d g g2 : Nat} {X0 : Nd.In} (hl : X0.ps.length = 9) (hd : (some 6 : Option Nat) = some d) (h1 : a.tmps.getD d undef = .pointer (some ⟨g, 0, none⟩)) (h2 : W.heap.size ≤ g) (h3 : Blk q g 27 (icells Nd.In.zero)) (e1 : a.tmps.getD 6 undef = .pointer (some ⟨g2, 0, none⟩)) (e2 : q2 = q.setCells g2 0 (icells X0)) :
    ∃ g, a.tmps.getD d undef = .pointer (some ⟨g, 0, none⟩) ∧ W.heap.size ≤ g ∧ Blk q2 g 27 (icells X0) := by
  injection hd with hd
  subst hd
  rw [h1] at e1
  injection e1 with e1
  injection e1 with e1
  injection e1 with e1
  subst e1
  refine ⟨g, h1, h2, ?_⟩
  have := h3.setCells (icells X0) 0 (by rw [icells_len _ hl, icells_len _ rfl]; omega)
  rw [spl_all _ _ (by rw [icells_len _ hl, icells_len _ rfl])] at this
  rw [e2]; exact this
theorem val_one (l : List UInt8) (j : Nat) (hj : j < l.length) : Pk.val ((l.drop j).take 1) = l[j].toNat := by
  rw [List.drop_eq_getElem_cons hj, List.take_succ_cons, List.take_zero]
  simp [Pk.val]
/-- s[j]. -/
theorem run_at (l : List UInt8) (j : Nat) (hj : j < l.length) (z : Int) (hz : z = j) (W : World) : (Instr.index 9 (.string ⟨l.toArray⟩) (.int .i64 z)).run Tryd.prog W = .ok (.int .u8 (Pk.val ((l.drop j).take 1) : Nat)) W := by
  subst hz
  rw [run_index_string W _ _ _ _ Tryd.underlying9]
  have h1 : ((j : Int) < ((⟨l.toArray⟩ : ByteArray).size : Int)) := by rw [ba_size]; omega
  rw [dif_pos ⟨Int.natCast_nonneg _, h1⟩, val_one l j hj]
  rfl
/-- What is behind the first five numbers is not yet read. -/
def head0 (l : List UInt8) : Nd.In := ⟨(Pk.val ((l.drop 5).take 1) : Nat), (Pk.val ((l.drop 6).take 1) : Nat), (Pk.val ((l.drop 7).take 4) : Nat), (Pk.val ((l.drop 11).take 6) : Nat), (Pk.val ((l.drop 17).take 4) : Nat), List.replicate 9 (0, 0)⟩
theorem head0_spl (l : List UInt8) : spl (icells (head0 l)) 5 (pcells (Nd.ptrsOf (l.drop 21) 9)) = icells (Nd.inOf l) :=
  icells_spl _ _ _ _ _ _ _ rfl (Nd.ptrsOf_len _ 9)
theorem dErr_not {i : Int} {l : List UInt8} (h : ¬ (1 ≤ i ∧ i ≤ 39)) : Nd.dErr i l = 1 := by
  unfold Nd.dErr Nd.inoB
  rw [decide_eq_false h]; rfl

set_option maxRecDepth 100000 in
set_option maxHeartbeats 4000000 in
theorem rdecode_any (i : Int) (w : World) (l : List UInt8) (hn : l.length ≤ 1000000) :
    Calls Tryd.prog 15 #[.int .i64 i, .string ⟨l.toArray⟩] w (DecR i l w) := by
  go_enter Tryd.func15, Tryd.ntmps15
  go_upto_region 1 with (fail)
  generalize hW : w.alloc (.cells _ 27) = W0
  have hk0 : Blk W0 w.heap.size 27 (icells Nd.In.zero) := by rw [← hW]; exact Blk.new w _ _
  have b0 : Below w.heap.size w W0 := by rw [← hW]; exact (Below.refl _ _).alloc (Nat.le_refl _) _
  clear hW
  obtain ⟨g0, hg0⟩ : ∃ g0, g0 = w.heap.size := ⟨_, rfl⟩
  rw [← hg0] at hk0 ⊢
  have hg1 : w.heap.size ≤ g0 := by omega
  have hg2 : g0 ≤ w.heap.size := by omega
  clear hg0
  by_cases hi1 : i < 1
  · have HE := Lib.hid (dErr_not (i := i) (l := l) (by omega))
    go_wp2_with (refine wpList_store_mid rfl 27 (.tmp 4) (.tmp 14) rfl g0 0 (icells Nd.In.zero).toArray rfl rfl (hk0.there 0 23 (by rw [icells_len _ rfl]; omega)) (by kernel_rfl) (all_oneCell_toArray icells_one) ?_)
    have hz := hk0.setCells (icells Nd.In.zero) 0 (by omega)
    rw [spl_all _ _ rfl] at hz
    have bz := below_setCells (o := 0) (vs := icells Nd.In.zero) b0 hg1
    refine bodyPost_ret (v := .tuple #[iagg Nd.In.zero, .int .i64 1]) (res_cell2 (icells Nd.In.zero) _ Tryd.results15 rfl hz.range Tryd.underlying27 rfl (infoI _ rfl) rfl) rfl ?_
    exact DecR.no HE.out (by decide) rfl bz
  by_cases hi2 : 39 < i
  · have HE := Lib.hid (dErr_not (i := i) (l := l) (by omega))
    go_wp2_with (refine wpList_store_mid rfl 27 (.tmp 4) (.tmp 14) rfl g0 0 (icells Nd.In.zero).toArray rfl rfl (hk0.there 0 23 (by rw [icells_len _ rfl]; omega)) (by kernel_rfl) (all_oneCell_toArray icells_one) ?_)
    have hz := hk0.setCells (icells Nd.In.zero) 0 (by omega)
    rw [spl_all _ _ rfl] at hz
    have bz := below_setCells (o := 0) (vs := icells Nd.In.zero) b0 hg1
    refine bodyPost_ret (v := .tuple #[iagg Nd.In.zero, .int .i64 1]) (res_cell2 (icells Nd.In.zero) _ Tryd.results15 rfl hz.range Tryd.underlying27 rfl (infoI _ rfl) rfl) rfl ?_
    exact DecR.no HE.out (by decide) rfl bz
  obtain ⟨n, rfl⟩ := Int.eq_ofNat_of_zero_le (show 0 ≤ i by omega)
  have HI := Lib.hid (show Nd.inoB (n : Int) = true by unfold Nd.inoB; rw [decide_eq_true_iff]; omega)
  have HD := Lib.hid (Nd.d_doc n l)
  rw [HI.out, if_pos rfl] at HD
  go_wp2_with fail
  refine (rheld_any _ l (by omega)).mono ?_
  rintro e w1 ⟨rfl, b1⟩
  have hk1 := hk0.ext b1
  have c1 := b0.trans (b1.mono b0.size)
  clear hk0 b1 b0
  cases hh : Crc.held l with
  | false =>
    rw [hh] at HD
    have HE := Lib.hid (show Nd.dErr n l = 5 from HD.out)
    clear hh HD
    go_wp2_with (refine wpList_store_mid rfl 27 (.tmp 4) (.tmp 18) rfl g0 0 (icells Nd.In.zero).toArray rfl rfl (hk1.there 0 23 (by rw [icells_len _ rfl]; omega)) (by kernel_rfl) (all_oneCell_toArray icells_one) ?_)
    have hz := hk1.setCells (icells Nd.In.zero) 0 (by omega)
    rw [spl_all _ _ rfl] at hz
    have bz := below_setCells (o := 0) (vs := icells Nd.In.zero) c1 hg1
    refine bodyPost_ret (v := .tuple #[iagg Nd.In.zero, .int .i64 5]) (res_cell2 (icells Nd.In.zero) _ Tryd.results15 rfl hz.range Tryd.underlying27 rfl (infoI _ rfl) rfl) rfl ?_
    exact DecR.no HE.out (by decide) rfl bz
  | true =>
    rw [hh, if_pos rfl] at HD
    have hlen := Cd.held_len hh
    have hl1 : 128 ≤ l.length := by omega
    have hl2 : l.length ≤ 128 := by omega
    clear hlen hh
    obtain ⟨X0, hX0⟩ : ∃ X0 : Nd.In, X0 = head0 l := ⟨_, rfl⟩
    have hX0l : X0.ps.length = 9 := by rw [hX0]; rfl
    have HSP := Lib.hid (show spl (icells X0) 5 (pcells (Nd.ptrsOf (l.drop 21) 9)) = icells (Nd.inOf l) by rw [hX0]; exact head0_spl l)
    have v2 : Pk.val ((l.drop 5).take 1) < 256 := Nd.val_lt_of _ 1
    have v3 : Pk.val ((l.drop 6).take 1) < 256 := Nd.val_lt_of _ 1
    have v4 : Pk.val ((l.drop 7).take 4) < 4294967296 := Nd.val_lt_of _ 4
    have v5 : Pk.val ((l.drop 11).take 6) < 281474976710656 := Nd.val_lt_of _ 6
    have v6 : Pk.val ((l.drop 17).take 4) < 4294967296 := Nd.val_lt_of _ 4
    have HR5 := Lib.hid (fun W => run_at l 5 (by omega) 5 rfl W)
    have HR6 := Lib.hid (fun W => run_at l 6 (by omega) 6 rfl W)
    have HG2 := Lib.hid (fun W => rget_eq W l 7 4 7 4 rfl rfl (by omega) (by omega) (by omega))
    have HG3 := Lib.hid (fun W => rget_eq W l 11 6 11 6 rfl rfl (by omega) (by omega) (by omega))
    have HG4 := Lib.hid (fun W => rget_eq W l 17 4 17 4 rfl rfl (by omega) (by omega) (by omega))
    unfold head0 at hX0
    generalize Pk.val ((l.drop 5).take 1) = V2 at *
    generalize Pk.val ((l.drop 6).take 1) = V3 at *
    generalize Pk.val ((l.drop 7).take 4) = V4 at *
    generalize Pk.val ((l.drop 11).take 6) = V5 at *
    generalize Pk.val ((l.drop 17).take 4) = V6 at *
    have HX0 := Lib.hid (show Value.agg (icells X0).toArray = Value.agg #[.int .i64 (V2 : Int), .int .i64 (V3 : Int), .int .i64 (V4 : Int), .int .i64 (V5 : Int), .int .i64 (V6 : Int), .int .i64 0, .int .u32 0, .int .i64 0, .int .u32 0, .int .i64 0, .int .u32 0, .int .i64 0, .int .u32 0, .int .i64 0, .int .u32 0, .int .i64 0, .int .u32 0, .int .i64 0, .int .u32 0, .int .i64 0, .int .u32 0, .int .i64 0, .int .u32 0] by rw [hX0]; rfl)
    have HXL := Lib.hid hX0l
    clear hX0
    generalize hSS : (⟨l.toArray⟩ : ByteArray) = SS at *
    have HSS := Lib.hid hSS
    clear hSS
    go_wp2_with fail
    have hG0 : Below w1.heap.size w1 w1.drew := (Below.refl _ _).drew
    refine wp_region_turn 18 17 [(fun y_ _ => y_ = .string SS),
      (fun y_ _ => y_ = .int .u8 (V2 : Int)),
      (fun y_ _ => y_ = .int .i64 (V2 : Int)),
      (fun y_ _ => y_ = .string SS),
      (fun y_ _ => y_ = .int .u8 (V3 : Int)),
      (fun y_ _ => y_ = .int .i64 (V3 : Int)),
      (fun y_ _ => y_ = .string SS),
      (fun y_ _ => y_ = .int .u64 (V4 : Int)),
      (fun y_ _ => y_ = .int .i64 (V4 : Int)),
      (fun y_ _ => y_ = .string SS),
      (fun y_ _ => y_ = .int .u64 (V5 : Int)),
      (fun y_ _ => y_ = .int .i64 (V5 : Int)),
      (fun y_ _ => y_ = .string SS),
      (fun y_ _ => y_ = .int .u64 (V6 : Int)),
      (fun y_ _ => y_ = .int .i64 (V6 : Int)),
      (fun y_ _ => y_ = .agg (icells X0).toArray),
      (fun u q => ∃ g, u = .pointer (some ⟨g, 0, none⟩) ∧ w1.heap.size ≤ g ∧ Blk q g 27 (icells Nd.In.zero)),
      (fun y_ _ => y_ = undef)]
      [(fun y_ _ => y_ = .string SS),
      (fun y_ _ => y_ = .int .u8 (V2 : Int)),
      (fun y_ _ => y_ = .int .i64 (V2 : Int)),
      (fun y_ _ => y_ = .string SS),
      (fun y_ _ => y_ = .int .u8 (V3 : Int)),
      (fun y_ _ => y_ = .int .i64 (V3 : Int)),
      (fun y_ _ => y_ = .string SS),
      (fun y_ _ => y_ = .int .u64 (V4 : Int)),
      (fun y_ _ => y_ = .int .i64 (V4 : Int)),
      (fun y_ _ => y_ = .string SS),
      (fun y_ _ => y_ = .int .u64 (V5 : Int)),
      (fun y_ _ => y_ = .int .i64 (V5 : Int)),
      (fun y_ _ => y_ = .string SS),
      (fun y_ _ => y_ = .int .u64 (V6 : Int)),
      (fun y_ _ => y_ = .int .i64 (V6 : Int)),
      (fun y_ _ => y_ = .agg (icells X0).toArray),
      (fun u q => ∃ g, u = .pointer (some ⟨g, 0, none⟩) ∧ w1.heap.size ≤ g ∧ Blk q g 27 (icells X0)),
      (fun y_ _ => y_ = undef)]
      (fun (_ : Bool) (x : World) => Below w1.heap.size w1 x) (fun a q q2 => ∃ g, a.tmps.getD 6 undef = .pointer (some ⟨g, 0, none⟩) ∧ q2 = q.setCells g 0 (icells X0)) (by kernel_rfl) rfl (by decide) (by kernel_rfl) (by kernel_rfl) ?_ ?_ ?_ ?_ ?_ ?_
    · exact hG0
    · exact ⟨stab_eq _, stab_eq _, stab_eq _, stab_eq _, stab_eq _, stab_eq _, stab_eq _, stab_eq _, stab_eq _, stab_eq _, stab_eq _, stab_eq _, stab_eq _, stab_eq _, stab_eq _, stab_eq _, fun _ _ _ ⟨g, h1, h2, h3⟩ hb => ⟨g, h1, h2, h3.ext hb⟩, stab_eq _, trivial⟩
    · exact ⟨stab_eq _, stab_eq _, stab_eq _, stab_eq _, stab_eq _, stab_eq _, stab_eq _, stab_eq _, stab_eq _, stab_eq _, stab_eq _, stab_eq _, stab_eq _, stab_eq _, stab_eq _, stab_eq _, fun _ _ _ ⟨g, h1, h2, h3⟩ hb => ⟨g, h1, h2, h3.ext hb⟩, stab_eq _, trivial⟩
    · exact ⟨(fun _ _ _ _ _ h _ => h), (fun _ _ _ _ _ h _ => h), (fun _ _ _ _ _ h _ => h), (fun _ _ _ _ _ h _ => h), (fun _ _ _ _ _ h _ => h), (fun _ _ _ _ _ h _ => h), (fun _ _ _ _ _ h _ => h), (fun _ _ _ _ _ h _ => h), (fun _ _ _ _ _ h _ => h), (fun _ _ _ _ _ h _ => h), (fun _ _ _ _ _ h _ => h), (fun _ _ _ _ _ h _ => h), (fun _ _ _ _ _ h _ => h), (fun _ _ _ _ _ h _ => h), (fun _ _ _ _ _ h _ => h), (fun _ _ _ _ _ h _ => h), (fun d hd a q q2 ⟨g, h1, h2, h3⟩ ⟨g2, e1, e2⟩ => icells_turn6 hX0l hd h1 h2 h3 e1 e2), trivial⟩
    · refine ⟨?_, ?_, ?_, ?_, ?_, ?_, ?_, ?_, ?_, ?_, ?_, ?_, ?_, ?_, ?_, ?_, ?_, ?_, trivial⟩
      · intro a x hG hd hs K hK
        replace hG : (fun (_ : Bool) (x : World) => Below w1.heap.size w1 x) false x := hG
        have h1 : a.tmps.getD 1 undef = .string SS := hs 1 (by kernel_rfl)
        clear hd hs
        refine wpOp_plain rfl rfl ?_
        go_simp
        exact hK _ _ rfl hG (Below.refl _ _)
      · intro a x hG hd hs K hK
        replace hG : (fun (_ : Bool) (x : World) => Below w1.heap.size w1 x) false x := hG
        have h19 : a.tmps.getD 19 undef = .string SS := hd 0 19 (by kernel_rfl)
        clear hd hs
        refine wpOp_plain rfl rfl ?_
        have hr := HR5.out
        go_simp
        exact hK _ _ rfl hG (Below.refl _ _)
      · intro a x hG hd hs K hK
        replace hG : (fun (_ : Bool) (x : World) => Below w1.heap.size w1 x) false x := hG
        have h20 : a.tmps.getD 20 undef = .int .u8 (V2 : Int) := hd 1 20 (by kernel_rfl)
        clear hd hs
        refine wpOp_plain rfl rfl ?_
        have hwr : IntKind.i64.wrap (V2 : Int) = (V2 : Int) := IntWalk.i64_in _ (by omega)
        go_simp
        exact hK _ _ rfl hG (Below.refl _ _)
      · intro a x hG hd hs K hK
        replace hG : (fun (_ : Bool) (x : World) => Below w1.heap.size w1 x) false x := hG
        have h1 : a.tmps.getD 1 undef = .string SS := hs 1 (by kernel_rfl)
        clear hd hs
        refine wpOp_plain rfl rfl ?_
        go_simp
        exact hK _ _ rfl hG (Below.refl _ _)
      · intro a x hG hd hs K hK
        replace hG : (fun (_ : Bool) (x : World) => Below w1.heap.size w1 x) false x := hG
        have h22 : a.tmps.getD 22 undef = .string SS := hd 3 22 (by kernel_rfl)
        clear hd hs
        refine wpOp_plain rfl rfl ?_
        have hr := HR6.out
        go_simp
        exact hK _ _ rfl hG (Below.refl _ _)
      · intro a x hG hd hs K hK
        replace hG : (fun (_ : Bool) (x : World) => Below w1.heap.size w1 x) false x := hG
        have h23 : a.tmps.getD 23 undef = .int .u8 (V3 : Int) := hd 4 23 (by kernel_rfl)
        clear hd hs
        refine wpOp_plain rfl rfl ?_
        have hwr : IntKind.i64.wrap (V3 : Int) = (V3 : Int) := IntWalk.i64_in _ (by omega)
        go_simp
        exact hK _ _ rfl hG (Below.refl _ _)
      · intro a x hG hd hs K hK
        replace hG : (fun (_ : Bool) (x : World) => Below w1.heap.size w1 x) false x := hG
        have h1 : a.tmps.getD 1 undef = .string SS := hs 1 (by kernel_rfl)
        clear hd hs
        refine wpOp_plain rfl rfl ?_
        go_simp
        exact hK _ _ rfl hG (Below.refl _ _)
      · intro a x hG hd hs K hK
        replace hG : (fun (_ : Bool) (x : World) => Below w1.heap.size w1 x) false x := hG
        have h25 : a.tmps.getD 25 undef = .string SS := hd 6 25 (by kernel_rfl)
        clear hd hs
        refine wpOp_plain rfl rfl ?_
        go_simp
        refine (HG2.out _).mono ?_
        rintro e w' ⟨rfl, rfl⟩
        exact hK _ _ rfl hG (Below.refl _ _)
      · intro a x hG hd hs K hK
        replace hG : (fun (_ : Bool) (x : World) => Below w1.heap.size w1 x) false x := hG
        have h26 : a.tmps.getD 26 undef = .int .u64 (V4 : Int) := hd 7 26 (by kernel_rfl)
        clear hd hs
        refine wpOp_plain rfl rfl ?_
        have hwr : IntKind.i64.wrap (V4 : Int) = (V4 : Int) := IntWalk.i64_in _ (by omega)
        go_simp
        exact hK _ _ rfl hG (Below.refl _ _)
      · intro a x hG hd hs K hK
        replace hG : (fun (_ : Bool) (x : World) => Below w1.heap.size w1 x) false x := hG
        have h1 : a.tmps.getD 1 undef = .string SS := hs 1 (by kernel_rfl)
        clear hd hs
        refine wpOp_plain rfl rfl ?_
        go_simp
        exact hK _ _ rfl hG (Below.refl _ _)
      · intro a x hG hd hs K hK
        replace hG : (fun (_ : Bool) (x : World) => Below w1.heap.size w1 x) false x := hG
        have h28 : a.tmps.getD 28 undef = .string SS := hd 9 28 (by kernel_rfl)
        clear hd hs
        refine wpOp_plain rfl rfl ?_
        go_simp
        refine (HG3.out _).mono ?_
        rintro e w' ⟨rfl, rfl⟩
        exact hK _ _ rfl hG (Below.refl _ _)
      · intro a x hG hd hs K hK
        replace hG : (fun (_ : Bool) (x : World) => Below w1.heap.size w1 x) false x := hG
        have h29 : a.tmps.getD 29 undef = .int .u64 (V5 : Int) := hd 10 29 (by kernel_rfl)
        clear hd hs
        refine wpOp_plain rfl rfl ?_
        have hwr : IntKind.i64.wrap (V5 : Int) = (V5 : Int) := IntWalk.i64_in _ (by omega)
        go_simp
        exact hK _ _ rfl hG (Below.refl _ _)
      · intro a x hG hd hs K hK
        replace hG : (fun (_ : Bool) (x : World) => Below w1.heap.size w1 x) false x := hG
        have h1 : a.tmps.getD 1 undef = .string SS := hs 1 (by kernel_rfl)
        clear hd hs
        refine wpOp_plain rfl rfl ?_
        go_simp
        exact hK _ _ rfl hG (Below.refl _ _)
      · intro a x hG hd hs K hK
        replace hG : (fun (_ : Bool) (x : World) => Below w1.heap.size w1 x) false x := hG
        have h31 : a.tmps.getD 31 undef = .string SS := hd 12 31 (by kernel_rfl)
        clear hd hs
        refine wpOp_plain rfl rfl ?_
        go_simp
        refine (HG4.out _).mono ?_
        rintro e w' ⟨rfl, rfl⟩
        exact hK _ _ rfl hG (Below.refl _ _)
      · intro a x hG hd hs K hK
        replace hG : (fun (_ : Bool) (x : World) => Below w1.heap.size w1 x) false x := hG
        have h32 : a.tmps.getD 32 undef = .int .u64 (V6 : Int) := hd 13 32 (by kernel_rfl)
        clear hd hs
        refine wpOp_plain rfl rfl ?_
        have hwr : IntKind.i64.wrap (V6 : Int) = (V6 : Int) := IntWalk.i64_in _ (by omega)
        go_simp
        exact hK _ _ rfl hG (Below.refl _ _)
      · intro a x hG hd hs K hK
        replace hG : (fun (_ : Bool) (x : World) => Below w1.heap.size w1 x) false x := hG
        have h21 : a.tmps.getD 21 undef = .int .i64 (V2 : Int) := hd 2 21 (by kernel_rfl)
        have h21o := getD_opt h21
        have h24 : a.tmps.getD 24 undef = .int .i64 (V3 : Int) := hd 5 24 (by kernel_rfl)
        have h24o := getD_opt h24
        have h27 : a.tmps.getD 27 undef = .int .i64 (V4 : Int) := hd 8 27 (by kernel_rfl)
        have h27o := getD_opt h27
        have h30 : a.tmps.getD 30 undef = .int .i64 (V5 : Int) := hd 11 30 (by kernel_rfl)
        have h30o := getD_opt h30
        have h33 : a.tmps.getD 33 undef = .int .i64 (V6 : Int) := hd 14 33 (by kernel_rfl)
        have h33o := getD_opt h33
        clear hd hs
        refine wpOp_plain rfl rfl ?_
        go_simp
        rw [← HX0.out]
        exact hK _ _ rfl hG (Below.refl _ _)
      · intro a x hG hd hs K hK
        replace hG : (fun (_ : Bool) (x : World) => Below w1.heap.size w1 x) false x := hG
        clear hd hs
        refine wpOp_plain rfl rfl ?_
        go_simp
        exact hK _ _ ⟨x.heap.size, rfl, hG.size, Blk.new x _ _⟩ (hG.alloc hG.size _) ((Below.refl _ _).alloc (Nat.le_refl _) _)
      · intro a x hG hd hs K hK
        replace hG : (fun (_ : Bool) (x : World) => Below w1.heap.size w1 x) false x := hG
        have h6 : (fun u q => ∃ g, u = .pointer (some ⟨g, 0, none⟩) ∧ w1.heap.size ≤ g ∧ Blk q g 27 (icells Nd.In.zero)) (a.tmps.getD 6 undef) x := hd 16 6 (by kernel_rfl)
        have h34 : a.tmps.getD 34 undef = .agg (icells X0).toArray := hd 15 34 (by kernel_rfl)
        clear hd hs
        refine wpOp_plain rfl rfl ?_
        obtain ⟨g, h1, h2, h3⟩ := h6
        refine wp_store_mid 27 (.tmp 6) (.tmp 34) rfl g 0 (icells X0).toArray h1 h34 (h3.there 0 _ ?_) ?_ (all_oneCell_toArray icells_one) ?_
        · rw [icells_len _ rfl]; simp [icells_len _ hX0l]
        · exact infoI X0 hX0l
        · exact hK _ _ rfl (below_setCells hG h2 0 _) ⟨g, h1, by simp⟩
    · intro x hG
      rintro _ rfl _ rfl _ rfl _ rfl _ rfl _ rfl _ rfl _ rfl _ rfl _ rfl _ rfl _ rfl _ rfl _ rfl _ rfl _ rfl v16 hv16
      simp only [Act.put, List.setIfInBounds_toArray, List.set_cons_zero, List.set_cons_succ, REnd]
      try simp only [Exit.then]
      obtain ⟨g8, rfl, hg8, hk8⟩ := hv16
      obtain ⟨W3, rfl⟩ : ∃ W3, W3 = x := ⟨x, rfl⟩
      have hkz := hk1.ext hG
      have hg0lt := hk1.lt
      have c3 := c1.trans (hG.mono c1.size)
      have hsz1 := c1.size
      have hg81 : w.heap.size ≤ g8 := by omega
      have hne : g0 < g8 := by omega
      have HOL := Lib.hid (show (Nd.inOf l).ps.length = 9 from Nd.ptrsOf_len _ 9)
      have HOL2 := Lib.hid (show 0 + (icells (Nd.inOf l)).toArray.size ≤ (icells Nd.In.zero).length by rw [List.size_toArray, icells_len _ HOL.out, icells_len _ rfl]; omega)
      have HGG := Lib.hid (show Nd.Good (Nd.inOf l) from Nd.good_of l)
      clear hk1 HX0 hX0l hG c1 v2 v3 v4 v5 v6 HR5 HR6 HG2 HG3 HG4
      go_wp2
      go_loopw [7] (fun i wr => ∃ k : Nat, k ≤ 9 ∧ i = .int .i64 k ∧ Blk wr g8 27 (spl (icells X0) 5 (pcells (Nd.ptrsOf (l.drop 21) k))) ∧ Blk wr g0 27 (icells Nd.In.zero) ∧ Below w.heap.size w wr) (fun i _ => 9 - (intOf i).toNat)
      case atStart => exact ⟨0, by omega, rfl, by rw [show Nd.ptrsOf (l.drop 21) 0 = [] from rfl, show pcells [] = [] from rfl, spl_nil]; exact hk8, hkz, c3⟩
      case round =>
        obtain ⟨k, hk, rfl, hkb, hkr, hbw⟩ := hrel
        clear hk8 hkz c3
        by_cases hlt : k < 9
        · have HP := Lib.hid (show Nd.ptrAt (l.drop 21) k = (((Pk.val ((l.drop (21 + 8 * k)).take 4) : Nat) : Int), Pk.val ((l.drop (25 + 8 * k)).take 4)) by
            unfold Nd.ptrAt
            rw [List.drop_drop, List.drop_drop, show 21 + (8 * k + 4) = 25 + 8 * k by omega])
          have hV0 : Pk.val ((l.drop (21 + 8 * k)).take 4) < 4294967296 := Nd.val_lt_of _ 4
          have hV1 : Pk.val ((l.drop (25 + 8 * k)).take 4) < 4294967296 := Nd.val_lt_of _ 4
          have HG0 := Lib.hid (fun W z hz => rget_eq W l (21 + 8 * k) 4 z 4 hz rfl (by omega) (by omega) (by omega))
          have HG1 := Lib.hid (fun W z hz => rget_eq W l (25 + 8 * k) 4 z 4 hz rfl (by omega) (by omega) (by omega))
          rw [HSS.out] at HG0 HG1
          generalize Pk.val ((l.drop (21 + 8 * k)).take 4) = V0 at *
          generalize Pk.val ((l.drop (25 + 8 * k)).take 4) = V1 at *
          have i1 : (k : Int) < 9 := by omega
          go_wp2_with fail
          refine (HG0.out _ _ (by omega)).mono ?_
          rintro e w' ⟨rfl, rfl⟩
          go_wp2_with fail
          refine (HG1.out _ _ (by omega)).mono ?_
          rintro e w' ⟨rfl, rfl⟩
          clear HG0 HG1
          have hth : wr.there g8 (5 + k * 2) 2 := hkb.there _ 2 (by rw [spl_len _ _ _ (by rw [pcells_len, Nd.ptrsOf_len, icells_len _ HXL.out]; omega), icells_len _ HXL.out]; omega)
          go_wp2_with (refine wpList_store_mid rfl 24 (.tmp 54) (.tmp 52) rfl g8 (5 + k * 2) #[.int .i64 (V0 : Int), .int .u32 (V1 : Int)] rfl rfl hth (by kernel_rfl) (by simp [Value.oneCell']) ?_)
          have hkb2 := hkb.ptr_set (by rw [icells_len _ HXL.out]; omega) V0 V1 HP.out
          have hkr2 := hkr.grown (grown_setCells [.int .i64 (V0 : Int), .int .u32 (V1 : Int)] wr (g := g8) (5 + k * 2)) (fun e => by injection e with e; omega)
          have hb2 := below_setCells hbw hg81 (5 + k * 2) [.int .i64 (V0 : Int), .int .u32 (V1 : Int)]
          go_roundw
          case rel => exact ⟨k + 1, by omega, by go_num, hkb2, hkr2, hb2⟩
          case measure => simp [intOf]; omega
        · obtain rfl : k = 9 := by omega
          rw [HSP.out] at hkb
          have hrg := hkb.range
          have hin := infoI (Nd.inOf l) HOL.out
          go_wp2_with (refine wpList_load_at 27 (.tmp 6) rfl rfl g8 0 rfl (icells (Nd.inOf l)) _ hrg Tryd.underlying27 rfl hin ?_)
          refine (rmay_any (Nd.inOf l) _ HOL.out).mono ?_
          rintro e w4 ⟨rfl, b4⟩
          have hkb4 := hkb.ext b4
          have hkr4 := hkr.ext b4
          have c4 := hbw.trans (b4.mono hbw.size)
          clear hkb hkr hbw b4 hrg
          cases hm : Nd.mayB (Nd.inOf l) with
          | false =>
            rw [hm] at HD
            have HE := Lib.hid (show Nd.dErr n l = 3 by have := HD.out; simpa using this)
            clear hm HD
            go_wp2_with (refine wpList_store_mid rfl 27 (.tmp 4) (.tmp 65) rfl g0 0 (icells Nd.In.zero).toArray rfl rfl (hkr4.there 0 23 (by rw [icells_len _ rfl]; omega)) (by kernel_rfl) (all_oneCell_toArray icells_one) ?_)
            have hz := hkr4.setCells (icells Nd.In.zero) 0 (by omega)
            rw [spl_all _ _ rfl] at hz
            have bz := below_setCells (o := 0) (vs := icells Nd.In.zero) c4 hg1
            refine bodyPost_ret (v := .tuple #[iagg Nd.In.zero, .int .i64 3]) (res_cell2 (icells Nd.In.zero) _ Tryd.results15 rfl hz.range Tryd.underlying27 rfl (infoI _ rfl) rfl) rfl ?_
            exact DecR.no HE.out (by decide) rfl bz
          | true =>
            rw [hm] at HD
            simp only [true_and] at HD
            have HM := Lib.hid hm
            clear hm
            have hrg := hkb4.range
            go_wp2_with (refine wpList_load_at 27 (.tmp 6) rfl rfl g8 0 rfl (icells (Nd.inOf l)) _ hrg Tryd.underlying27 rfl hin ?_)
            refine (rencode_any n (Nd.inOf l) _ HGG.out HI.out HM.out).mono ?_
            rintro e w5 ⟨rfl, b5⟩
            have hkb5 := hkb4.ext b5
            have hkr5 := hkr4.ext b5
            have c5 := c4.trans (b5.mono c4.size)
            have hse : ((⟨(Nd.inE n (Nd.inOf l)).toArray⟩ : ByteArray).toList == SS.toList) = (Nd.inE n (Nd.inOf l) == l) := by rw [← HSS.out, ByteArray.toList_eq, ByteArray.toList_eq]
            clear hkb4 hkr4 c4 b5 hrg
            by_cases he : Nd.inE n (Nd.inOf l) = l
            · rw [show (Nd.inE n (Nd.inOf l) == l) = true by rw [he]; simp] at hse
              rw [if_pos he] at HD
              clear he
              generalize (⟨(Nd.inE n (Nd.inOf l)).toArray⟩ : ByteArray) = S1 at *
              go_wp2_with (first | refine wpList_load_at 27 (.tmp 6) rfl rfl g8 0 rfl (icells (Nd.inOf l)) _ hkb5.range Tryd.underlying27 rfl (infoI _ HOL.out) ?_ | refine wpList_store_mid rfl 27 (.tmp 4) (.tmp 66) rfl g0 0 (icells (Nd.inOf l)).toArray rfl rfl (hkr5.there 0 _ HOL2.out) (infoI _ HOL.out) (all_oneCell_toArray icells_one) ?_)
              have hz := hkr5.setCells (icells (Nd.inOf l)) 0 (by rw [icells_len _ HOL.out, icells_len _ rfl]; omega)
              rw [spl_all _ _ (by rw [icells_len _ HOL.out, icells_len _ rfl])] at hz
              have bz := below_setCells (o := 0) (vs := icells (Nd.inOf l)) c5 hg1
              refine bodyPost_ret (v := .tuple #[iagg (Nd.inOf l), .int .i64 0]) (res_cell2 (icells (Nd.inOf l)) _ Tryd.results15 rfl hz.range Tryd.underlying27 rfl (infoI _ HOL.out) rfl) rfl ?_
              exact DecR.yes HD.out bz
            · rw [show (Nd.inE n (Nd.inOf l) == l) = false by rw [beq_eq_false_iff_ne]; exact he] at hse
              rw [if_neg he] at HD
              clear he
              generalize (⟨(Nd.inE n (Nd.inOf l)).toArray⟩ : ByteArray) = S1 at *
              go_wp2_with (refine wpList_store_mid rfl 27 (.tmp 4) (.tmp 65) rfl g0 0 (icells Nd.In.zero).toArray rfl rfl (hkr5.there 0 23 (by rw [icells_len _ rfl]; omega)) (by kernel_rfl) (all_oneCell_toArray icells_one) ?_)
              have hz := hkr5.setCells (icells Nd.In.zero) 0 (by omega)
              rw [spl_all _ _ rfl] at hz
              have bz := below_setCells (o := 0) (vs := icells Nd.In.zero) c5 hg1
              refine bodyPost_ret (v := .tuple #[iagg Nd.In.zero, .int .i64 3]) (res_cell2 (icells Nd.In.zero) _ Tryd.results15 rfl hz.range Tryd.underlying27 rfl (infoI _ rfl) rfl) rfl ?_
              exact DecR.no HD.out (by decide) rfl bz
end Go.Proofs.YtmabdbleakolbaaDoor
