/-
  Encode of package summary. By an AI agent.
-/
import Derived.Test.YtieajlpkiheebaaDoorSumW
import Derived.IntWalk
namespace Go.Proofs.YtieajlpkiheebaaDoor
open Go.RowKit

attribute [local go_sem] Oper.semAt_some

set_option maxRecDepth 100000 in
set_option maxHeartbeats 4000000 in
theorem encodeS_true (s n : Int) (vl : Value) (l : List Sm.En) (w : World) (P : Sm.Pt) (hP : P = ⟨s, n, true, l⟩) (hl : Ents w w.heap.size vl l) (hg : Sm.Good P) (hm : Sm.mayB P = true) (hH : Halves w) :
    CallsIn Fence.wide 9 Tryd.prog 9 #[.agg #[.int .i64 s, .int .i64 n, .bool true, vl]] w (MadeS (Sm.smE P) w) := by
  obtain ⟨A, c, rfl, hlc, hcm, hE⟩ := hl.open_
  have HC := Lib.hid (Sm.sm_chk P hm hg)
  rw [zip_sm] at HC
  have HE := Lib.hid (show Sm.smE P = Crc.sealed (Pk.recs (hS P ++ pS P.l)) by rw [← zip_sm]; rfl)
  have HL := Lib.hid (Sm.smE_len P)
  rw [zip_sm] at HL
  obtain ⟨⟨m1, m2, m3, m4, m5, m6⟩, hall⟩ := Sm.may_parts hm
  subst hP
  simp only at m1 m2 m3 m4 m5 m6 hall
  obtain ⟨sn, rfl⟩ := Int.eq_ofNat_of_zero_le (by omega : 0 ≤ s)
  obtain ⟨nn, rfl⟩ := Int.eq_ofNat_of_zero_le m3
  obtain ⟨P, hP⟩ : ∃ P : Sm.Pt, P = ⟨sn, nn, true, l⟩ := ⟨_, rfl⟩
  rw [← hP] at HC HE HL
  have HP := Lib.hid hP
  have HNE := Lib.hid (show ncells (hS P) = [.int .i64 4, .int .u64 1752397165, .int .i64 6, .int .u64 (sn : Int), .int .i64 4, .int .u64 (nn : Int), .int .i64 1, .int .u64 (l.length : Int), .int .i64 1, .int .u64 1] by
    subst hP
    unfold ncells hS
    rfl)
  clear hP
  refine callsIn_of_wp_marks Tryd.func9 rfl trivial ?_ rfl
  simp only [Tryd.ntmps9, List.size_toArray, List.length_cons, List.length_nil, Nat.reduceAdd, Nat.reduceSub, Array.replicate_succ, Array.replicate_zero, List.push_toArray, List.append_toArray, List.nil_append, List.cons_append]
  have k1 := Blk.new w 24 #[.int .i64 (sn : Int), .int .i64 (nn : Int), .bool true, .slice A l.length c]
  have hb0 := (Below.refl w.heap.size w).alloc (Nat.le_refl _) (.cells #[.int .i64 (sn : Int), .int .i64 (nn : Int), .bool true, .slice A l.length c] 24)
  gi_upto_region 1 with fail
  obtain ⟨w0, hw0⟩ : ∃ w0, w.alloc (.cells #[.int .i64 (sn : Int), .int .i64 (nn : Int), .bool true, .slice A l.length c] 24) = w0 := ⟨_, rfl⟩
  rw [hw0] at k1 hb0 ⊢
  clear hw0
  obtain ⟨gq, hgq⟩ : ∃ gq, w.heap.size = gq := ⟨_, rfl⟩
  rw [hgq] at k1 ⊢
  clear hgq
  have c0 := k1.cell 0
  have c1 := k1.cell 1
  have c2 := k1.cell 2
  have c3 := k1.cell 3
  have hl0 : Ents w0 w0.heap.size (.slice A l.length c) l := (hl.below hb0).more hb0.size
  gi_wp2_with fail
  refine ⟨trivial, ?_⟩
  refine (callsIn_wide.2 (mayS_any sn nn true _ l w0 hl0)).mono ?_
  rintro e9 w1 ⟨rfl, hb1⟩
  rw [hm]
  replace k1 := k1.ext hb1
  have hw1 := hb0.trans (hb1.mono hb0.size)
  have hl1 := (hl0.below hb1).more hb1.size
  clear c0 c1 c2 c3 hl0 hb1 hb0
  have c0 := k1.cell 0
  have c1 := k1.cell 1
  have c2 := k1.cell 2
  have c3 := k1.cell 3
  gi_upto_region 6 with fail
  clear c0 c1 c2 c3
  refine wpIn_wide.2 ?_
  have hG0 : Below w1.heap.size w1 w1.drew := (Below.refl _ _).drew
  refine wp_region_then 16 15 [(fun y_ _ => y_ = .agg #[.int .i64 4, .int .u64 ((1752397165 : Nat) : Int)]),
    (fun y_ _ => y_ = .pointer (some ⟨gq, 0, none⟩)),
    (fun y_ _ => y_ = .int .i64 ((sn : Nat) : Int)),
    (fun y_ _ => y_ = .agg #[.int .i64 6, .int .u64 ((sn : Nat) : Int)]),
    (fun y_ _ => y_ = .pointer (some ⟨gq, 1, none⟩)),
    (fun y_ _ => y_ = .int .i64 ((nn : Nat) : Int)),
    (fun y_ _ => y_ = .agg #[.int .i64 4, .int .u64 ((nn : Nat) : Int)]),
    (fun y_ _ => y_ = .pointer (some ⟨gq, 3, none⟩)),
    (fun y_ _ => y_ = .slice A l.length c),
    (fun y_ _ => y_ = .int .i64 ((l.length : Nat) : Int)),
    (fun y_ _ => y_ = .agg #[.int .i64 1, .int .u64 ((l.length : Nat) : Int)]),
    (fun y_ _ => y_ = .int .i64 1),
    (fun y_ _ => y_ = .agg #[.int .i64 1, .int .u64 ((1 : Nat) : Int)]),
    (fun u q => ∃ g, u = .slice (some ⟨g, 0, none⟩) 5 5 ∧ Blk q g 55 (ncells (hS P)) ∧ w1.heap.size ≤ g),
    (fun u q => ∃ g, u = .pointer (some ⟨g, 0, none⟩) ∧ Blk q g 57 [.slice none 0 0] ∧ w1.heap.size ≤ g)]
    (fun q => Below w1.heap.size w1 q) (by kernel_rfl) rfl (by decide) (by kernel_rfl) (by kernel_rfl) ?_ ?_ ?_ ?_
  · exact hG0
  · exact ⟨stab_eq _, stab_eq _, stab_eq _, stab_eq _, stab_eq _, stab_eq _, stab_eq _, stab_eq _, stab_eq _, stab_eq _, stab_eq _, stab_eq _, stab_eq _, fun _ _ _ ⟨g, h1, h2, h3⟩ hb => ⟨g, h1, h2.ext hb, h3⟩, fun _ _ _ ⟨g, h1, h2, h3⟩ hb => ⟨g, h1, h2.ext hb, h3⟩, trivial⟩
  · refine ⟨?_, ?_, ?_, ?_, ?_, ?_, ?_, ?_, ?_, ?_, ?_, ?_, ?_, ?_, ?_, trivial⟩
    · intro a x hG hd hs K hK
      clear hd hs
      refine wpOp_plain rfl rfl ?_
      go_simp
      refine (numS_eq 4 _ 1752397165 (by omega) _ (by omega)).mono ?_
      rintro e w' ⟨rfl, hb⟩
      exact hK _ _ rfl (hG.trans (hb.mono hG.size)) hb
    · intro a x hG hd hs K hK
      have h1 : a.tmps.getD 1 undef = .pointer (some ⟨gq, 0, none⟩) := hs 1 (by kernel_rfl)
      clear hd hs
      refine wpOp_plain rfl rfl ?_
      go_simp
      exact hK _ _ rfl hG (Below.refl _ _)
    · intro a x hG hd hs K hK
      have h16 : a.tmps.getD 16 undef = .pointer (some ⟨gq, 0, none⟩) := hd 1 16 (by kernel_rfl)
      clear hd hs
      refine wpOp_plain rfl rfl ?_
      have hc : x.cell? ⟨gq, 0, none⟩ = some (.int .i64 ((sn : Nat) : Int)) := (hG.cell (p := ⟨gq, 0, none⟩) k1.lt).trans (k1.cell 0)
      go_simp
      exact hK _ _ rfl hG (Below.refl _ _)
    · intro a x hG hd hs K hK
      have h17 : a.tmps.getD 17 undef = .int .i64 ((sn : Nat) : Int) := hd 2 17 (by kernel_rfl)
      clear hd hs
      refine wpOp_plain rfl rfl ?_
      go_simp
      refine (numS_eq 6 _ sn (by omega) _ (by omega)).mono ?_
      rintro e w' ⟨rfl, hb⟩
      exact hK _ _ rfl (hG.trans (hb.mono hG.size)) hb
    · intro a x hG hd hs K hK
      have h1 : a.tmps.getD 1 undef = .pointer (some ⟨gq, 0, none⟩) := hs 1 (by kernel_rfl)
      clear hd hs
      refine wpOp_plain rfl rfl ?_
      go_simp
      exact hK _ _ rfl hG (Below.refl _ _)
    · intro a x hG hd hs K hK
      have h19 : a.tmps.getD 19 undef = .pointer (some ⟨gq, 1, none⟩) := hd 4 19 (by kernel_rfl)
      clear hd hs
      refine wpOp_plain rfl rfl ?_
      have hc : x.cell? ⟨gq, 1, none⟩ = some (.int .i64 ((nn : Nat) : Int)) := (hG.cell (p := ⟨gq, 1, none⟩) k1.lt).trans (k1.cell 1)
      go_simp
      exact hK _ _ rfl hG (Below.refl _ _)
    · intro a x hG hd hs K hK
      have h20 : a.tmps.getD 20 undef = .int .i64 ((nn : Nat) : Int) := hd 5 20 (by kernel_rfl)
      clear hd hs
      refine wpOp_plain rfl rfl ?_
      go_simp
      refine (numS_eq 4 _ nn (by omega) _ (by omega)).mono ?_
      rintro e w' ⟨rfl, hb⟩
      exact hK _ _ rfl (hG.trans (hb.mono hG.size)) hb
    · intro a x hG hd hs K hK
      have h1 : a.tmps.getD 1 undef = .pointer (some ⟨gq, 0, none⟩) := hs 1 (by kernel_rfl)
      clear hd hs
      refine wpOp_plain rfl rfl ?_
      go_simp
      exact hK _ _ rfl hG (Below.refl _ _)
    · intro a x hG hd hs K hK
      have h22 : a.tmps.getD 22 undef = .pointer (some ⟨gq, 3, none⟩) := hd 7 22 (by kernel_rfl)
      clear hd hs
      refine wpOp_plain rfl rfl ?_
      have hc : x.cell? ⟨gq, 3, none⟩ = some (.slice A l.length c) := (hG.cell (p := ⟨gq, 3, none⟩) k1.lt).trans (k1.cell 3)
      go_simp
      exact hK _ _ rfl hG (Below.refl _ _)
    · intro a x hG hd hs K hK
      have h23 : a.tmps.getD 23 undef = .slice A l.length c := hd 8 23 (by kernel_rfl)
      clear hd hs
      refine wpOp_plain rfl rfl ?_
      go_simp
      exact hK _ _ rfl hG (Below.refl _ _)
    · intro a x hG hd hs K hK
      have h24 : a.tmps.getD 24 undef = .int .i64 ((l.length : Nat) : Int) := hd 9 24 (by kernel_rfl)
      clear hd hs
      refine wpOp_plain rfl rfl ?_
      go_simp
      refine (numS_eq 1 _ l.length (by omega) _ (by omega)).mono ?_
      rintro e w' ⟨rfl, hb⟩
      exact hK _ _ rfl (hG.trans (hb.mono hG.size)) hb
    · intro a x hG hd hs K hK
      have h4 : a.tmps.getD 4 undef = .int .i64 1 := hs 4 (by kernel_rfl)
      clear hd hs
      refine wpOp_plain rfl rfl ?_
      go_simp
      exact hK _ _ rfl hG (Below.refl _ _)
    · intro a x hG hd hs K hK
      have h26 : a.tmps.getD 26 undef = .int .i64 1 := hd 11 26 (by kernel_rfl)
      clear hd hs
      refine wpOp_plain rfl rfl ?_
      go_simp
      refine (numS_eq 1 _ 1 (by omega) _ (by omega)).mono ?_
      rintro e w' ⟨rfl, hb⟩
      exact hK _ _ rfl (hG.trans (hb.mono hG.size)) hb
    · intro a x hG hd hs K hK
      have h15 : a.tmps.getD 15 undef = .agg #[.int .i64 4, .int .u64 ((1752397165 : Nat) : Int)] := hd 0 15 (by kernel_rfl)
      have h15o := getD_opt h15
      have h18 : a.tmps.getD 18 undef = .agg #[.int .i64 6, .int .u64 ((sn : Nat) : Int)] := hd 3 18 (by kernel_rfl)
      have h18o := getD_opt h18
      have h21 : a.tmps.getD 21 undef = .agg #[.int .i64 4, .int .u64 ((nn : Nat) : Int)] := hd 6 21 (by kernel_rfl)
      have h21o := getD_opt h21
      have h25 : a.tmps.getD 25 undef = .agg #[.int .i64 1, .int .u64 ((l.length : Nat) : Int)] := hd 10 25 (by kernel_rfl)
      have h25o := getD_opt h25
      have h27 : a.tmps.getD 27 undef = .agg #[.int .i64 1, .int .u64 ((1 : Nat) : Int)] := hd 12 27 (by kernel_rfl)
      have h27o := getD_opt h27
      clear hd hs
      refine wpOp_plain rfl rfl ?_
      go_simp
      exact hK _ _ ⟨x.heap.size, rfl, by rw [HNE.out]; exact Blk.new x _ _, hG.size⟩ (hG.alloc hG.size _) ((Below.refl _ _).alloc (Nat.le_refl _) _)
    · intro a x hG hd hs K hK
      clear hd hs
      refine wpOp_plain rfl rfl ?_
      go_simp
      exact hK _ _ ⟨x.heap.size, rfl, Blk.new x _ _, hG.size⟩ (hG.alloc hG.size _) ((Below.refl _ _).alloc (Nat.le_refl _) _)
  · intro x hG
    rintro _ rfl _ rfl _ rfl _ rfl _ rfl _ rfl _ rfl _ rfl _ rfl _ rfl _ rfl _ rfl _ rfl v13 hv13 v14 hv14
    simp only [Act.put, List.setIfInBounds_toArray, List.set_cons_zero, List.set_cons_succ, List.take_zero, REnd]
    rw [show List.range' 15 (16 - 15) = [15] from rfl, wpOps_cons]
    obtain ⟨gs, rfl, ks, hgs⟩ := hv13
    obtain ⟨g5, rfl, k5, hg5⟩ := hv14
    refine wpOp_plain rfl rfl ?_
    have cS := k5.cell 0
    have fS := k5.frozen 0
    go_simp
    unfold wpOps
    simp only [Exit.then]
    have hne : gs ≠ g5 := fun e => by
      subst e
      have h1 : x.heap[gs]? = some (.cells (ncells (hS P)).toArray 55 (0, 0)) := ks
      have h2 : x.heap[gs]? = some (.cells #[.slice none 0 0] 57 (0, 0)) := k5
      rw [h1] at h2
      cases h2
    have k5' := k5.set_ 0 (.slice (some ⟨gs, 0, none⟩) 5 5)
    have ks' := ks.far (p := ⟨g5, 0, none⟩) hne (.slice (some ⟨gs, 0, none⟩) 5 5)
    have kq' := (k1.ext hG).far (p := ⟨g5, 0, none⟩) (by have := k1.lt; show gq ≠ g5; omega) (.slice (some ⟨gs, 0, none⟩) 5 5)
    have hx := hw1.trans (hG.mono hw1.size)
    have hx' := hx.setCell (p := ⟨g5, 0, none⟩) (by show w.heap.size ≤ g5; have := hw1.size; omega) (.slice (some ⟨gs, 0, none⟩) 5 5)
    obtain ⟨w2, hw2⟩ : ∃ w2, x.setCell ⟨g5, 0, none⟩ (.slice (some ⟨gs, 0, none⟩) 5 5) = w2 := ⟨_, rfl⟩
    rw [hw2] at k5' ks' kq' hx' ⊢
    have hg5l : w.heap.size ≤ g5 := Nat.le_trans hw1.size hg5
    have hgsl : w.heap.size ≤ gs := Nat.le_trans hw1.size hgs
    clear cS fS hG k5 ks hx hw2 k1 hl1 hw1 hG0 hg5 hgs
    clear x w1
    have howl := ks'.own (base := w.heap.size) hgsl 5 5 2 (by rw [HNE.out]; rfl) (Nat.le_refl _) (by simp [maxLen])
    rw [List.take_of_length_le (by rw [HNE.out]; simp)] at howl
    have c3 := kq'.cell 3
    gi_wp2_with (refine ⟨trivial, ?_⟩; gi_at_call 23; refine (callsIn_wide.2 (entries_any _ _ _ _)).mono ?_; rintro e w' ⟨rfl, rfl⟩)
    have k3 := Blk.new w2 22 #[.slice A l.length c]
    replace k5' := k5'.alloc (.cells #[.slice A l.length c] 22)
    replace howl := howl.alloc (.cells #[.slice A l.length c] 22)
    replace hx' := hx'.alloc hx'.size (.cells #[.slice A l.length c] 22)
    have hsz : w2.heap.size < (w2.alloc (.cells #[.slice A l.length c] 22)).heap.size := by simp
    obtain ⟨W0, hW0⟩ : ∃ W0, w2.alloc (.cells #[.slice A l.length c] 22) = W0 := ⟨_, rfl⟩
    rw [hW0] at k3 k5' howl hx' hsz ⊢
    clear hW0 ks' kq' c3
    generalize w2.heap.size = g3 at *
    clear w2
    have hg5W := k5'.lt
    generalize hT : Act.mk _ _ = a0
    refine wpIn_rangeFunc_ownH rfl (by decide) (gf := 35) (lb := #[.pointer (some ⟨g3, 0, none⟩)]) (by subst hT; rfl) trivial (enters_of Tryd.func35 (by kernel_rfl) rfl)
      (entries_stops 8 (by decide) g3 w.heap.size _ l W0 hsz hx'.size (k3.cell 0) (hl.below hx')) belowK_t (belowK_b hx'.size) (Below.refl _ _) (fun _ => rfl)
      (fun pre W => (∃ v, Boxed W g5 57 v ∧ W.ownsRow w.heap.size 55 2 v (5 + 4 * pre.length) (ncells (hS P ++ pS ((pre.map (·.1)).map (·.2)))) ∧ True) ∧ Below w.heap.size w W)
      (fun _ _ _ => False)
      (OwnFrom.and (Own.from (holdsRow_own w.heap.size g5 57 55 2 (fun pre : List (EntOf l) => 5 + 4 * pre.length) (fun pre => ncells (hS P ++ pS ((pre.map (·.1)).map (·.2)))) (fun _ _ => True)) _) (ownFrom_below (Nat.le_refl _) hx'.size))
      (fun _ _ _ _ _ hs _ _ => hs)
      ⟨⟨_, k5', by simpa [pS] using howl, trivial⟩, hx'⟩
      (fun x a' W => ∃ B, g5 < B ∧ Blk W B 62 [.int .i64 x.1.2.k, .int .i64 x.1.2.i, .int .i64 x.1.2.x, .int .u32 (x.1.2.s : Int)] ∧
        a' = { tmps := ((a0.tmps.setIfInBounds 32 (.int .i64 (x.1.1 : Int))).setIfInBounds 33 (.agg #[.int .i64 x.1.2.k, .int .i64 x.1.2.i, .int .i64 x.1.2.x, .int .u32 (x.1.2.s : Int)])).setIfInBounds 7 (.pointer (some ⟨B, 0, none⟩)), defers := [] })
      (fun x a' => by
        intro _ A1 A2 row hs hg hr
        obtain ⟨B, hB, hk, ha⟩ := hs
        exact ⟨B, hB, ownFrom_blk W0.heap.size B _ (fun (_ : Unit) => _) () A1 A2 row hk hg hr, ha⟩)
      ?assign ?body ?done ?stop
    case assign =>
      rintro l9 pre ⟨x, hx9⟩ W K ⟨⟨v, bv, hown, _⟩, hB1⟩ hK
      subst hT
      unfold encE at *
      dsimp only at *
      gi_wp2
      exact hK _ _ ((KeepsOthers.alloc _ _).from _) ((Below.refl _ W).alloc hB1.size _) ⟨⟨v, bv.alloc _, hown.alloc _, trivial⟩, hB1.alloc hB1.size _⟩ ⟨W.heap.size, bv.lt, Blk.new W _ _, rfl⟩
    case body =>
      rintro l9 pre ⟨⟨ix, y⟩, hx9⟩ a' W hl9 ⟨r9, hr9⟩ ⟨⟨v, bv, hown, _⟩, hB1⟩ ⟨Bx, hBx, bX, rfl⟩ hlt
      subst hT
      dsimp only at bX
      simp only [List.setIfInBounds_toArray, List.set_cons_succ, List.set_cons_zero]
      have hmem : y ∈ l := List.mem_of_getElem? hx9
      have hen := List.all_eq_true.1 hall _ hmem
      have hes : y.s < 4294967296 := hg _ hmem
      unfold Sm.enB at hen
      rw [decide_eq_true_iff] at hen
      have hpS : pS (((pre ++ [(⟨(ix, y), hx9⟩ : EntOf l)]).map (·.1)).map (·.2)) = pS ((pre.map (·.1)).map (·.2)) ++ eS y := by rw [List.map_append, List.map_append]; exact pS_snoc _ _
      have hpl : (pre ++ [(⟨(ix, y), hx9⟩ : EntOf l)]).length = pre.length + 1 := by simp
      generalize pre ++ [(⟨(ix, y), hx9⟩ : EntOf l)] = px at *
      clear hx9 hmem hl9 hr9
      obtain ⟨yk, yi, yx, ys⟩ := y
      dsimp only at bX hen hes
      obtain ⟨n1, n2, n3, n4, n5, n6⟩ := hen
      obtain ⟨yk, rfl⟩ := Int.eq_ofNat_of_zero_le (by omega : 0 ≤ yk)
      obtain ⟨yi, rfl⟩ := Int.eq_ofNat_of_zero_le n3
      obtain ⟨yx, rfl⟩ := Int.eq_ofNat_of_zero_le n5
      refine wpIn_block ?_
      have hG0 : Below W.heap.size W W.drew := (Below.refl _ _).drew
      refine wpIn_region_then (by rintro ⟨_, _, h⟩; exact h) (by kernel_rfl) 17 15 [(fun y_ _ => y_ = v),
        (fun y_ _ => y_ = .pointer (some ⟨Bx, 0, none⟩)),
        (fun y_ _ => y_ = .int .i64 ((yk : Nat) : Int)),
        (fun y_ _ => y_ = .agg #[.int .i64 1, .int .u64 ((yk : Nat) : Int)]),
        (fun y_ _ => y_ = .pointer (some ⟨Bx, 1, none⟩)),
        (fun y_ _ => y_ = .int .i64 ((yi : Nat) : Int)),
        (fun y_ _ => y_ = .agg #[.int .i64 1, .int .u64 ((yi : Nat) : Int)]),
        (fun y_ _ => y_ = .pointer (some ⟨Bx, 2, none⟩)),
        (fun y_ _ => y_ = .int .i64 ((yx : Nat) : Int)),
        (fun y_ _ => y_ = .agg #[.int .i64 2, .int .u64 ((yx : Nat) : Int)]),
        (fun y_ _ => y_ = .pointer (some ⟨Bx, 3, none⟩)),
        (fun y_ _ => y_ = .int .u32 ((ys : Nat) : Int)),
        (fun y_ _ => y_ = .int .i64 ((ys : Nat) : Int)),
        (fun y_ _ => y_ = .agg #[.int .i64 4, .int .u64 ((ys : Nat) : Int)]),
        (fun u q => ∃ g, u = .slice (some ⟨g, 0, none⟩) 4 4 ∧ Blk q g 55 (ncells (eS ⟨yk, yi, yx, ys⟩)) ∧ W.heap.size ≤ g)]
        (fun q => Below W.heap.size W q) (by kernel_rfl) rfl (by decide) (by kernel_rfl) (by kernel_rfl) ?_ ?_ ?_ ?_
      · exact hG0
      · exact ⟨stab_eq _, stab_eq _, stab_eq _, stab_eq _, stab_eq _, stab_eq _, stab_eq _, stab_eq _, stab_eq _, stab_eq _, stab_eq _, stab_eq _, stab_eq _, stab_eq _, fun _ _ _ ⟨g, h1, h2, h3⟩ hb => ⟨g, h1, h2.ext hb, h3⟩, trivial⟩
      · refine ⟨?_, ?_, ?_, ?_, ?_, ?_, ?_, ?_, ?_, ?_, ?_, ?_, ?_, ?_, ?_, trivial⟩
        · intro a x hG hd hs K hK
          have h5 : a.tmps.getD 5 undef = .pointer (some ⟨g5, 0, none⟩) := hs 5 (by kernel_rfl)
          clear hd hs
          refine wpOp_plain rfl rfl ?_
          have hc : x.cell? ⟨g5, 0, none⟩ = some v := (hG.cell (p := ⟨g5, 0, none⟩) bv.lt).trans bv.cell
          go_simp
          exact hK _ _ rfl hG (Below.refl _ _)
        · intro a x hG hd hs K hK
          have h7 : a.tmps.getD 7 undef = .pointer (some ⟨Bx, 0, none⟩) := hs 7 (by kernel_rfl)
          clear hd hs
          refine wpOp_plain rfl rfl ?_
          go_simp
          exact hK _ _ rfl hG (Below.refl _ _)
        · intro a x hG hd hs K hK
          have h35 : a.tmps.getD 35 undef = .pointer (some ⟨Bx, 0, none⟩) := hd 1 35 (by kernel_rfl)
          clear hd hs
          refine wpOp_plain rfl rfl ?_
          have hc : x.cell? ⟨Bx, 0, none⟩ = some (.int .i64 ((yk : Nat) : Int)) := (hG.cell (p := ⟨Bx, 0, none⟩) bX.lt).trans (bX.cell 0)
          go_simp
          exact hK _ _ rfl hG (Below.refl _ _)
        · intro a x hG hd hs K hK
          have h36 : a.tmps.getD 36 undef = .int .i64 ((yk : Nat) : Int) := hd 2 36 (by kernel_rfl)
          clear hd hs
          refine wpOp_plain rfl rfl ?_
          go_simp
          refine (numS_eq 1 _ yk (by omega) _ (by omega)).mono ?_
          rintro e w' ⟨rfl, hb⟩
          exact hK _ _ rfl (hG.trans (hb.mono hG.size)) hb
        · intro a x hG hd hs K hK
          have h7 : a.tmps.getD 7 undef = .pointer (some ⟨Bx, 0, none⟩) := hs 7 (by kernel_rfl)
          clear hd hs
          refine wpOp_plain rfl rfl ?_
          go_simp
          exact hK _ _ rfl hG (Below.refl _ _)
        · intro a x hG hd hs K hK
          have h38 : a.tmps.getD 38 undef = .pointer (some ⟨Bx, 1, none⟩) := hd 4 38 (by kernel_rfl)
          clear hd hs
          refine wpOp_plain rfl rfl ?_
          have hc : x.cell? ⟨Bx, 1, none⟩ = some (.int .i64 ((yi : Nat) : Int)) := (hG.cell (p := ⟨Bx, 1, none⟩) bX.lt).trans (bX.cell 1)
          go_simp
          exact hK _ _ rfl hG (Below.refl _ _)
        · intro a x hG hd hs K hK
          have h39 : a.tmps.getD 39 undef = .int .i64 ((yi : Nat) : Int) := hd 5 39 (by kernel_rfl)
          clear hd hs
          refine wpOp_plain rfl rfl ?_
          go_simp
          refine (numS_eq 1 _ yi (by omega) _ (by omega)).mono ?_
          rintro e w' ⟨rfl, hb⟩
          exact hK _ _ rfl (hG.trans (hb.mono hG.size)) hb
        · intro a x hG hd hs K hK
          have h7 : a.tmps.getD 7 undef = .pointer (some ⟨Bx, 0, none⟩) := hs 7 (by kernel_rfl)
          clear hd hs
          refine wpOp_plain rfl rfl ?_
          go_simp
          exact hK _ _ rfl hG (Below.refl _ _)
        · intro a x hG hd hs K hK
          have h41 : a.tmps.getD 41 undef = .pointer (some ⟨Bx, 2, none⟩) := hd 7 41 (by kernel_rfl)
          clear hd hs
          refine wpOp_plain rfl rfl ?_
          have hc : x.cell? ⟨Bx, 2, none⟩ = some (.int .i64 ((yx : Nat) : Int)) := (hG.cell (p := ⟨Bx, 2, none⟩) bX.lt).trans (bX.cell 2)
          go_simp
          exact hK _ _ rfl hG (Below.refl _ _)
        · intro a x hG hd hs K hK
          have h42 : a.tmps.getD 42 undef = .int .i64 ((yx : Nat) : Int) := hd 8 42 (by kernel_rfl)
          clear hd hs
          refine wpOp_plain rfl rfl ?_
          go_simp
          refine (numS_eq 2 _ yx (by omega) _ (by omega)).mono ?_
          rintro e w' ⟨rfl, hb⟩
          exact hK _ _ rfl (hG.trans (hb.mono hG.size)) hb
        · intro a x hG hd hs K hK
          have h7 : a.tmps.getD 7 undef = .pointer (some ⟨Bx, 0, none⟩) := hs 7 (by kernel_rfl)
          clear hd hs
          refine wpOp_plain rfl rfl ?_
          go_simp
          exact hK _ _ rfl hG (Below.refl _ _)
        · intro a x hG hd hs K hK
          have h44 : a.tmps.getD 44 undef = .pointer (some ⟨Bx, 3, none⟩) := hd 10 44 (by kernel_rfl)
          clear hd hs
          refine wpOp_plain rfl rfl ?_
          have hc : x.cell? ⟨Bx, 3, none⟩ = some (.int .u32 ((ys : Nat) : Int)) := (hG.cell (p := ⟨Bx, 3, none⟩) bX.lt).trans (bX.cell 3)
          go_simp
          exact hK _ _ rfl hG (Below.refl _ _)
        · intro a x hG hd hs K hK
          have h45 : a.tmps.getD 45 undef = .int .u32 ((ys : Nat) : Int) := hd 11 45 (by kernel_rfl)
          clear hd hs
          refine wpOp_plain rfl rfl ?_
          have hwr : IntKind.i64.wrap (ys : Int) = (ys : Int) := IntWalk.i64_in _ (by omega)
          go_simp
          exact hK _ _ rfl hG (Below.refl _ _)
        · intro a x hG hd hs K hK
          have h46 : a.tmps.getD 46 undef = .int .i64 ((ys : Nat) : Int) := hd 12 46 (by kernel_rfl)
          clear hd hs
          refine wpOp_plain rfl rfl ?_
          go_simp
          refine (numS_eq 4 _ ys (by omega) _ (by omega)).mono ?_
          rintro e w' ⟨rfl, hb⟩
          exact hK _ _ rfl (hG.trans (hb.mono hG.size)) hb
        · intro a x hG hd hs K hK
          have h37 : a.tmps.getD 37 undef = .agg #[.int .i64 1, .int .u64 ((yk : Nat) : Int)] := hd 3 37 (by kernel_rfl)
          have h37o := getD_opt h37
          have h40 : a.tmps.getD 40 undef = .agg #[.int .i64 1, .int .u64 ((yi : Nat) : Int)] := hd 6 40 (by kernel_rfl)
          have h40o := getD_opt h40
          have h43 : a.tmps.getD 43 undef = .agg #[.int .i64 2, .int .u64 ((yx : Nat) : Int)] := hd 9 43 (by kernel_rfl)
          have h43o := getD_opt h43
          have h47 : a.tmps.getD 47 undef = .agg #[.int .i64 4, .int .u64 ((ys : Nat) : Int)] := hd 13 47 (by kernel_rfl)
          have h47o := getD_opt h47
          clear hd hs
          refine wpOp_plain rfl rfl ?_
          go_simp
          exact hK _ _ ⟨x.heap.size, rfl, Blk.new x _ _, hG.size⟩ (hG.alloc hG.size _) ((Below.refl _ _).alloc (Nat.le_refl _) _)
      · intro x hG
        rintro _ rfl _ rfl _ rfl _ rfl _ rfl _ rfl _ rfl _ rfl _ rfl _ rfl _ rfl _ rfl _ rfl _ rfl v14 hv14
        simp only [Act.put, List.setIfInBounds_toArray, List.set_cons_zero, List.set_cons_succ, List.take_zero, REnd]
        rw [show List.range' 15 (17 - 15) = [15, 16] from rfl, wpOps_cons]
        rename_i v
        obtain ⟨gn, rfl, kn, hgn⟩ := hv14
        have hown2 := hown.kept (grown_of_below hG none) (by cases h : v.ownBlock with | none => exact .inl rfl | some _ => exact .inr (by simp))
        have hr := kn.rds 0 4 4 2 (by show 0 + 4 * 2 ≤ 8; decide) (Nat.le_refl _) (by simp [maxLen])
        rw [List.drop_zero, List.take_of_length_le (show (8 : Nat) ≤ 4 * 2 by decide)] at hr
        obtain ⟨v', wa, hruna, howna, hgra, _⟩ := run_append_rds (P := Tryd.prog) (ty := 57) Tryd.underlying57 infoNum rfl (by decide) hown2 hr (ncells_one _) (by rw [maxLen_eq]; omega) (by omega) (Nat.le_trans hB1.size hG.size)
        refine wpOp_plain rfl rfl ?_
        refine wp_append 34 48 57 rfl rfl rfl hruna ?_
        rw [wpOps_cons]
        refine wpOp_plain rfl rfl ?_
        have bx : Blk x g5 57 [v] := Blk.ext (cs := [v]) bv hG
        have ba := bx.grown hgra (own_blk_ne hown2 bx (by decide))
        have cS := ba.cell 0
        have fS := ba.frozen 0
        obtain ⟨A', c', rfl⟩ : ∃ A' c', v' = .slice A' (5 + 4 * pre.length + 4) c' := by
          rcases howna.2 with ⟨_, h0⟩ | ⟨g', cap', cur, rfl, _⟩
          · omega
          · exact ⟨_, _, rfl⟩
        have hcl : ∀ (j : Nat) (o : Obj), v.ownBlock = some j → x.heap[j]? = some o → o.isCells = true := fun j o e ho => by
          rcases hown2.2 with ⟨rfl, _⟩ | ⟨g', cap', cur, rfl, _, hgb, _⟩
          · cases e
          · cases e
            rw [hgb] at ho
            cases ho
            rfl
        have hbl := ((hG.mono hB1.size).grown hgra (Nat.le_trans hB1.size hG.size) (fun g e => (hown2.lt g e).1)).setCell (p := ⟨g5, 0, none⟩) hg5l (.slice A' (5 + 4 * pre.length + 4) c')
        have hko := ((KeepsOthers.of_grownBy (grown_of_below hG none) (fun j o e => by cases e)).trans (KeepsOthers.of_grownBy hgra hcl)).trans (KeepsOthers.setCell wa ⟨g5, 0, none⟩ (.slice A' (5 + 4 * pre.length + 4) c'))
        have hfin := howna.kept (grownBy_setCell' wa g5 (.slice A' (5 + 4 * pre.length + 4) c')) (.inr (fun e => own_blk_ne howna ba (by decide) e.symm))
        have hbf := ba.set_ 0 (.slice A' (5 + 4 * pre.length + 4) c')
        have hcat : ncells (hS P ++ pS ((pre.map (·.1)).map (·.2))) ++ ncells (eS ⟨yk, yi, yx, ys⟩) = ncells (hS P ++ pS ((px.map (·.1)).map (·.2))) := by rw [hpS, ← List.append_assoc, ncells_app _ (eS _)]
        rw [hcat] at hfin
        have hct : 5 + 4 * px.length = 5 + 4 * pre.length + 4 := by rw [hpl]; omega
        clear hcl hgra howna hown2 hown bx kn hcat hpS hr
        refine Oper.wp_mono (K := fun _ w' => w' = wa.setCell ⟨g5, 0, none⟩ (.slice A' (5 + 4 * pre.length + 4) c')) ?_ ?_
        · rintro a9 _ rfl
          show KeepsFrom W0.heap.size W _ ∧ Below w.heap.size W _ ∧ (∃ v, Boxed _ g5 57 v ∧ World.ownsRow _ w.heap.size 55 2 v (5 + 4 * px.length) (ncells (hS P ++ pS ((px.map (·.1)).map (·.2)))) ∧ True) ∧ Below w.heap.size w _
          rw [hct]
          exact ⟨hko.from _, hbl, ⟨_, hbf, hfin, trivial⟩, hB1.trans hbl⟩
        · clear hko hbl hfin hbf
          simp only [Act.put]
          go_simp
    case done =>
      rintro D ys W hD hys ⟨⟨v, bv, hown, _⟩, hB1⟩ hK
      subst hT
      have hpx : ncells (hS P ++ pS ((ys.map (·.1)).map (·.2))) = ncells (hS P ++ pS l) := by rw [hys, idx_snd _ _ (Nat.le_refl _), List.take_length]
      rw [hpx] at hown
      have hlen : ys.length = l.length := by have := congrArg List.length hys; rw [List.length_map, idx_len] at this; exact this
      have hlp : P.l = l := by rw [HP.out]
      rw [hlp] at HC HE HL
      have hn : (hS P ++ pS l).length = 5 + 4 * l.length := by rw [List.length_append, pS_len]; rfl
      have hnm : Nums W W.heap.size v (hS P ++ pS l) := Nums.of_own (base := w.heap.size) (e := 55) (by rw [hn, ← hlen]; exact hown)
      have hpe := Pk.perr_of HC.out
      have hkp : Pk.packed (hS P ++ pS l) = Pk.recs (hS P ++ pS l) := by unfold Pk.packed; rw [if_pos hpe]
      obtain ⟨Av, cv, hv, _⟩ := hnm.open_
      generalize (hS P ++ pS l).length = m9 at hv
      subst hv
      have cS := bv.cell
      clear hown hpx hys
      gi_wp2_with fail
      refine ⟨trivial, ?_⟩
      refine (callsIn_wide.2 (pack_any _ _ _ _ hnm (Nat.le_refl _) (by omega) (zipS_lt HC.out))).mono ?_
      rintro e9 wp ⟨u, rfl, hownp, hbp⟩
      rw [hpe]
      rw [hkp] at hownp
      have hs : Bs wp wp.heap.size u (Pk.recs (hS P ++ pS l)) := Bs.of_own hownp
      have hDl : D < W.heap.size := (Array.getElem?_eq_some_iff.1 hK).1
      have hKp : wp.heap[D]? = some (.deferred (some [])) := (hbp.block D hDl).trans hK
      have hBp := hB1.trans (hbp.mono hB1.size)
      clear hownp hkp hpe hnm cS
      gi_wp2_with fail
      refine ⟨trivial, ?_⟩
      refine (callsIn_wide.2 (seal_any _ _ _ _ (hH.ext hBp) hs (Nat.le_refl _) (by rw [HL.out]; omega))).mono ?_
      rintro e9 ws ⟨u2, rfl, hown2, hb2⟩
      have hKs : ws.heap[D]? = some (.deferred (some [])) := (hb2.block D (Nat.lt_of_lt_of_le hDl hbp.size)).trans hKp
      have hBs := hBp.trans (hb2.mono hBp.size)
      have hfs := Bs.of_own (l := Crc.sealed (Pk.recs (hS P ++ pS l))) (by rw [Crc.length_sealed _ (by rw [HL.out]; omega)]; exact ownsRow_putObj hown2 (.deferred none) hKs rfl)
      gi_wp2_with fail
      refine ⟨by simp, .inl ⟨_, _, rfl, run_takeDeferred hKs, ?_⟩⟩
      exact ⟨.tuple #[u2, .int .i64 0], by simp [results, Tryd.results9, go_sem], u2, rfl, by rw [← HP.out, HE.out]; exact hfs, hBs.trans (belowK_b (w := w) (Nat.le_refl _) _ D _ _ (Nat.le_trans hx'.size hD) hKs rfl rfl)⟩
    case stop =>
      rintro D c9 pre W _ _ h _
      exact h.elim
set_option maxRecDepth 100000 in
set_option maxHeartbeats 4000000 in
theorem encodeS_false (s n : Int) (vl : Value) (l : List Sm.En) (w : World) (P : Sm.Pt) (hP : P = ⟨s, n, false, l⟩) (hl : Ents w w.heap.size vl l) (hg : Sm.Good P) (hm : Sm.mayB P = true) (hH : Halves w) :
    CallsIn Fence.wide 9 Tryd.prog 9 #[.agg #[.int .i64 s, .int .i64 n, .bool false, vl]] w (MadeS (Sm.smE P) w) := by
  obtain ⟨A, c, rfl, hlc, hcm, hE⟩ := hl.open_
  have HC := Lib.hid (Sm.sm_chk P hm hg)
  rw [zip_sm] at HC
  have HE := Lib.hid (show Sm.smE P = Crc.sealed (Pk.recs (hS P ++ pS P.l)) by rw [← zip_sm]; rfl)
  have HL := Lib.hid (Sm.smE_len P)
  rw [zip_sm] at HL
  obtain ⟨⟨m1, m2, m3, m4, m5, m6⟩, hall⟩ := Sm.may_parts hm
  subst hP
  simp only at m1 m2 m3 m4 m5 m6 hall
  obtain ⟨sn, rfl⟩ := Int.eq_ofNat_of_zero_le (by omega : 0 ≤ s)
  obtain ⟨nn, rfl⟩ := Int.eq_ofNat_of_zero_le m3
  obtain ⟨P, hP⟩ : ∃ P : Sm.Pt, P = ⟨sn, nn, false, l⟩ := ⟨_, rfl⟩
  rw [← hP] at HC HE HL
  have HP := Lib.hid hP
  have HNE := Lib.hid (show ncells (hS P) = [.int .i64 4, .int .u64 1752397165, .int .i64 6, .int .u64 (sn : Int), .int .i64 4, .int .u64 (nn : Int), .int .i64 1, .int .u64 (l.length : Int), .int .i64 1, .int .u64 0] by
    subst hP
    unfold ncells hS
    rfl)
  clear hP
  refine callsIn_of_wp_marks Tryd.func9 rfl trivial ?_ rfl
  simp only [Tryd.ntmps9, List.size_toArray, List.length_cons, List.length_nil, Nat.reduceAdd, Nat.reduceSub, Array.replicate_succ, Array.replicate_zero, List.push_toArray, List.append_toArray, List.nil_append, List.cons_append]
  have k1 := Blk.new w 24 #[.int .i64 (sn : Int), .int .i64 (nn : Int), .bool false, .slice A l.length c]
  have hb0 := (Below.refl w.heap.size w).alloc (Nat.le_refl _) (.cells #[.int .i64 (sn : Int), .int .i64 (nn : Int), .bool false, .slice A l.length c] 24)
  gi_upto_region 1 with fail
  obtain ⟨w0, hw0⟩ : ∃ w0, w.alloc (.cells #[.int .i64 (sn : Int), .int .i64 (nn : Int), .bool false, .slice A l.length c] 24) = w0 := ⟨_, rfl⟩
  rw [hw0] at k1 hb0 ⊢
  clear hw0
  obtain ⟨gq, hgq⟩ : ∃ gq, w.heap.size = gq := ⟨_, rfl⟩
  rw [hgq] at k1 ⊢
  clear hgq
  have c0 := k1.cell 0
  have c1 := k1.cell 1
  have c2 := k1.cell 2
  have c3 := k1.cell 3
  have hl0 : Ents w0 w0.heap.size (.slice A l.length c) l := (hl.below hb0).more hb0.size
  gi_wp2_with fail
  refine ⟨trivial, ?_⟩
  refine (callsIn_wide.2 (mayS_any sn nn false _ l w0 hl0)).mono ?_
  rintro e9 w1 ⟨rfl, hb1⟩
  rw [hm]
  replace k1 := k1.ext hb1
  have hw1 := hb0.trans (hb1.mono hb0.size)
  have hl1 := (hl0.below hb1).more hb1.size
  clear c0 c1 c2 c3 hl0 hb1 hb0
  have c0 := k1.cell 0
  have c1 := k1.cell 1
  have c2 := k1.cell 2
  have c3 := k1.cell 3
  gi_upto_region 6 with fail
  clear c0 c1 c2 c3
  refine wpIn_wide.2 ?_
  have hG0 : Below w1.heap.size w1 w1.drew := (Below.refl _ _).drew
  refine wp_region_then 16 15 [(fun y_ _ => y_ = .agg #[.int .i64 4, .int .u64 ((1752397165 : Nat) : Int)]),
    (fun y_ _ => y_ = .pointer (some ⟨gq, 0, none⟩)),
    (fun y_ _ => y_ = .int .i64 ((sn : Nat) : Int)),
    (fun y_ _ => y_ = .agg #[.int .i64 6, .int .u64 ((sn : Nat) : Int)]),
    (fun y_ _ => y_ = .pointer (some ⟨gq, 1, none⟩)),
    (fun y_ _ => y_ = .int .i64 ((nn : Nat) : Int)),
    (fun y_ _ => y_ = .agg #[.int .i64 4, .int .u64 ((nn : Nat) : Int)]),
    (fun y_ _ => y_ = .pointer (some ⟨gq, 3, none⟩)),
    (fun y_ _ => y_ = .slice A l.length c),
    (fun y_ _ => y_ = .int .i64 ((l.length : Nat) : Int)),
    (fun y_ _ => y_ = .agg #[.int .i64 1, .int .u64 ((l.length : Nat) : Int)]),
    (fun y_ _ => y_ = .int .i64 0),
    (fun y_ _ => y_ = .agg #[.int .i64 1, .int .u64 ((0 : Nat) : Int)]),
    (fun u q => ∃ g, u = .slice (some ⟨g, 0, none⟩) 5 5 ∧ Blk q g 55 (ncells (hS P)) ∧ w1.heap.size ≤ g),
    (fun u q => ∃ g, u = .pointer (some ⟨g, 0, none⟩) ∧ Blk q g 57 [.slice none 0 0] ∧ w1.heap.size ≤ g)]
    (fun q => Below w1.heap.size w1 q) (by kernel_rfl) rfl (by decide) (by kernel_rfl) (by kernel_rfl) ?_ ?_ ?_ ?_
  · exact hG0
  · exact ⟨stab_eq _, stab_eq _, stab_eq _, stab_eq _, stab_eq _, stab_eq _, stab_eq _, stab_eq _, stab_eq _, stab_eq _, stab_eq _, stab_eq _, stab_eq _, fun _ _ _ ⟨g, h1, h2, h3⟩ hb => ⟨g, h1, h2.ext hb, h3⟩, fun _ _ _ ⟨g, h1, h2, h3⟩ hb => ⟨g, h1, h2.ext hb, h3⟩, trivial⟩
  · refine ⟨?_, ?_, ?_, ?_, ?_, ?_, ?_, ?_, ?_, ?_, ?_, ?_, ?_, ?_, ?_, trivial⟩
    · intro a x hG hd hs K hK
      clear hd hs
      refine wpOp_plain rfl rfl ?_
      go_simp
      refine (numS_eq 4 _ 1752397165 (by omega) _ (by omega)).mono ?_
      rintro e w' ⟨rfl, hb⟩
      exact hK _ _ rfl (hG.trans (hb.mono hG.size)) hb
    · intro a x hG hd hs K hK
      have h1 : a.tmps.getD 1 undef = .pointer (some ⟨gq, 0, none⟩) := hs 1 (by kernel_rfl)
      clear hd hs
      refine wpOp_plain rfl rfl ?_
      go_simp
      exact hK _ _ rfl hG (Below.refl _ _)
    · intro a x hG hd hs K hK
      have h16 : a.tmps.getD 16 undef = .pointer (some ⟨gq, 0, none⟩) := hd 1 16 (by kernel_rfl)
      clear hd hs
      refine wpOp_plain rfl rfl ?_
      have hc : x.cell? ⟨gq, 0, none⟩ = some (.int .i64 ((sn : Nat) : Int)) := (hG.cell (p := ⟨gq, 0, none⟩) k1.lt).trans (k1.cell 0)
      go_simp
      exact hK _ _ rfl hG (Below.refl _ _)
    · intro a x hG hd hs K hK
      have h17 : a.tmps.getD 17 undef = .int .i64 ((sn : Nat) : Int) := hd 2 17 (by kernel_rfl)
      clear hd hs
      refine wpOp_plain rfl rfl ?_
      go_simp
      refine (numS_eq 6 _ sn (by omega) _ (by omega)).mono ?_
      rintro e w' ⟨rfl, hb⟩
      exact hK _ _ rfl (hG.trans (hb.mono hG.size)) hb
    · intro a x hG hd hs K hK
      have h1 : a.tmps.getD 1 undef = .pointer (some ⟨gq, 0, none⟩) := hs 1 (by kernel_rfl)
      clear hd hs
      refine wpOp_plain rfl rfl ?_
      go_simp
      exact hK _ _ rfl hG (Below.refl _ _)
    · intro a x hG hd hs K hK
      have h19 : a.tmps.getD 19 undef = .pointer (some ⟨gq, 1, none⟩) := hd 4 19 (by kernel_rfl)
      clear hd hs
      refine wpOp_plain rfl rfl ?_
      have hc : x.cell? ⟨gq, 1, none⟩ = some (.int .i64 ((nn : Nat) : Int)) := (hG.cell (p := ⟨gq, 1, none⟩) k1.lt).trans (k1.cell 1)
      go_simp
      exact hK _ _ rfl hG (Below.refl _ _)
    · intro a x hG hd hs K hK
      have h20 : a.tmps.getD 20 undef = .int .i64 ((nn : Nat) : Int) := hd 5 20 (by kernel_rfl)
      clear hd hs
      refine wpOp_plain rfl rfl ?_
      go_simp
      refine (numS_eq 4 _ nn (by omega) _ (by omega)).mono ?_
      rintro e w' ⟨rfl, hb⟩
      exact hK _ _ rfl (hG.trans (hb.mono hG.size)) hb
    · intro a x hG hd hs K hK
      have h1 : a.tmps.getD 1 undef = .pointer (some ⟨gq, 0, none⟩) := hs 1 (by kernel_rfl)
      clear hd hs
      refine wpOp_plain rfl rfl ?_
      go_simp
      exact hK _ _ rfl hG (Below.refl _ _)
    · intro a x hG hd hs K hK
      have h22 : a.tmps.getD 22 undef = .pointer (some ⟨gq, 3, none⟩) := hd 7 22 (by kernel_rfl)
      clear hd hs
      refine wpOp_plain rfl rfl ?_
      have hc : x.cell? ⟨gq, 3, none⟩ = some (.slice A l.length c) := (hG.cell (p := ⟨gq, 3, none⟩) k1.lt).trans (k1.cell 3)
      go_simp
      exact hK _ _ rfl hG (Below.refl _ _)
    · intro a x hG hd hs K hK
      have h23 : a.tmps.getD 23 undef = .slice A l.length c := hd 8 23 (by kernel_rfl)
      clear hd hs
      refine wpOp_plain rfl rfl ?_
      go_simp
      exact hK _ _ rfl hG (Below.refl _ _)
    · intro a x hG hd hs K hK
      have h24 : a.tmps.getD 24 undef = .int .i64 ((l.length : Nat) : Int) := hd 9 24 (by kernel_rfl)
      clear hd hs
      refine wpOp_plain rfl rfl ?_
      go_simp
      refine (numS_eq 1 _ l.length (by omega) _ (by omega)).mono ?_
      rintro e w' ⟨rfl, hb⟩
      exact hK _ _ rfl (hG.trans (hb.mono hG.size)) hb
    · intro a x hG hd hs K hK
      have h4 : a.tmps.getD 4 undef = .int .i64 0 := hs 4 (by kernel_rfl)
      clear hd hs
      refine wpOp_plain rfl rfl ?_
      go_simp
      exact hK _ _ rfl hG (Below.refl _ _)
    · intro a x hG hd hs K hK
      have h26 : a.tmps.getD 26 undef = .int .i64 0 := hd 11 26 (by kernel_rfl)
      clear hd hs
      refine wpOp_plain rfl rfl ?_
      go_simp
      refine (numS_eq 1 _ 0 (by omega) _ (by omega)).mono ?_
      rintro e w' ⟨rfl, hb⟩
      exact hK _ _ rfl (hG.trans (hb.mono hG.size)) hb
    · intro a x hG hd hs K hK
      have h15 : a.tmps.getD 15 undef = .agg #[.int .i64 4, .int .u64 ((1752397165 : Nat) : Int)] := hd 0 15 (by kernel_rfl)
      have h15o := getD_opt h15
      have h18 : a.tmps.getD 18 undef = .agg #[.int .i64 6, .int .u64 ((sn : Nat) : Int)] := hd 3 18 (by kernel_rfl)
      have h18o := getD_opt h18
      have h21 : a.tmps.getD 21 undef = .agg #[.int .i64 4, .int .u64 ((nn : Nat) : Int)] := hd 6 21 (by kernel_rfl)
      have h21o := getD_opt h21
      have h25 : a.tmps.getD 25 undef = .agg #[.int .i64 1, .int .u64 ((l.length : Nat) : Int)] := hd 10 25 (by kernel_rfl)
      have h25o := getD_opt h25
      have h27 : a.tmps.getD 27 undef = .agg #[.int .i64 1, .int .u64 ((0 : Nat) : Int)] := hd 12 27 (by kernel_rfl)
      have h27o := getD_opt h27
      clear hd hs
      refine wpOp_plain rfl rfl ?_
      go_simp
      exact hK _ _ ⟨x.heap.size, rfl, by rw [HNE.out]; exact Blk.new x _ _, hG.size⟩ (hG.alloc hG.size _) ((Below.refl _ _).alloc (Nat.le_refl _) _)
    · intro a x hG hd hs K hK
      clear hd hs
      refine wpOp_plain rfl rfl ?_
      go_simp
      exact hK _ _ ⟨x.heap.size, rfl, Blk.new x _ _, hG.size⟩ (hG.alloc hG.size _) ((Below.refl _ _).alloc (Nat.le_refl _) _)
  · intro x hG
    rintro _ rfl _ rfl _ rfl _ rfl _ rfl _ rfl _ rfl _ rfl _ rfl _ rfl _ rfl _ rfl _ rfl v13 hv13 v14 hv14
    simp only [Act.put, List.setIfInBounds_toArray, List.set_cons_zero, List.set_cons_succ, List.take_zero, REnd]
    rw [show List.range' 15 (16 - 15) = [15] from rfl, wpOps_cons]
    obtain ⟨gs, rfl, ks, hgs⟩ := hv13
    obtain ⟨g5, rfl, k5, hg5⟩ := hv14
    refine wpOp_plain rfl rfl ?_
    have cS := k5.cell 0
    have fS := k5.frozen 0
    go_simp
    unfold wpOps
    simp only [Exit.then]
    have hne : gs ≠ g5 := fun e => by
      subst e
      have h1 : x.heap[gs]? = some (.cells (ncells (hS P)).toArray 55 (0, 0)) := ks
      have h2 : x.heap[gs]? = some (.cells #[.slice none 0 0] 57 (0, 0)) := k5
      rw [h1] at h2
      cases h2
    have k5' := k5.set_ 0 (.slice (some ⟨gs, 0, none⟩) 5 5)
    have ks' := ks.far (p := ⟨g5, 0, none⟩) hne (.slice (some ⟨gs, 0, none⟩) 5 5)
    have kq' := (k1.ext hG).far (p := ⟨g5, 0, none⟩) (by have := k1.lt; show gq ≠ g5; omega) (.slice (some ⟨gs, 0, none⟩) 5 5)
    have hx := hw1.trans (hG.mono hw1.size)
    have hx' := hx.setCell (p := ⟨g5, 0, none⟩) (by show w.heap.size ≤ g5; have := hw1.size; omega) (.slice (some ⟨gs, 0, none⟩) 5 5)
    obtain ⟨w2, hw2⟩ : ∃ w2, x.setCell ⟨g5, 0, none⟩ (.slice (some ⟨gs, 0, none⟩) 5 5) = w2 := ⟨_, rfl⟩
    rw [hw2] at k5' ks' kq' hx' ⊢
    have hg5l : w.heap.size ≤ g5 := Nat.le_trans hw1.size hg5
    have hgsl : w.heap.size ≤ gs := Nat.le_trans hw1.size hgs
    clear cS fS hG k5 ks hx hw2 k1 hl1 hw1 hG0 hg5 hgs
    clear x w1
    have howl := ks'.own (base := w.heap.size) hgsl 5 5 2 (by rw [HNE.out]; rfl) (Nat.le_refl _) (by simp [maxLen])
    rw [List.take_of_length_le (by rw [HNE.out]; simp)] at howl
    have c3 := kq'.cell 3
    gi_wp2_with (refine ⟨trivial, ?_⟩; gi_at_call 23; refine (callsIn_wide.2 (entries_any _ _ _ _)).mono ?_; rintro e w' ⟨rfl, rfl⟩)
    have k3 := Blk.new w2 22 #[.slice A l.length c]
    replace k5' := k5'.alloc (.cells #[.slice A l.length c] 22)
    replace howl := howl.alloc (.cells #[.slice A l.length c] 22)
    replace hx' := hx'.alloc hx'.size (.cells #[.slice A l.length c] 22)
    have hsz : w2.heap.size < (w2.alloc (.cells #[.slice A l.length c] 22)).heap.size := by simp
    obtain ⟨W0, hW0⟩ : ∃ W0, w2.alloc (.cells #[.slice A l.length c] 22) = W0 := ⟨_, rfl⟩
    rw [hW0] at k3 k5' howl hx' hsz ⊢
    clear hW0 ks' kq' c3
    generalize w2.heap.size = g3 at *
    clear w2
    have hg5W := k5'.lt
    generalize hT : Act.mk _ _ = a0
    refine wpIn_rangeFunc_ownH rfl (by decide) (gf := 35) (lb := #[.pointer (some ⟨g3, 0, none⟩)]) (by subst hT; rfl) trivial (enters_of Tryd.func35 (by kernel_rfl) rfl)
      (entries_stops 8 (by decide) g3 w.heap.size _ l W0 hsz hx'.size (k3.cell 0) (hl.below hx')) belowK_t (belowK_b hx'.size) (Below.refl _ _) (fun _ => rfl)
      (fun pre W => (∃ v, Boxed W g5 57 v ∧ W.ownsRow w.heap.size 55 2 v (5 + 4 * pre.length) (ncells (hS P ++ pS ((pre.map (·.1)).map (·.2)))) ∧ True) ∧ Below w.heap.size w W)
      (fun _ _ _ => False)
      (OwnFrom.and (Own.from (holdsRow_own w.heap.size g5 57 55 2 (fun pre : List (EntOf l) => 5 + 4 * pre.length) (fun pre => ncells (hS P ++ pS ((pre.map (·.1)).map (·.2)))) (fun _ _ => True)) _) (ownFrom_below (Nat.le_refl _) hx'.size))
      (fun _ _ _ _ _ hs _ _ => hs)
      ⟨⟨_, k5', by simpa [pS] using howl, trivial⟩, hx'⟩
      (fun x a' W => ∃ B, g5 < B ∧ Blk W B 62 [.int .i64 x.1.2.k, .int .i64 x.1.2.i, .int .i64 x.1.2.x, .int .u32 (x.1.2.s : Int)] ∧
        a' = { tmps := ((a0.tmps.setIfInBounds 32 (.int .i64 (x.1.1 : Int))).setIfInBounds 33 (.agg #[.int .i64 x.1.2.k, .int .i64 x.1.2.i, .int .i64 x.1.2.x, .int .u32 (x.1.2.s : Int)])).setIfInBounds 7 (.pointer (some ⟨B, 0, none⟩)), defers := [] })
      (fun x a' => by
        intro _ A1 A2 row hs hg hr
        obtain ⟨B, hB, hk, ha⟩ := hs
        exact ⟨B, hB, ownFrom_blk W0.heap.size B _ (fun (_ : Unit) => _) () A1 A2 row hk hg hr, ha⟩)
      ?assign ?body ?done ?stop
    case assign =>
      rintro l9 pre ⟨x, hx9⟩ W K ⟨⟨v, bv, hown, _⟩, hB1⟩ hK
      subst hT
      unfold encE at *
      dsimp only at *
      gi_wp2
      exact hK _ _ ((KeepsOthers.alloc _ _).from _) ((Below.refl _ W).alloc hB1.size _) ⟨⟨v, bv.alloc _, hown.alloc _, trivial⟩, hB1.alloc hB1.size _⟩ ⟨W.heap.size, bv.lt, Blk.new W _ _, rfl⟩
    case body =>
      rintro l9 pre ⟨⟨ix, y⟩, hx9⟩ a' W hl9 ⟨r9, hr9⟩ ⟨⟨v, bv, hown, _⟩, hB1⟩ ⟨Bx, hBx, bX, rfl⟩ hlt
      subst hT
      dsimp only at bX
      simp only [List.setIfInBounds_toArray, List.set_cons_succ, List.set_cons_zero]
      have hmem : y ∈ l := List.mem_of_getElem? hx9
      have hen := List.all_eq_true.1 hall _ hmem
      have hes : y.s < 4294967296 := hg _ hmem
      unfold Sm.enB at hen
      rw [decide_eq_true_iff] at hen
      have hpS : pS (((pre ++ [(⟨(ix, y), hx9⟩ : EntOf l)]).map (·.1)).map (·.2)) = pS ((pre.map (·.1)).map (·.2)) ++ eS y := by rw [List.map_append, List.map_append]; exact pS_snoc _ _
      have hpl : (pre ++ [(⟨(ix, y), hx9⟩ : EntOf l)]).length = pre.length + 1 := by simp
      generalize pre ++ [(⟨(ix, y), hx9⟩ : EntOf l)] = px at *
      clear hx9 hmem hl9 hr9
      obtain ⟨yk, yi, yx, ys⟩ := y
      dsimp only at bX hen hes
      obtain ⟨n1, n2, n3, n4, n5, n6⟩ := hen
      obtain ⟨yk, rfl⟩ := Int.eq_ofNat_of_zero_le (by omega : 0 ≤ yk)
      obtain ⟨yi, rfl⟩ := Int.eq_ofNat_of_zero_le n3
      obtain ⟨yx, rfl⟩ := Int.eq_ofNat_of_zero_le n5
      refine wpIn_block ?_
      have hG0 : Below W.heap.size W W.drew := (Below.refl _ _).drew
      refine wpIn_region_then (by rintro ⟨_, _, h⟩; exact h) (by kernel_rfl) 17 15 [(fun y_ _ => y_ = v),
        (fun y_ _ => y_ = .pointer (some ⟨Bx, 0, none⟩)),
        (fun y_ _ => y_ = .int .i64 ((yk : Nat) : Int)),
        (fun y_ _ => y_ = .agg #[.int .i64 1, .int .u64 ((yk : Nat) : Int)]),
        (fun y_ _ => y_ = .pointer (some ⟨Bx, 1, none⟩)),
        (fun y_ _ => y_ = .int .i64 ((yi : Nat) : Int)),
        (fun y_ _ => y_ = .agg #[.int .i64 1, .int .u64 ((yi : Nat) : Int)]),
        (fun y_ _ => y_ = .pointer (some ⟨Bx, 2, none⟩)),
        (fun y_ _ => y_ = .int .i64 ((yx : Nat) : Int)),
        (fun y_ _ => y_ = .agg #[.int .i64 2, .int .u64 ((yx : Nat) : Int)]),
        (fun y_ _ => y_ = .pointer (some ⟨Bx, 3, none⟩)),
        (fun y_ _ => y_ = .int .u32 ((ys : Nat) : Int)),
        (fun y_ _ => y_ = .int .i64 ((ys : Nat) : Int)),
        (fun y_ _ => y_ = .agg #[.int .i64 4, .int .u64 ((ys : Nat) : Int)]),
        (fun u q => ∃ g, u = .slice (some ⟨g, 0, none⟩) 4 4 ∧ Blk q g 55 (ncells (eS ⟨yk, yi, yx, ys⟩)) ∧ W.heap.size ≤ g)]
        (fun q => Below W.heap.size W q) (by kernel_rfl) rfl (by decide) (by kernel_rfl) (by kernel_rfl) ?_ ?_ ?_ ?_
      · exact hG0
      · exact ⟨stab_eq _, stab_eq _, stab_eq _, stab_eq _, stab_eq _, stab_eq _, stab_eq _, stab_eq _, stab_eq _, stab_eq _, stab_eq _, stab_eq _, stab_eq _, stab_eq _, fun _ _ _ ⟨g, h1, h2, h3⟩ hb => ⟨g, h1, h2.ext hb, h3⟩, trivial⟩
      · refine ⟨?_, ?_, ?_, ?_, ?_, ?_, ?_, ?_, ?_, ?_, ?_, ?_, ?_, ?_, ?_, trivial⟩
        · intro a x hG hd hs K hK
          have h5 : a.tmps.getD 5 undef = .pointer (some ⟨g5, 0, none⟩) := hs 5 (by kernel_rfl)
          clear hd hs
          refine wpOp_plain rfl rfl ?_
          have hc : x.cell? ⟨g5, 0, none⟩ = some v := (hG.cell (p := ⟨g5, 0, none⟩) bv.lt).trans bv.cell
          go_simp
          exact hK _ _ rfl hG (Below.refl _ _)
        · intro a x hG hd hs K hK
          have h7 : a.tmps.getD 7 undef = .pointer (some ⟨Bx, 0, none⟩) := hs 7 (by kernel_rfl)
          clear hd hs
          refine wpOp_plain rfl rfl ?_
          go_simp
          exact hK _ _ rfl hG (Below.refl _ _)
        · intro a x hG hd hs K hK
          have h35 : a.tmps.getD 35 undef = .pointer (some ⟨Bx, 0, none⟩) := hd 1 35 (by kernel_rfl)
          clear hd hs
          refine wpOp_plain rfl rfl ?_
          have hc : x.cell? ⟨Bx, 0, none⟩ = some (.int .i64 ((yk : Nat) : Int)) := (hG.cell (p := ⟨Bx, 0, none⟩) bX.lt).trans (bX.cell 0)
          go_simp
          exact hK _ _ rfl hG (Below.refl _ _)
        · intro a x hG hd hs K hK
          have h36 : a.tmps.getD 36 undef = .int .i64 ((yk : Nat) : Int) := hd 2 36 (by kernel_rfl)
          clear hd hs
          refine wpOp_plain rfl rfl ?_
          go_simp
          refine (numS_eq 1 _ yk (by omega) _ (by omega)).mono ?_
          rintro e w' ⟨rfl, hb⟩
          exact hK _ _ rfl (hG.trans (hb.mono hG.size)) hb
        · intro a x hG hd hs K hK
          have h7 : a.tmps.getD 7 undef = .pointer (some ⟨Bx, 0, none⟩) := hs 7 (by kernel_rfl)
          clear hd hs
          refine wpOp_plain rfl rfl ?_
          go_simp
          exact hK _ _ rfl hG (Below.refl _ _)
        · intro a x hG hd hs K hK
          have h38 : a.tmps.getD 38 undef = .pointer (some ⟨Bx, 1, none⟩) := hd 4 38 (by kernel_rfl)
          clear hd hs
          refine wpOp_plain rfl rfl ?_
          have hc : x.cell? ⟨Bx, 1, none⟩ = some (.int .i64 ((yi : Nat) : Int)) := (hG.cell (p := ⟨Bx, 1, none⟩) bX.lt).trans (bX.cell 1)
          go_simp
          exact hK _ _ rfl hG (Below.refl _ _)
        · intro a x hG hd hs K hK
          have h39 : a.tmps.getD 39 undef = .int .i64 ((yi : Nat) : Int) := hd 5 39 (by kernel_rfl)
          clear hd hs
          refine wpOp_plain rfl rfl ?_
          go_simp
          refine (numS_eq 1 _ yi (by omega) _ (by omega)).mono ?_
          rintro e w' ⟨rfl, hb⟩
          exact hK _ _ rfl (hG.trans (hb.mono hG.size)) hb
        · intro a x hG hd hs K hK
          have h7 : a.tmps.getD 7 undef = .pointer (some ⟨Bx, 0, none⟩) := hs 7 (by kernel_rfl)
          clear hd hs
          refine wpOp_plain rfl rfl ?_
          go_simp
          exact hK _ _ rfl hG (Below.refl _ _)
        · intro a x hG hd hs K hK
          have h41 : a.tmps.getD 41 undef = .pointer (some ⟨Bx, 2, none⟩) := hd 7 41 (by kernel_rfl)
          clear hd hs
          refine wpOp_plain rfl rfl ?_
          have hc : x.cell? ⟨Bx, 2, none⟩ = some (.int .i64 ((yx : Nat) : Int)) := (hG.cell (p := ⟨Bx, 2, none⟩) bX.lt).trans (bX.cell 2)
          go_simp
          exact hK _ _ rfl hG (Below.refl _ _)
        · intro a x hG hd hs K hK
          have h42 : a.tmps.getD 42 undef = .int .i64 ((yx : Nat) : Int) := hd 8 42 (by kernel_rfl)
          clear hd hs
          refine wpOp_plain rfl rfl ?_
          go_simp
          refine (numS_eq 2 _ yx (by omega) _ (by omega)).mono ?_
          rintro e w' ⟨rfl, hb⟩
          exact hK _ _ rfl (hG.trans (hb.mono hG.size)) hb
        · intro a x hG hd hs K hK
          have h7 : a.tmps.getD 7 undef = .pointer (some ⟨Bx, 0, none⟩) := hs 7 (by kernel_rfl)
          clear hd hs
          refine wpOp_plain rfl rfl ?_
          go_simp
          exact hK _ _ rfl hG (Below.refl _ _)
        · intro a x hG hd hs K hK
          have h44 : a.tmps.getD 44 undef = .pointer (some ⟨Bx, 3, none⟩) := hd 10 44 (by kernel_rfl)
          clear hd hs
          refine wpOp_plain rfl rfl ?_
          have hc : x.cell? ⟨Bx, 3, none⟩ = some (.int .u32 ((ys : Nat) : Int)) := (hG.cell (p := ⟨Bx, 3, none⟩) bX.lt).trans (bX.cell 3)
          go_simp
          exact hK _ _ rfl hG (Below.refl _ _)
        · intro a x hG hd hs K hK
          have h45 : a.tmps.getD 45 undef = .int .u32 ((ys : Nat) : Int) := hd 11 45 (by kernel_rfl)
          clear hd hs
          refine wpOp_plain rfl rfl ?_
          have hwr : IntKind.i64.wrap (ys : Int) = (ys : Int) := IntWalk.i64_in _ (by omega)
          go_simp
          exact hK _ _ rfl hG (Below.refl _ _)
        · intro a x hG hd hs K hK
          have h46 : a.tmps.getD 46 undef = .int .i64 ((ys : Nat) : Int) := hd 12 46 (by kernel_rfl)
          clear hd hs
          refine wpOp_plain rfl rfl ?_
          go_simp
          refine (numS_eq 4 _ ys (by omega) _ (by omega)).mono ?_
          rintro e w' ⟨rfl, hb⟩
          exact hK _ _ rfl (hG.trans (hb.mono hG.size)) hb
        · intro a x hG hd hs K hK
          have h37 : a.tmps.getD 37 undef = .agg #[.int .i64 1, .int .u64 ((yk : Nat) : Int)] := hd 3 37 (by kernel_rfl)
          have h37o := getD_opt h37
          have h40 : a.tmps.getD 40 undef = .agg #[.int .i64 1, .int .u64 ((yi : Nat) : Int)] := hd 6 40 (by kernel_rfl)
          have h40o := getD_opt h40
          have h43 : a.tmps.getD 43 undef = .agg #[.int .i64 2, .int .u64 ((yx : Nat) : Int)] := hd 9 43 (by kernel_rfl)
          have h43o := getD_opt h43
          have h47 : a.tmps.getD 47 undef = .agg #[.int .i64 4, .int .u64 ((ys : Nat) : Int)] := hd 13 47 (by kernel_rfl)
          have h47o := getD_opt h47
          clear hd hs
          refine wpOp_plain rfl rfl ?_
          go_simp
          exact hK _ _ ⟨x.heap.size, rfl, Blk.new x _ _, hG.size⟩ (hG.alloc hG.size _) ((Below.refl _ _).alloc (Nat.le_refl _) _)
      · intro x hG
        rintro _ rfl _ rfl _ rfl _ rfl _ rfl _ rfl _ rfl _ rfl _ rfl _ rfl _ rfl _ rfl _ rfl _ rfl v14 hv14
        simp only [Act.put, List.setIfInBounds_toArray, List.set_cons_zero, List.set_cons_succ, List.take_zero, REnd]
        rw [show List.range' 15 (17 - 15) = [15, 16] from rfl, wpOps_cons]
        rename_i v
        obtain ⟨gn, rfl, kn, hgn⟩ := hv14
        have hown2 := hown.kept (grown_of_below hG none) (by cases h : v.ownBlock with | none => exact .inl rfl | some _ => exact .inr (by simp))
        have hr := kn.rds 0 4 4 2 (by show 0 + 4 * 2 ≤ 8; decide) (Nat.le_refl _) (by simp [maxLen])
        rw [List.drop_zero, List.take_of_length_le (show (8 : Nat) ≤ 4 * 2 by decide)] at hr
        obtain ⟨v', wa, hruna, howna, hgra, _⟩ := run_append_rds (P := Tryd.prog) (ty := 57) Tryd.underlying57 infoNum rfl (by decide) hown2 hr (ncells_one _) (by rw [maxLen_eq]; omega) (by omega) (Nat.le_trans hB1.size hG.size)
        refine wpOp_plain rfl rfl ?_
        refine wp_append 34 48 57 rfl rfl rfl hruna ?_
        rw [wpOps_cons]
        refine wpOp_plain rfl rfl ?_
        have bx : Blk x g5 57 [v] := Blk.ext (cs := [v]) bv hG
        have ba := bx.grown hgra (own_blk_ne hown2 bx (by decide))
        have cS := ba.cell 0
        have fS := ba.frozen 0
        obtain ⟨A', c', rfl⟩ : ∃ A' c', v' = .slice A' (5 + 4 * pre.length + 4) c' := by
          rcases howna.2 with ⟨_, h0⟩ | ⟨g', cap', cur, rfl, _⟩
          · omega
          · exact ⟨_, _, rfl⟩
        have hcl : ∀ (j : Nat) (o : Obj), v.ownBlock = some j → x.heap[j]? = some o → o.isCells = true := fun j o e ho => by
          rcases hown2.2 with ⟨rfl, _⟩ | ⟨g', cap', cur, rfl, _, hgb, _⟩
          · cases e
          · cases e
            rw [hgb] at ho
            cases ho
            rfl
        have hbl := ((hG.mono hB1.size).grown hgra (Nat.le_trans hB1.size hG.size) (fun g e => (hown2.lt g e).1)).setCell (p := ⟨g5, 0, none⟩) hg5l (.slice A' (5 + 4 * pre.length + 4) c')
        have hko := ((KeepsOthers.of_grownBy (grown_of_below hG none) (fun j o e => by cases e)).trans (KeepsOthers.of_grownBy hgra hcl)).trans (KeepsOthers.setCell wa ⟨g5, 0, none⟩ (.slice A' (5 + 4 * pre.length + 4) c'))
        have hfin := howna.kept (grownBy_setCell' wa g5 (.slice A' (5 + 4 * pre.length + 4) c')) (.inr (fun e => own_blk_ne howna ba (by decide) e.symm))
        have hbf := ba.set_ 0 (.slice A' (5 + 4 * pre.length + 4) c')
        have hcat : ncells (hS P ++ pS ((pre.map (·.1)).map (·.2))) ++ ncells (eS ⟨yk, yi, yx, ys⟩) = ncells (hS P ++ pS ((px.map (·.1)).map (·.2))) := by rw [hpS, ← List.append_assoc, ncells_app _ (eS _)]
        rw [hcat] at hfin
        have hct : 5 + 4 * px.length = 5 + 4 * pre.length + 4 := by rw [hpl]; omega
        clear hcl hgra howna hown2 hown bx kn hcat hpS hr
        refine Oper.wp_mono (K := fun _ w' => w' = wa.setCell ⟨g5, 0, none⟩ (.slice A' (5 + 4 * pre.length + 4) c')) ?_ ?_
        · rintro a9 _ rfl
          show KeepsFrom W0.heap.size W _ ∧ Below w.heap.size W _ ∧ (∃ v, Boxed _ g5 57 v ∧ World.ownsRow _ w.heap.size 55 2 v (5 + 4 * px.length) (ncells (hS P ++ pS ((px.map (·.1)).map (·.2)))) ∧ True) ∧ Below w.heap.size w _
          rw [hct]
          exact ⟨hko.from _, hbl, ⟨_, hbf, hfin, trivial⟩, hB1.trans hbl⟩
        · clear hko hbl hfin hbf
          simp only [Act.put]
          go_simp
    case done =>
      rintro D ys W hD hys ⟨⟨v, bv, hown, _⟩, hB1⟩ hK
      subst hT
      have hpx : ncells (hS P ++ pS ((ys.map (·.1)).map (·.2))) = ncells (hS P ++ pS l) := by rw [hys, idx_snd _ _ (Nat.le_refl _), List.take_length]
      rw [hpx] at hown
      have hlen : ys.length = l.length := by have := congrArg List.length hys; rw [List.length_map, idx_len] at this; exact this
      have hlp : P.l = l := by rw [HP.out]
      rw [hlp] at HC HE HL
      have hn : (hS P ++ pS l).length = 5 + 4 * l.length := by rw [List.length_append, pS_len]; rfl
      have hnm : Nums W W.heap.size v (hS P ++ pS l) := Nums.of_own (base := w.heap.size) (e := 55) (by rw [hn, ← hlen]; exact hown)
      have hpe := Pk.perr_of HC.out
      have hkp : Pk.packed (hS P ++ pS l) = Pk.recs (hS P ++ pS l) := by unfold Pk.packed; rw [if_pos hpe]
      obtain ⟨Av, cv, hv, _⟩ := hnm.open_
      generalize (hS P ++ pS l).length = m9 at hv
      subst hv
      have cS := bv.cell
      clear hown hpx hys
      gi_wp2_with fail
      refine ⟨trivial, ?_⟩
      refine (callsIn_wide.2 (pack_any _ _ _ _ hnm (Nat.le_refl _) (by omega) (zipS_lt HC.out))).mono ?_
      rintro e9 wp ⟨u, rfl, hownp, hbp⟩
      rw [hpe]
      rw [hkp] at hownp
      have hs : Bs wp wp.heap.size u (Pk.recs (hS P ++ pS l)) := Bs.of_own hownp
      have hDl : D < W.heap.size := (Array.getElem?_eq_some_iff.1 hK).1
      have hKp : wp.heap[D]? = some (.deferred (some [])) := (hbp.block D hDl).trans hK
      have hBp := hB1.trans (hbp.mono hB1.size)
      clear hownp hkp hpe hnm cS
      gi_wp2_with fail
      refine ⟨trivial, ?_⟩
      refine (callsIn_wide.2 (seal_any _ _ _ _ (hH.ext hBp) hs (Nat.le_refl _) (by rw [HL.out]; omega))).mono ?_
      rintro e9 ws ⟨u2, rfl, hown2, hb2⟩
      have hKs : ws.heap[D]? = some (.deferred (some [])) := (hb2.block D (Nat.lt_of_lt_of_le hDl hbp.size)).trans hKp
      have hBs := hBp.trans (hb2.mono hBp.size)
      have hfs := Bs.of_own (l := Crc.sealed (Pk.recs (hS P ++ pS l))) (by rw [Crc.length_sealed _ (by rw [HL.out]; omega)]; exact ownsRow_putObj hown2 (.deferred none) hKs rfl)
      gi_wp2_with fail
      refine ⟨by simp, .inl ⟨_, _, rfl, run_takeDeferred hKs, ?_⟩⟩
      exact ⟨.tuple #[u2, .int .i64 0], by simp [results, Tryd.results9, go_sem], u2, rfl, by rw [← HP.out, HE.out]; exact hfs, hBs.trans (belowK_b (w := w) (Nat.le_refl _) _ D _ _ (Nat.le_trans hx'.size hD) hKs rfl rfl)⟩
    case stop =>
      rintro D c9 pre W _ _ h _
      exact h.elim

theorem encodeS_yes (s n : Int) (e : Bool) (vl : Value) (l : List Sm.En) (w : World) (hl : Ents w w.heap.size vl l) (hg : Sm.Good ⟨s, n, e, l⟩) (hm : Sm.mayB ⟨s, n, e, l⟩ = true) (hH : Halves w) :
    Calls Tryd.prog 9 #[.agg #[.int .i64 s, .int .i64 n, .bool e, vl]] w (MadeS (Sm.smE ⟨s, n, e, l⟩) w) := by
  cases e with
  | true => exact callsIn_wide.1 (encodeS_true s n vl l w _ rfl hl hg hm hH)
  | false => exact callsIn_wide.1 (encodeS_false s n vl l w _ rfl hl hg hm hH)

set_option maxHeartbeats 1000000 in
theorem encodeS_no (s n : Int) (e : Bool) (vl : Value) (l : List Sm.En) (w : World) (hl : Ents w w.heap.size vl l) (hm : Sm.mayB ⟨s, n, e, l⟩ = false) :
    Calls Tryd.prog 9 #[.agg #[.int .i64 s, .int .i64 n, .bool e, vl]] w fun r w' => r = .returned (.tuple #[.slice none 0 0, .int .i64 1]) ∧ Below w.heap.size w w' := by
  obtain ⟨A, c, rfl, hlc, hcm, _⟩ := hl.open_
  have hb0 := (Below.refl w.heap.size w).alloc (Nat.le_refl _) (.cells #[.int .i64 s, .int .i64 n, .bool e, .slice A l.length c] 24)
  go_enter Tryd.func9, Tryd.ntmps9
  go_wp2_with fail
  refine (mayS_any s n e _ l _ ((hl.below hb0).more hb0.size)).mono ?_
  rintro e9 w1 ⟨rfl, hb1⟩
  rw [hm]
  go_wp2
  go_ret2
  exact ⟨rfl, hb0.trans (hb1.mono hb0.size)⟩

end Go.Proofs.YtieajlpkiheebaaDoor
