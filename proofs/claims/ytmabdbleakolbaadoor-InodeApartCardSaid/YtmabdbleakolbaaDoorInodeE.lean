/-
  The walk of inode.Decode. By an AI agent.
-/
import Derived.Test.YtmabdbleakolbaaDoorInodeD
namespace Go.Proofs.YtmabdbleakolbaaDoor
open Go.RowKit Go.ChangeShapes Go.WideShapes Go.ChangeAt

/-! ### Decode -/
theorem icells_one {x : Nd.In} : ∀ v ∈ icells x, v.oneCell' = true := by
  intro v hv
  unfold icells pcells at hv
  simp only [List.mem_cons, List.mem_flatMap, List.not_mem_nil, or_false] at hv
  rcases hv with rfl | rfl | rfl | rfl | rfl | ⟨p, _, rfl | rfl⟩ <;> rfl
theorem icells_turn {a : Act} {q q2 W : World} {d g g2 : Nat} {X0 : Nd.In} (hl : X0.ps.length = 9) (hd : (some 8 : Option Nat) = some d) (h1 : a.tmps.getD d undef = .pointer (some ⟨g, 0, none⟩)) (h2 : W.heap.size ≤ g) (h3 : Blk q g 27 (icells Nd.In.zero)) (e1 : a.tmps.getD 8 undef = .pointer (some ⟨g2, 0, none⟩)) (e2 : q2 = q.setCells g2 0 (icells X0)) :
    ∃ g, a.tmps.getD d undef = .pointer (some ⟨g, 0, none⟩) ∧ W.heap.size ≤ g ∧ Blk q2 g 27 (icells X0) := by
  injection hd with hd
  subst hd
  rw [h1] at e1
  injection e1 with e1
  injection e1 with e1
  injection e1 with e1
  subst e1
  refine ⟨g, h1, h2, ?_⟩
  have := h3.setCells (icells X0) 0 (by rw [icells_len _ hl, icells_len _ rfl]; omega)
  rw [spl_all _ _ (by rw [icells_len _ hl, icells_len _ rfl])] at this
  rw [e2]; exact this
theorem icells_spl (t l v s k : Int) (ps qs : List (Int × Nat)) (h : ps.length = 9) (h' : qs.length = 9) : spl (icells ⟨t, l, v, s, k, ps⟩) 5 (pcells qs) = icells ⟨t, l, v, s, k, qs⟩ := by
  unfold spl icells
  simp only [List.take_succ_cons, List.take_zero, pcells_len, h', List.drop_succ_cons, Nat.reduceMul, Nat.reduceAdd]
  rw [List.drop_eq_nil_of_le (by rw [pcells_len, h]; omega), List.append_nil]
  rfl
theorem uerr_7 (l : List UInt8) (h : l.length = 128) : Pk.uerr l [4, 1, 1, 1, 4, 6, 4] = 0 ∧ Pk.unpacked l [4, 1, 1, 1, 4, 6, 4] = [Pk.val (l.take 4), Pk.val ((l.drop 4).take 1), Pk.val ((l.drop 5).take 1), Pk.val ((l.drop 6).take 1), Pk.val ((l.drop 7).take 4), Pk.val ((l.drop 11).take 6), Pk.val ((l.drop 17).take 4)] := by
  have e : Pk.uerr l [4, 1, 1, 1, 4, 6, 4] = 0 := by
    unfold Pk.uerr
    rw [if_pos (by decide), if_neg (by rw [show Pk.need [4, 1, 1, 1, 4, 6, 4] = 21 from rfl]; omega)]
  refine ⟨e, ?_⟩
  unfold Pk.unpacked
  rw [if_pos e]
  simp only [Pk.nums, List.drop_drop]
  rfl
theorem us_seven {w : World} {B : Nat} {v : Value} {a b c d e f g : Nat} (h : Us w B v [a, b, c, d, e, f, g]) : ∃ bx ox cx, v = .slice (some ⟨bx, ox, none⟩) 7 cx ∧ 7 ≤ cx ∧ bx < B ∧ w.cell? ⟨bx, ox, none⟩ = some (.int .u64 (a : Int)) ∧ w.cell? ⟨bx, ox + 1, none⟩ = some (.int .u64 (b : Int)) ∧ w.cell? ⟨bx, ox + 2, none⟩ = some (.int .u64 (c : Int)) ∧ w.cell? ⟨bx, ox + 3, none⟩ = some (.int .u64 (d : Int)) ∧ w.cell? ⟨bx, ox + 4, none⟩ = some (.int .u64 (e : Int)) ∧ w.cell? ⟨bx, ox + 5, none⟩ = some (.int .u64 (f : Int)) ∧ w.cell? ⟨bx, ox + 6, none⟩ = some (.int .u64 (g : Int)) := by
  obtain ⟨A, cx, h1, h2, h3, h4, h5⟩ := h
  obtain ⟨bx, ox, rfl, hb, hc⟩ := h5 (by simp)
  exact ⟨bx, ox, cx, h1, h2, hb, hc 0 _ rfl, hc 1 _ rfl, hc 2 _ rfl, hc 3 _ rfl, hc 4 _ rfl, hc 5 _ rfl, hc 6 _ rfl⟩
theorem Bs.mid21 {w : World} {B ba oa c : Nat} {l : List UInt8} (h : Bs w B (.slice (some ⟨ba, oa, none⟩) l.length c) l) (hm : 124 ≤ l.length) (hc : 124 ≤ c) : Bs w B (.slice (some ⟨ba, oa + 21, none⟩) 103 (c - 21)) ((l.take 124).drop 21) := by
  have h1 := h.head hm
  have h2 : Bs w B (.slice (some ⟨ba, oa, none⟩) (l.take 124).length c) (l.take 124) := by rw [List.length_take, Nat.min_eq_left hm]; exact h1
  have := h2.tail (k := 21) (by rw [List.length_take]; omega)
  rw [List.length_take, Nat.min_eq_left hm, if_neg (by omega)] at this
  exact this
/-- What Decode leaves. -/
def DecR (i : Int) (l : List UInt8) (w : World) (e : Ending) (w' : World) : Prop := e = .returned (.tuple #[iagg (if Nd.dErr i l = 0 then Nd.inOf l else Nd.In.zero), .int .i64 (Nd.dErr i l : Nat)]) ∧ Below w.heap.size w w'
theorem DecR.no {i : Int} {l : List UInt8} {w w' : World} {n : Nat} {k : Int} (h : Nd.dErr i l = n) (hn : n ≠ 0) (hk : k = (n : Int)) (b : Below w.heap.size w w') : DecR i l w (.returned (.tuple #[iagg Nd.In.zero, .int .i64 k])) w' := by
  unfold DecR
  rw [h, if_neg hn, hk]
  exact ⟨rfl, b⟩
theorem DecR.yes {i : Int} {l : List UInt8} {w w' : World} (h : Nd.dErr i l = 0) (b : Below w.heap.size w w') : DecR i l w (.returned (.tuple #[iagg (Nd.inOf l), .int .i64 0])) w' := by
  unfold DecR
  rw [h, if_pos rfl]
  exact ⟨rfl, b⟩
set_option maxRecDepth 100000 in
set_option maxHeartbeats 4000000 in
theorem decode_any (i : Int) (w : World) (v : Value) (l : List UInt8) (hH : Halves w) (h : Bs w w.heap.size v l) :
    Calls Tryd.prog 12 #[.int .i64 i, v] w (DecR i l w) := by
  obtain ⟨A, c, rfl, hc, hm, hcellb⟩ := h.openD
  have HB := Lib.hid h
  have HCB := Lib.hid hcellb
  clear h hcellb
  go_enter Tryd.func12, Tryd.ntmps12
  go_wp2_with fail
  generalize hW : w.alloc (.cells _ 27) = W0
  have hk0 : Blk W0 w.heap.size 27 (icells Nd.In.zero) := by rw [← hW]; exact Blk.new w _ _
  have b0 : Below w.heap.size w W0 := by rw [← hW]; exact (Below.refl _ _).alloc (Nat.le_refl _) _
  clear hW
  obtain ⟨g0, hg0⟩ : ∃ g0, g0 = w.heap.size := ⟨_, rfl⟩
  rw [← hg0] at hk0 ⊢
  have hg1 : w.heap.size ≤ g0 := by omega
  have hg2 : g0 ≤ w.heap.size := by omega
  have HG0 := Lib.hid hg0
  clear hg0
  refine (isIno_any i _).mono ?_
  rintro e w' ⟨rfl, rfl⟩
  cases hi : Nd.inoB i with
  | false =>
    have HE := Lib.hid (show Nd.dErr i l = 1 by unfold Nd.dErr; rw [hi]; rfl)
    clear hi
    go_wp2_with (refine wpList_store_mid rfl 27 (.tmp 4) (.tmp 12) rfl g0 0 (icells Nd.In.zero).toArray rfl rfl (hk0.there 0 23 (by rw [icells_len _ rfl]; omega)) (by kernel_rfl) (all_oneCell_toArray icells_one) ?_)
    have hz := hk0.setCells (icells Nd.In.zero) 0 (by omega)
    rw [spl_all _ _ rfl] at hz
    have bz := below_setCells (o := 0) (vs := icells Nd.In.zero) b0 hg1
    refine bodyPost_ret (v := .tuple #[iagg Nd.In.zero, .int .i64 1]) (res_cell2 (icells Nd.In.zero) _ Tryd.results12 rfl hz.range Tryd.underlying27 rfl (infoI _ rfl) rfl) rfl ?_
    exact DecR.no HE.out (by decide) rfl bz
  | true =>
    have hi2 : 1 ≤ i ∧ i ≤ 39 := by unfold Nd.inoB at hi; rw [decide_eq_true_iff] at hi; exact hi
    go_wp2_with fail
    refine (held_any _ _ _ l (hH.ext b0) (HB.out.ext (Nat.le_refl _) b0) b0.size).mono ?_
    rintro e w1 ⟨rfl, b1⟩
    have hk1 := hk0.ext b1
    have c1 := b0.trans (b1.mono b0.size)
    clear hk0 b1 b0
    cases hh : Crc.held l with
    | false =>
      have HE := Lib.hid (show Nd.dErr i l = 5 by unfold Nd.dErr; rw [hi, hh]; rfl)
      clear hi hh
      go_wp2_with (refine wpList_store_mid rfl 27 (.tmp 4) (.tmp 16) rfl g0 0 (icells Nd.In.zero).toArray rfl rfl (hk1.there 0 23 (by rw [icells_len _ rfl]; omega)) (by kernel_rfl) (all_oneCell_toArray icells_one) ?_)
      have hz := hk1.setCells (icells Nd.In.zero) 0 (by omega)
      rw [spl_all _ _ rfl] at hz
      have bz := below_setCells (o := 0) (vs := icells Nd.In.zero) c1 hg1
      refine bodyPost_ret (v := .tuple #[iagg Nd.In.zero, .int .i64 5]) (res_cell2 (icells Nd.In.zero) _ Tryd.results12 rfl hz.range Tryd.underlying27 rfl (infoI _ rfl) rfl) rfl ?_
      exact DecR.no HE.out (by decide) rfl bz
    | true =>
      have hlen := Cd.held_len hh
      have HE := Lib.hid (show Nd.dErr i l = if Nd.hdB i l ∧ Pk.clr (l.take 124) (93 : Nat) ∧ Nd.mayB (Nd.inOf l) then 0 else 3 by unfold Nd.dErr; rw [hi, hh]; rfl)
      have hl1 : 128 ≤ l.length := by omega
      have hl2 : l.length ≤ 128 := by omega
      obtain ⟨ba, oa, rfl, hba, _⟩ := HCB.out 0 (by omega)
      clear HCB
      have HU := Lib.hid (uerr_7 l hlen)
      clear hlen hh hi
      go_wp2_with fail
      have b2 := (Below.refl w1.heap.size w1).alloc (Nat.le_refl _) (.cells #[.int .i64 4, .int .i64 1, .int .i64 1, .int .i64 1, .int .i64 4, .int .i64 6, .int .i64 4] 3)
      have hs1 := HB.out.ext (Nat.le_refl _) c1
      refine (unpack_any _ _ _ (w1.heap.size + 1) l [4, 1, 1, 1, 4, 6, 4] (Bs.more (Rds.alloc hs1 c1.size _) (by have := c1.size; omega)) (Is.lit .i64 w1 _ _ [4, 1, 1, 1, 4, 6, 4] 7 rfl rfl (by simp [maxLen])) (by simp) (by simp)).mono ?_
      rintro e W2 ⟨x, rfl, hown, hb2⟩
      rw [HU.out.1]
      rw [HU.out.2] at hown
      have d2 := b2.trans (hb2.mono b2.size)
      have hk2 := hk1.ext d2
      have c2 := c1.trans (d2.mono c1.size)
      have hsx : Us W2 W2.heap.size x _ := Us.of_own hown
      clear HU b2 hb2 hown d2 hk1 hs1
      have HH := Lib.hid (show Nd.hdB i l = decide (Pk.val (l.take 4) = 1768845156 ∧ ((Pk.val ((l.drop 4).take 1) : Nat) : Int) = i) from rfl)
      have HO := Lib.hid (show Nd.inOf l = ⟨((Pk.val ((l.drop 5).take 1) : Nat) : Int), ((Pk.val ((l.drop 6).take 1) : Nat) : Int), ((Pk.val ((l.drop 7).take 4) : Nat) : Int), ((Pk.val ((l.drop 11).take 6) : Nat) : Int), ((Pk.val ((l.drop 17).take 4) : Nat) : Int), Nd.ptrsOf (l.drop 21) 9⟩ from rfl)
      have v0 : Pk.val (l.take 4) < 4294967296 := Nd.val_lt_of l 4
      have v1 : Pk.val ((l.drop 4).take 1) < 256 := Nd.val_lt_of _ 1
      have v2 : Pk.val ((l.drop 5).take 1) < 256 := Nd.val_lt_of _ 1
      have v3 : Pk.val ((l.drop 6).take 1) < 256 := Nd.val_lt_of _ 1
      have v4 : Pk.val ((l.drop 7).take 4) < 4294967296 := Nd.val_lt_of _ 4
      have v5 : Pk.val ((l.drop 11).take 6) < 281474976710656 := Nd.val_lt_of _ 6
      have v6 : Pk.val ((l.drop 17).take 4) < 4294967296 := Nd.val_lt_of _ 4
      generalize Pk.val (l.take 4) = V0 at *
      generalize Pk.val ((l.drop 4).take 1) = V1 at *
      generalize Pk.val ((l.drop 5).take 1) = V2 at *
      generalize Pk.val ((l.drop 6).take 1) = V3 at *
      generalize Pk.val ((l.drop 7).take 4) = V4 at *
      generalize Pk.val ((l.drop 11).take 6) = V5 at *
      generalize Pk.val ((l.drop 17).take 4) = V6 at *
      obtain ⟨bx, ox, cx, rfl, hcx, hbx, hx0, hx1, hx2, hx3, hx4, hx5, hx6⟩ := us_seven hsx
      clear hsx
      obtain ⟨n, rfl⟩ := Int.eq_ofNat_of_zero_le (show 0 ≤ i by omega)
      by_cases h0 : V0 = 1768845156
      · have h0' : ((V0 : Int) != 1768845156) = false := by rw [bne_eq_false_iff_eq]; omega
        by_cases h1 : V1 = n
        · have h1' : ((V1 : Int) != (n : Int)) = false := by rw [bne_eq_false_iff_eq]; omega
          rw [HH.out, decide_eq_true (by omega)] at HE
          simp only [true_and] at HE
          clear HH h0 h1
          go_wp2_with fail
          obtain ⟨X0, hX0⟩ : ∃ X0 : Nd.In, X0 = ⟨(V2 : Int), (V3 : Int), (V4 : Int), (V5 : Int), (V6 : Int), List.replicate 9 (0, 0)⟩ := ⟨_, rfl⟩
          have hX0l : X0.ps.length = 9 := by rw [hX0]; rfl
          have HX0 := Lib.hid (show Value.agg (icells X0).toArray = Value.agg #[.int .i64 (V2 : Int), .int .i64 (V3 : Int), .int .i64 (V4 : Int), .int .i64 (V5 : Int), .int .i64 (V6 : Int), .int .i64 0, .int .u32 0, .int .i64 0, .int .u32 0, .int .i64 0, .int .u32 0, .int .i64 0, .int .u32 0, .int .i64 0, .int .u32 0, .int .i64 0, .int .u32 0, .int .i64 0, .int .u32 0, .int .i64 0, .int .u32 0, .int .i64 0, .int .u32 0] by rw [hX0]; rfl)
          have HSP := Lib.hid (show spl (icells X0) 5 (pcells (Nd.ptrsOf ((l.take 124).drop 21) 9)) = icells (Nd.inOf l) by
            rw [hX0, HO.out, ptrsOf_take l 124 9 21 (by omega)]
            exact icells_spl _ _ _ _ _ _ _ rfl (Nd.ptrsOf_len _ 9))
          have HXL := Lib.hid hX0l
          clear hX0 HO
          have hG0 : Below W2.heap.size W2 W2.drew := (Below.refl _ _).drew
          refine wp_region_turn 23 22 [(fun y_ _ => y_ = .slice (some ⟨bx, ox, none⟩) 7 cx),
            (fun y_ _ => y_ = .pointer (some ⟨bx, ox + 2, none⟩)),
            (fun y_ _ => y_ = .int .u64 (V2 : Int)),
            (fun y_ _ => y_ = .int .i64 (V2 : Int)),
            (fun y_ _ => y_ = .slice (some ⟨bx, ox, none⟩) 7 cx),
            (fun y_ _ => y_ = .pointer (some ⟨bx, ox + 3, none⟩)),
            (fun y_ _ => y_ = .int .u64 (V3 : Int)),
            (fun y_ _ => y_ = .int .i64 (V3 : Int)),
            (fun y_ _ => y_ = .slice (some ⟨bx, ox, none⟩) 7 cx),
            (fun y_ _ => y_ = .pointer (some ⟨bx, ox + 4, none⟩)),
            (fun y_ _ => y_ = .int .u64 (V4 : Int)),
            (fun y_ _ => y_ = .int .i64 (V4 : Int)),
            (fun y_ _ => y_ = .slice (some ⟨bx, ox, none⟩) 7 cx),
            (fun y_ _ => y_ = .pointer (some ⟨bx, ox + 5, none⟩)),
            (fun y_ _ => y_ = .int .u64 (V5 : Int)),
            (fun y_ _ => y_ = .int .i64 (V5 : Int)),
            (fun y_ _ => y_ = .slice (some ⟨bx, ox, none⟩) 7 cx),
            (fun y_ _ => y_ = .pointer (some ⟨bx, ox + 6, none⟩)),
            (fun y_ _ => y_ = .int .u64 (V6 : Int)),
            (fun y_ _ => y_ = .int .i64 (V6 : Int)),
            (fun y_ _ => y_ = .agg (icells X0).toArray),
            (fun u q => ∃ g, u = .pointer (some ⟨g, 0, none⟩) ∧ W2.heap.size ≤ g ∧ Blk q g 27 (icells Nd.In.zero)),
            (fun y_ _ => y_ = undef)]
            [(fun y_ _ => y_ = .slice (some ⟨bx, ox, none⟩) 7 cx),
            (fun y_ _ => y_ = .pointer (some ⟨bx, ox + 2, none⟩)),
            (fun y_ _ => y_ = .int .u64 (V2 : Int)),
            (fun y_ _ => y_ = .int .i64 (V2 : Int)),
            (fun y_ _ => y_ = .slice (some ⟨bx, ox, none⟩) 7 cx),
            (fun y_ _ => y_ = .pointer (some ⟨bx, ox + 3, none⟩)),
            (fun y_ _ => y_ = .int .u64 (V3 : Int)),
            (fun y_ _ => y_ = .int .i64 (V3 : Int)),
            (fun y_ _ => y_ = .slice (some ⟨bx, ox, none⟩) 7 cx),
            (fun y_ _ => y_ = .pointer (some ⟨bx, ox + 4, none⟩)),
            (fun y_ _ => y_ = .int .u64 (V4 : Int)),
            (fun y_ _ => y_ = .int .i64 (V4 : Int)),
            (fun y_ _ => y_ = .slice (some ⟨bx, ox, none⟩) 7 cx),
            (fun y_ _ => y_ = .pointer (some ⟨bx, ox + 5, none⟩)),
            (fun y_ _ => y_ = .int .u64 (V5 : Int)),
            (fun y_ _ => y_ = .int .i64 (V5 : Int)),
            (fun y_ _ => y_ = .slice (some ⟨bx, ox, none⟩) 7 cx),
            (fun y_ _ => y_ = .pointer (some ⟨bx, ox + 6, none⟩)),
            (fun y_ _ => y_ = .int .u64 (V6 : Int)),
            (fun y_ _ => y_ = .int .i64 (V6 : Int)),
            (fun y_ _ => y_ = .agg (icells X0).toArray),
            (fun u q => ∃ g, u = .pointer (some ⟨g, 0, none⟩) ∧ W2.heap.size ≤ g ∧ Blk q g 27 (icells X0)),
            (fun y_ _ => y_ = undef)]
            (fun (_ : Bool) (x : World) => Below W2.heap.size W2 x) (fun a q q2 => ∃ g, a.tmps.getD 8 undef = .pointer (some ⟨g, 0, none⟩) ∧ q2 = q.setCells g 0 (icells X0)) (by kernel_rfl) rfl (by decide) (by kernel_rfl) (by kernel_rfl) ?_ ?_ ?_ ?_ ?_ ?_
          · exact hG0
          · exact ⟨stab_eq _, stab_eq _, stab_eq _, stab_eq _, stab_eq _, stab_eq _, stab_eq _, stab_eq _, stab_eq _, stab_eq _, stab_eq _, stab_eq _, stab_eq _, stab_eq _, stab_eq _, stab_eq _, stab_eq _, stab_eq _, stab_eq _, stab_eq _, stab_eq _, fun _ _ _ ⟨g, h1, h2, h3⟩ hb => ⟨g, h1, h2, h3.ext hb⟩, stab_eq _, trivial⟩
          · exact ⟨stab_eq _, stab_eq _, stab_eq _, stab_eq _, stab_eq _, stab_eq _, stab_eq _, stab_eq _, stab_eq _, stab_eq _, stab_eq _, stab_eq _, stab_eq _, stab_eq _, stab_eq _, stab_eq _, stab_eq _, stab_eq _, stab_eq _, stab_eq _, stab_eq _, fun _ _ _ ⟨g, h1, h2, h3⟩ hb => ⟨g, h1, h2, h3.ext hb⟩, stab_eq _, trivial⟩
          · exact ⟨(fun _ _ _ _ _ h _ => h), (fun _ _ _ _ _ h _ => h), (fun _ _ _ _ _ h _ => h), (fun _ _ _ _ _ h _ => h), (fun _ _ _ _ _ h _ => h), (fun _ _ _ _ _ h _ => h), (fun _ _ _ _ _ h _ => h), (fun _ _ _ _ _ h _ => h), (fun _ _ _ _ _ h _ => h), (fun _ _ _ _ _ h _ => h), (fun _ _ _ _ _ h _ => h), (fun _ _ _ _ _ h _ => h), (fun _ _ _ _ _ h _ => h), (fun _ _ _ _ _ h _ => h), (fun _ _ _ _ _ h _ => h), (fun _ _ _ _ _ h _ => h), (fun _ _ _ _ _ h _ => h), (fun _ _ _ _ _ h _ => h), (fun _ _ _ _ _ h _ => h), (fun _ _ _ _ _ h _ => h), (fun _ _ _ _ _ h _ => h), (fun d hd a q q2 ⟨g, h1, h2, h3⟩ ⟨g2, e1, e2⟩ => icells_turn hX0l hd h1 h2 h3 e1 e2), trivial⟩
          · refine ⟨?_, ?_, ?_, ?_, ?_, ?_, ?_, ?_, ?_, ?_, ?_, ?_, ?_, ?_, ?_, ?_, ?_, ?_, ?_, ?_, ?_, ?_, ?_, trivial⟩
            · intro a x hG hd hs K hK
              replace hG : (fun (_ : Bool) (x : World) => Below W2.heap.size W2 x) false x := hG
              have h6 : a.tmps.getD 6 undef = .slice (some ⟨bx, ox, none⟩) 7 cx := hs 6 (by kernel_rfl)
              clear hd hs
              refine wpOp_plain rfl rfl ?_
              go_simp
              exact hK _ _ rfl hG (Below.refl _ _)
            · intro a x hG hd hs K hK
              replace hG : (fun (_ : Bool) (x : World) => Below W2.heap.size W2 x) false x := hG
              have h40 : a.tmps.getD 40 undef = .slice (some ⟨bx, ox, none⟩) 7 cx := hd 0 40 (by kernel_rfl)
              clear hd hs
              refine wpOp_plain rfl rfl ?_
              go_simp
              exact hK _ _ rfl hG (Below.refl _ _)
            · intro a x hG hd hs K hK
              replace hG : (fun (_ : Bool) (x : World) => Below W2.heap.size W2 x) false x := hG
              have h41 : a.tmps.getD 41 undef = .pointer (some ⟨bx, ox + 2, none⟩) := hd 1 41 (by kernel_rfl)
              clear hd hs
              refine wpOp_plain rfl rfl ?_
              have hc := (hG.cell (p := ⟨bx, ox + 2, none⟩) hbx).trans hx2
              go_simp
              exact hK _ _ rfl hG (Below.refl _ _)
            · intro a x hG hd hs K hK
              replace hG : (fun (_ : Bool) (x : World) => Below W2.heap.size W2 x) false x := hG
              have h42 : a.tmps.getD 42 undef = .int .u64 (V2 : Int) := hd 2 42 (by kernel_rfl)
              clear hd hs
              refine wpOp_plain rfl rfl ?_
              have hwr : IntKind.i64.wrap (V2 : Int) = (V2 : Int) := IntWalk.i64_in _ (by omega)
              go_simp
              exact hK _ _ rfl hG (Below.refl _ _)
            · intro a x hG hd hs K hK
              replace hG : (fun (_ : Bool) (x : World) => Below W2.heap.size W2 x) false x := hG
              have h6 : a.tmps.getD 6 undef = .slice (some ⟨bx, ox, none⟩) 7 cx := hs 6 (by kernel_rfl)
              clear hd hs
              refine wpOp_plain rfl rfl ?_
              go_simp
              exact hK _ _ rfl hG (Below.refl _ _)
            · intro a x hG hd hs K hK
              replace hG : (fun (_ : Bool) (x : World) => Below W2.heap.size W2 x) false x := hG
              have h44 : a.tmps.getD 44 undef = .slice (some ⟨bx, ox, none⟩) 7 cx := hd 4 44 (by kernel_rfl)
              clear hd hs
              refine wpOp_plain rfl rfl ?_
              go_simp
              exact hK _ _ rfl hG (Below.refl _ _)
            · intro a x hG hd hs K hK
              replace hG : (fun (_ : Bool) (x : World) => Below W2.heap.size W2 x) false x := hG
              have h45 : a.tmps.getD 45 undef = .pointer (some ⟨bx, ox + 3, none⟩) := hd 5 45 (by kernel_rfl)
              clear hd hs
              refine wpOp_plain rfl rfl ?_
              have hc := (hG.cell (p := ⟨bx, ox + 3, none⟩) hbx).trans hx3
              go_simp
              exact hK _ _ rfl hG (Below.refl _ _)
            · intro a x hG hd hs K hK
              replace hG : (fun (_ : Bool) (x : World) => Below W2.heap.size W2 x) false x := hG
              have h46 : a.tmps.getD 46 undef = .int .u64 (V3 : Int) := hd 6 46 (by kernel_rfl)
              clear hd hs
              refine wpOp_plain rfl rfl ?_
              have hwr : IntKind.i64.wrap (V3 : Int) = (V3 : Int) := IntWalk.i64_in _ (by omega)
              go_simp
              exact hK _ _ rfl hG (Below.refl _ _)
            · intro a x hG hd hs K hK
              replace hG : (fun (_ : Bool) (x : World) => Below W2.heap.size W2 x) false x := hG
              have h6 : a.tmps.getD 6 undef = .slice (some ⟨bx, ox, none⟩) 7 cx := hs 6 (by kernel_rfl)
              clear hd hs
              refine wpOp_plain rfl rfl ?_
              go_simp
              exact hK _ _ rfl hG (Below.refl _ _)
            · intro a x hG hd hs K hK
              replace hG : (fun (_ : Bool) (x : World) => Below W2.heap.size W2 x) false x := hG
              have h48 : a.tmps.getD 48 undef = .slice (some ⟨bx, ox, none⟩) 7 cx := hd 8 48 (by kernel_rfl)
              clear hd hs
              refine wpOp_plain rfl rfl ?_
              go_simp
              exact hK _ _ rfl hG (Below.refl _ _)
            · intro a x hG hd hs K hK
              replace hG : (fun (_ : Bool) (x : World) => Below W2.heap.size W2 x) false x := hG
              have h49 : a.tmps.getD 49 undef = .pointer (some ⟨bx, ox + 4, none⟩) := hd 9 49 (by kernel_rfl)
              clear hd hs
              refine wpOp_plain rfl rfl ?_
              have hc := (hG.cell (p := ⟨bx, ox + 4, none⟩) hbx).trans hx4
              go_simp
              exact hK _ _ rfl hG (Below.refl _ _)
            · intro a x hG hd hs K hK
              replace hG : (fun (_ : Bool) (x : World) => Below W2.heap.size W2 x) false x := hG
              have h50 : a.tmps.getD 50 undef = .int .u64 (V4 : Int) := hd 10 50 (by kernel_rfl)
              clear hd hs
              refine wpOp_plain rfl rfl ?_
              have hwr : IntKind.i64.wrap (V4 : Int) = (V4 : Int) := IntWalk.i64_in _ (by omega)
              go_simp
              exact hK _ _ rfl hG (Below.refl _ _)
            · intro a x hG hd hs K hK
              replace hG : (fun (_ : Bool) (x : World) => Below W2.heap.size W2 x) false x := hG
              have h6 : a.tmps.getD 6 undef = .slice (some ⟨bx, ox, none⟩) 7 cx := hs 6 (by kernel_rfl)
              clear hd hs
              refine wpOp_plain rfl rfl ?_
              go_simp
              exact hK _ _ rfl hG (Below.refl _ _)
            · intro a x hG hd hs K hK
              replace hG : (fun (_ : Bool) (x : World) => Below W2.heap.size W2 x) false x := hG
              have h52 : a.tmps.getD 52 undef = .slice (some ⟨bx, ox, none⟩) 7 cx := hd 12 52 (by kernel_rfl)
              clear hd hs
              refine wpOp_plain rfl rfl ?_
              go_simp
              exact hK _ _ rfl hG (Below.refl _ _)
            · intro a x hG hd hs K hK
              replace hG : (fun (_ : Bool) (x : World) => Below W2.heap.size W2 x) false x := hG
              have h53 : a.tmps.getD 53 undef = .pointer (some ⟨bx, ox + 5, none⟩) := hd 13 53 (by kernel_rfl)
              clear hd hs
              refine wpOp_plain rfl rfl ?_
              have hc := (hG.cell (p := ⟨bx, ox + 5, none⟩) hbx).trans hx5
              go_simp
              exact hK _ _ rfl hG (Below.refl _ _)
            · intro a x hG hd hs K hK
              replace hG : (fun (_ : Bool) (x : World) => Below W2.heap.size W2 x) false x := hG
              have h54 : a.tmps.getD 54 undef = .int .u64 (V5 : Int) := hd 14 54 (by kernel_rfl)
              clear hd hs
              refine wpOp_plain rfl rfl ?_
              have hwr : IntKind.i64.wrap (V5 : Int) = (V5 : Int) := IntWalk.i64_in _ (by omega)
              go_simp
              exact hK _ _ rfl hG (Below.refl _ _)
            · intro a x hG hd hs K hK
              replace hG : (fun (_ : Bool) (x : World) => Below W2.heap.size W2 x) false x := hG
              have h6 : a.tmps.getD 6 undef = .slice (some ⟨bx, ox, none⟩) 7 cx := hs 6 (by kernel_rfl)
              clear hd hs
              refine wpOp_plain rfl rfl ?_
              go_simp
              exact hK _ _ rfl hG (Below.refl _ _)
            · intro a x hG hd hs K hK
              replace hG : (fun (_ : Bool) (x : World) => Below W2.heap.size W2 x) false x := hG
              have h56 : a.tmps.getD 56 undef = .slice (some ⟨bx, ox, none⟩) 7 cx := hd 16 56 (by kernel_rfl)
              clear hd hs
              refine wpOp_plain rfl rfl ?_
              go_simp
              exact hK _ _ rfl hG (Below.refl _ _)
            · intro a x hG hd hs K hK
              replace hG : (fun (_ : Bool) (x : World) => Below W2.heap.size W2 x) false x := hG
              have h57 : a.tmps.getD 57 undef = .pointer (some ⟨bx, ox + 6, none⟩) := hd 17 57 (by kernel_rfl)
              clear hd hs
              refine wpOp_plain rfl rfl ?_
              have hc := (hG.cell (p := ⟨bx, ox + 6, none⟩) hbx).trans hx6
              go_simp
              exact hK _ _ rfl hG (Below.refl _ _)
            · intro a x hG hd hs K hK
              replace hG : (fun (_ : Bool) (x : World) => Below W2.heap.size W2 x) false x := hG
              have h58 : a.tmps.getD 58 undef = .int .u64 (V6 : Int) := hd 18 58 (by kernel_rfl)
              clear hd hs
              refine wpOp_plain rfl rfl ?_
              have hwr : IntKind.i64.wrap (V6 : Int) = (V6 : Int) := IntWalk.i64_in _ (by omega)
              go_simp
              exact hK _ _ rfl hG (Below.refl _ _)
            · intro a x hG hd hs K hK
              replace hG : (fun (_ : Bool) (x : World) => Below W2.heap.size W2 x) false x := hG
              have h43 : a.tmps.getD 43 undef = .int .i64 (V2 : Int) := hd 3 43 (by kernel_rfl)
              have h43o := getD_opt h43
              have h47 : a.tmps.getD 47 undef = .int .i64 (V3 : Int) := hd 7 47 (by kernel_rfl)
              have h47o := getD_opt h47
              have h51 : a.tmps.getD 51 undef = .int .i64 (V4 : Int) := hd 11 51 (by kernel_rfl)
              have h51o := getD_opt h51
              have h55 : a.tmps.getD 55 undef = .int .i64 (V5 : Int) := hd 15 55 (by kernel_rfl)
              have h55o := getD_opt h55
              have h59 : a.tmps.getD 59 undef = .int .i64 (V6 : Int) := hd 19 59 (by kernel_rfl)
              have h59o := getD_opt h59
              clear hd hs
              refine wpOp_plain rfl rfl ?_
              go_simp
              rw [← HX0.out]
              exact hK _ _ rfl hG (Below.refl _ _)
            · intro a x hG hd hs K hK
              replace hG : (fun (_ : Bool) (x : World) => Below W2.heap.size W2 x) false x := hG
              clear hd hs
              refine wpOp_plain rfl rfl ?_
              go_simp
              exact hK _ _ ⟨x.heap.size, rfl, hG.size, Blk.new x _ _⟩ (hG.alloc hG.size _) ((Below.refl _ _).alloc (Nat.le_refl _) _)
            · intro a x hG hd hs K hK
              replace hG : (fun (_ : Bool) (x : World) => Below W2.heap.size W2 x) false x := hG
              have h8 : (fun u q => ∃ g, u = .pointer (some ⟨g, 0, none⟩) ∧ W2.heap.size ≤ g ∧ Blk q g 27 (icells Nd.In.zero)) (a.tmps.getD 8 undef) x := hd 21 8 (by kernel_rfl)
              have h60 : a.tmps.getD 60 undef = .agg (icells X0).toArray := hd 20 60 (by kernel_rfl)
              clear hd hs
              refine wpOp_plain rfl rfl ?_
              obtain ⟨g, h1, h2, h3⟩ := h8
              refine wp_store_mid 27 (.tmp 8) (.tmp 60) rfl g 0 (icells X0).toArray h1 h60 (h3.there 0 _ ?_) ?_ (all_oneCell_toArray icells_one) ?_
              · rw [icells_len _ rfl]; simp [icells_len _ hX0l]
              · exact infoI X0 hX0l
              · exact hK _ _ rfl (below_setCells hG h2 0 _) ⟨g, h1, by simp⟩
          · intro x hG
            rintro _ rfl _ rfl _ rfl _ rfl _ rfl _ rfl _ rfl _ rfl _ rfl _ rfl _ rfl _ rfl _ rfl _ rfl _ rfl _ rfl _ rfl _ rfl _ rfl _ rfl _ rfl v21 hv21
            simp only [Act.put, List.setIfInBounds_toArray, List.set_cons_zero, List.set_cons_succ, REnd]
            try simp only [Exit.then]
            obtain ⟨g8, rfl, hg8, hk8⟩ := hv21
            obtain ⟨W3, rfl⟩ : ∃ W3, W3 = x := ⟨x, rfl⟩
            have hkz := hk2.ext hG
            have hg0lt := hk2.lt
            have c3 := c2.trans (hG.mono c2.size)
            have hsz2 := c2.size
            have hsz3 := hG.size
            have hg81 : w.heap.size ≤ g8 := by omega
            have hne : g0 < g8 := by omega
            have HBM := Lib.hid (Bs.mid21 (HB.out.ext (Nat.le_refl _) c3) (by omega) (by omega))
            have HOL := Lib.hid (show (Nd.inOf l).ps.length = 9 from Nd.ptrsOf_len _ 9)
            have HOL2 := Lib.hid (show 0 + (icells (Nd.inOf l)).toArray.size ≤ (icells Nd.In.zero).length by rw [List.size_toArray, icells_len _ HOL.out, icells_len _ rfl]; omega)
            clear hk2 HB HX0 hX0l hx0 hx1 hx2 hx3 hx4 hx5 hx6 hG c2 v0 v1 v2 v3 v4 v5 v6 h0' h1'
            have HD := Lib.hid (show Pk.clr ((l.take 124).drop 21) ((8 * 9 : Nat) : Int) = Pk.clr (l.take 124) (93 : Nat) from Nd.clr_drop (l.take 124) 21 72 (by rw [List.length_take]; omega))
            have g1 : (124 : Int) ≤ c := by omega
            have g2 : ¬ c = 21 := by omega
            go_wp2_with fail
            cases hcl : Pk.clr (l.take 124) (93 : Nat) with
            | false =>
              have HCL := Lib.hid (HD.out.trans hcl)
              rw [hcl] at HE
              simp only [Bool.false_eq_true, false_and, if_false] at HE
              clear hcl HD
              have hG0 : (fun (b : Bool) (x : World) => (b = false → Below W3.heap.size W3 x) ∧ (b = true → Blk x g8 27 (icells (Nd.inOf l)) ∧ Blk x g0 27 (icells Nd.In.zero) ∧ Below w.heap.size w x)) false W3.drew := ⟨fun _ => (Below.refl _ _).drew, fun h => by cases h⟩
              refine wp_region_tail 11 4 [(fun y_ _ => y_ = .slice (some ⟨ba, oa, none⟩) l.length c),
                (fun y_ _ => y_ = .slice (some ⟨ba, oa + 21, none⟩) 103 (c - 21)),
                (fun y_ _ => y_ = .pointer (some ⟨g8, 5, none⟩)),
                (fun y_ _ => y_ = .slice (some ⟨g8, 5, none⟩) 9 9),
                (fun y_ _ => y_ = .bool false),
                (fun y_ _ => y_ = .bool true),
                (fun y_ _ => y_ = .bool true),
                (fun y_ _ => y_ = undef),
                (fun y_ _ => y_ = undef),
                (fun y_ _ => y_ = undef),
                (fun y_ _ => y_ = .bool true)]
                (fun (b : Bool) (x : World) => (b = false → Below W3.heap.size W3 x) ∧ (b = true → Blk x g8 27 (icells (Nd.inOf l)) ∧ Blk x g0 27 (icells Nd.In.zero) ∧ Below w.heap.size w x)) (fun _ _ => True) (by kernel_rfl) rfl (by decide) (by kernel_rfl) (by kernel_rfl) ?_ ?_ ?_ ?_ ?_
              · exact hG0
              · exact ⟨stab_eq _, stab_eq _, stab_eq _, stab_eq _, stab_eq _, stab_eq _, stab_eq _, stab_eq _, stab_eq _, stab_eq _, stab_eq _, trivial⟩
              · exact ⟨stabE_eq _, stabE_eq _, stabE_eq _, stabE_eq _, trivial⟩
              · refine ⟨?_, ?_, ?_, ?_, ?_, ?_, ?_, ?_, ?_, ?_, ?_, trivial⟩
                · intro a x hG hd hs K hK
                  replace hG : (fun (b : Bool) (x : World) => (b = false → Below W3.heap.size W3 x) ∧ (b = true → Blk x g8 27 (icells (Nd.inOf l)) ∧ Blk x g0 27 (icells Nd.In.zero) ∧ Below w.heap.size w x)) false x := hG
                  have h1 : a.tmps.getD 1 undef = .slice (some ⟨ba, oa, none⟩) l.length c := hs 1 (by kernel_rfl)
                  clear hd hs
                  refine wpOp_plain rfl rfl ?_
                  go_simp
                  exact hK _ _ rfl hG (Below.refl _ _)
                · intro a x hG hd hs K hK
                  replace hG : (fun (b : Bool) (x : World) => (b = false → Below W3.heap.size W3 x) ∧ (b = true → Blk x g8 27 (icells (Nd.inOf l)) ∧ Blk x g0 27 (icells Nd.In.zero) ∧ Below w.heap.size w x)) false x := hG
                  have h61 : a.tmps.getD 61 undef = .slice (some ⟨ba, oa, none⟩) l.length c := hd 0 61 (by kernel_rfl)
                  clear hd hs
                  refine wpOp_plain rfl rfl ?_
                  go_simp
                  exact hK _ _ rfl hG (Below.refl _ _)
                · intro a x hG hd hs K hK
                  replace hG : (fun (b : Bool) (x : World) => (b = false → Below W3.heap.size W3 x) ∧ (b = true → Blk x g8 27 (icells (Nd.inOf l)) ∧ Blk x g0 27 (icells Nd.In.zero) ∧ Below w.heap.size w x)) false x := hG
                  have h8 : a.tmps.getD 8 undef = .pointer (some ⟨g8, 0, none⟩) := hs 8 (by kernel_rfl)
                  clear hd hs
                  refine wpOp_plain rfl rfl ?_
                  go_simp
                  exact hK _ _ rfl hG (Below.refl _ _)
                · intro a x hG hd hs K hK
                  replace hG : (fun (b : Bool) (x : World) => (b = false → Below W3.heap.size W3 x) ∧ (b = true → Blk x g8 27 (icells (Nd.inOf l)) ∧ Blk x g0 27 (icells Nd.In.zero) ∧ Below w.heap.size w x)) false x := hG
                  have h63 : a.tmps.getD 63 undef = .pointer (some ⟨g8, 5, none⟩) := hd 2 63 (by kernel_rfl)
                  clear hd hs
                  refine wpOp_plain rfl rfl ?_
                  go_simp
                  exact hK _ _ rfl hG (Below.refl _ _)
                · intro a x hG hd hs K hK
                  replace hG : (fun (b : Bool) (x : World) => (b = false → Below W3.heap.size W3 x) ∧ (b = true → Blk x g8 27 (icells (Nd.inOf l)) ∧ Blk x g0 27 (icells Nd.In.zero) ∧ Below w.heap.size w x)) false x := hG
                  have h62 : a.tmps.getD 62 undef = .slice (some ⟨ba, oa + 21, none⟩) 103 (c - 21) := hd 1 62 (by kernel_rfl)
                  have h64 : a.tmps.getD 64 undef = .slice (some ⟨g8, 5, none⟩) 9 9 := hd 3 64 (by kernel_rfl)
                  clear hd hs
                  refine wpOp_plain rfl rfl ?_
                  go_simp
                  have hb0 := hG.1 rfl
                  refine (pointers_any _ _ w.heap.size g8 5 9 9 ((l.take 124).drop 21) 27 _ (HBM.out.ext (by omega) hb0) hg81 (hk8.ext hb0) (by rw [icells_len _ HXL.out]; omega) (by simp only [List.length_drop, List.length_take]; omega) (by omega) (by omega)).mono ?_
                  rintro e w' ⟨rfl, hkb, hgr⟩
                  rw [HSP.out] at hkb
                  rw [HCL.out]
                  exact hK _ _ rfl ⟨(fun h => by cases h), fun _ => ⟨hkb, (hkz.ext hb0).grown hgr (fun e => by injection e with e; omega), below_of_grown (c3.trans (hb0.mono c3.size)) hgr hg81 (by have := hb0.size; have := c3.size; omega)⟩⟩ trivial
                · intro a x hG hd hs K hK
                  replace hG : (fun (b : Bool) (x : World) => (b = false → Below W3.heap.size W3 x) ∧ (b = true → Blk x g8 27 (icells (Nd.inOf l)) ∧ Blk x g0 27 (icells Nd.In.zero) ∧ Below w.heap.size w x)) true x := hG
                  have h65 : a.tmps.getD 65 undef = .bool false := hd 4 65 (by kernel_rfl)
                  clear hd hs
                  refine wpOp_plain rfl rfl ?_
                  go_simp
                  exact hK _ _ rfl hG (Below.refl _ _)
                · intro a x hG hd hs K hK
                  replace hG : (fun (b : Bool) (x : World) => (b = false → Below W3.heap.size W3 x) ∧ (b = true → Blk x g8 27 (icells (Nd.inOf l)) ∧ Blk x g0 27 (icells Nd.In.zero) ∧ Below w.heap.size w x)) true x := hG
                  have h66 : a.tmps.getD 66 undef = .bool true := hd 5 66 (by kernel_rfl)
                  clear hd hs
                  refine wpOp_plain rfl rfl ?_
                  go_simp
                  exact hK _ _ rfl hG (Below.refl _ _)
                · intro a x hG hd hs K hK
                  replace hG : (fun (b : Bool) (x : World) => (b = false → Below W3.heap.size W3 x) ∧ (b = true → Blk x g8 27 (icells (Nd.inOf l)) ∧ Blk x g0 27 (icells Nd.In.zero) ∧ Below w.heap.size w x)) true x := hG
                  have h8 : a.tmps.getD 8 undef = .pointer (some ⟨g8, 0, none⟩) := hs 8 (by kernel_rfl)
                  have h67 : a.tmps.getD 67 undef = .bool true := hd 6 67 (by kernel_rfl)
                  clear hd hs
                  refine wpOp_no rfl rfl rfl h67 ?_
                  exact hK _ _ rfl hG (Below.refl _ _)
                · intro a x hG hd hs K hK
                  replace hG : (fun (b : Bool) (x : World) => (b = false → Below W3.heap.size W3 x) ∧ (b = true → Blk x g8 27 (icells (Nd.inOf l)) ∧ Blk x g0 27 (icells Nd.In.zero) ∧ Below w.heap.size w x)) true x := hG
                  have h68 : a.tmps.getD 68 undef = undef := hd 7 68 (by kernel_rfl)
                  have h67 : a.tmps.getD 67 undef = .bool true := hd 6 67 (by kernel_rfl)
                  clear hd hs
                  refine wpOp_no rfl rfl rfl h67 ?_
                  exact hK _ _ rfl hG (Below.refl _ _)
                · intro a x hG hd hs K hK
                  replace hG : (fun (b : Bool) (x : World) => (b = false → Below W3.heap.size W3 x) ∧ (b = true → Blk x g8 27 (icells (Nd.inOf l)) ∧ Blk x g0 27 (icells Nd.In.zero) ∧ Below w.heap.size w x)) true x := hG
                  have h69 : a.tmps.getD 69 undef = undef := hd 8 69 (by kernel_rfl)
                  have h67 : a.tmps.getD 67 undef = .bool true := hd 6 67 (by kernel_rfl)
                  clear hd hs
                  refine wpOp_no rfl rfl rfl h67 ?_
                  exact hK _ _ rfl hG (Below.refl _ _)
                · intro a x hG hd hs K hK
                  replace hG : (fun (b : Bool) (x : World) => (b = false → Below W3.heap.size W3 x) ∧ (b = true → Blk x g8 27 (icells (Nd.inOf l)) ∧ Blk x g0 27 (icells Nd.In.zero) ∧ Below w.heap.size w x)) true x := hG
                  have h67 : a.tmps.getD 67 undef = .bool true := hd 6 67 (by kernel_rfl)
                  have h70 : a.tmps.getD 70 undef = undef := hd 9 70 (by kernel_rfl)
                  clear hd hs
                  refine wpOp_plain rfl rfl ?_
                  go_simp
                  exact hK _ _ rfl hG (Below.refl _ _)
              · intro x hG
                rintro _ rfl _ rfl _ rfl _ rfl _ rfl _ rfl _ rfl _ rfl _ rfl _ rfl _ rfl
                simp only [Act.put, List.setIfInBounds_toArray, List.set_cons_zero, List.set_cons_succ, REnd]
                try simp only [Exit.then]
                have hGq := hG.2 rfl
                clear hG
                go_wp2_with (refine wpList_store_mid rfl 27 (.tmp 4) (.tmp 72) rfl g0 0 (icells Nd.In.zero).toArray rfl rfl (hGq.2.1.there 0 23 (by rw [icells_len _ rfl]; omega)) (by kernel_rfl) (all_oneCell_toArray icells_one) ?_)
                have hz := hGq.2.1.setCells (icells Nd.In.zero) 0 (by omega)
                rw [spl_all _ _ rfl] at hz
                have bz := below_setCells (o := 0) (vs := icells Nd.In.zero) hGq.2.2 hg1
                refine bodyPost_ret (v := .tuple #[iagg Nd.In.zero, .int .i64 3]) (res_cell2 (icells Nd.In.zero) _ Tryd.results12 rfl hz.range Tryd.underlying27 rfl (infoI _ rfl) rfl) rfl ?_
                exact DecR.no HE.out (by decide) rfl bz
            | true =>
              have HCL := Lib.hid (HD.out.trans hcl)
              rw [hcl] at HE
              simp only [true_and] at HE
              clear hcl HD
              cases hmy : Nd.mayB (Nd.inOf l) with
              | false =>
                have HMY := Lib.hid hmy
                rw [hmy, if_neg (by decide)] at HE
                clear hmy
                have hG0 : (fun (b : Bool) (x : World) => (b = false → Below W3.heap.size W3 x) ∧ (b = true → Blk x g8 27 (icells (Nd.inOf l)) ∧ Blk x g0 27 (icells Nd.In.zero) ∧ Below w.heap.size w x)) false W3.drew := ⟨fun _ => (Below.refl _ _).drew, fun h => by cases h⟩
                refine wp_region_tail 11 4 [(fun y_ _ => y_ = .slice (some ⟨ba, oa, none⟩) l.length c),
                  (fun y_ _ => y_ = .slice (some ⟨ba, oa + 21, none⟩) 103 (c - 21)),
                  (fun y_ _ => y_ = .pointer (some ⟨g8, 5, none⟩)),
                  (fun y_ _ => y_ = .slice (some ⟨g8, 5, none⟩) 9 9),
                  (fun y_ _ => y_ = .bool true),
                  (fun y_ _ => y_ = .bool false),
                  (fun y_ _ => y_ = .bool false),
                  (fun y_ _ => y_ = iagg (Nd.inOf l)),
                  (fun y_ _ => y_ = .bool false),
                  (fun y_ _ => y_ = .bool true),
                  (fun y_ _ => y_ = .bool true)]
                  (fun (b : Bool) (x : World) => (b = false → Below W3.heap.size W3 x) ∧ (b = true → Blk x g8 27 (icells (Nd.inOf l)) ∧ Blk x g0 27 (icells Nd.In.zero) ∧ Below w.heap.size w x)) (fun _ _ => True) (by kernel_rfl) rfl (by decide) (by kernel_rfl) (by kernel_rfl) ?_ ?_ ?_ ?_ ?_
                · exact hG0
                · exact ⟨stab_eq _, stab_eq _, stab_eq _, stab_eq _, stab_eq _, stab_eq _, stab_eq _, stab_eq _, stab_eq _, stab_eq _, stab_eq _, trivial⟩
                · exact ⟨stabE_eq _, stabE_eq _, stabE_eq _, stabE_eq _, trivial⟩
                · refine ⟨?_, ?_, ?_, ?_, ?_, ?_, ?_, ?_, ?_, ?_, ?_, trivial⟩
                  · intro a x hG hd hs K hK
                    replace hG : (fun (b : Bool) (x : World) => (b = false → Below W3.heap.size W3 x) ∧ (b = true → Blk x g8 27 (icells (Nd.inOf l)) ∧ Blk x g0 27 (icells Nd.In.zero) ∧ Below w.heap.size w x)) false x := hG
                    have h1 : a.tmps.getD 1 undef = .slice (some ⟨ba, oa, none⟩) l.length c := hs 1 (by kernel_rfl)
                    clear hd hs
                    refine wpOp_plain rfl rfl ?_
                    go_simp
                    exact hK _ _ rfl hG (Below.refl _ _)
                  · intro a x hG hd hs K hK
                    replace hG : (fun (b : Bool) (x : World) => (b = false → Below W3.heap.size W3 x) ∧ (b = true → Blk x g8 27 (icells (Nd.inOf l)) ∧ Blk x g0 27 (icells Nd.In.zero) ∧ Below w.heap.size w x)) false x := hG
                    have h61 : a.tmps.getD 61 undef = .slice (some ⟨ba, oa, none⟩) l.length c := hd 0 61 (by kernel_rfl)
                    clear hd hs
                    refine wpOp_plain rfl rfl ?_
                    go_simp
                    exact hK _ _ rfl hG (Below.refl _ _)
                  · intro a x hG hd hs K hK
                    replace hG : (fun (b : Bool) (x : World) => (b = false → Below W3.heap.size W3 x) ∧ (b = true → Blk x g8 27 (icells (Nd.inOf l)) ∧ Blk x g0 27 (icells Nd.In.zero) ∧ Below w.heap.size w x)) false x := hG
                    have h8 : a.tmps.getD 8 undef = .pointer (some ⟨g8, 0, none⟩) := hs 8 (by kernel_rfl)
                    clear hd hs
                    refine wpOp_plain rfl rfl ?_
                    go_simp
                    exact hK _ _ rfl hG (Below.refl _ _)
                  · intro a x hG hd hs K hK
                    replace hG : (fun (b : Bool) (x : World) => (b = false → Below W3.heap.size W3 x) ∧ (b = true → Blk x g8 27 (icells (Nd.inOf l)) ∧ Blk x g0 27 (icells Nd.In.zero) ∧ Below w.heap.size w x)) false x := hG
                    have h63 : a.tmps.getD 63 undef = .pointer (some ⟨g8, 5, none⟩) := hd 2 63 (by kernel_rfl)
                    clear hd hs
                    refine wpOp_plain rfl rfl ?_
                    go_simp
                    exact hK _ _ rfl hG (Below.refl _ _)
                  · intro a x hG hd hs K hK
                    replace hG : (fun (b : Bool) (x : World) => (b = false → Below W3.heap.size W3 x) ∧ (b = true → Blk x g8 27 (icells (Nd.inOf l)) ∧ Blk x g0 27 (icells Nd.In.zero) ∧ Below w.heap.size w x)) false x := hG
                    have h62 : a.tmps.getD 62 undef = .slice (some ⟨ba, oa + 21, none⟩) 103 (c - 21) := hd 1 62 (by kernel_rfl)
                    have h64 : a.tmps.getD 64 undef = .slice (some ⟨g8, 5, none⟩) 9 9 := hd 3 64 (by kernel_rfl)
                    clear hd hs
                    refine wpOp_plain rfl rfl ?_
                    go_simp
                    have hb0 := hG.1 rfl
                    refine (pointers_any _ _ w.heap.size g8 5 9 9 ((l.take 124).drop 21) 27 _ (HBM.out.ext (by omega) hb0) hg81 (hk8.ext hb0) (by rw [icells_len _ HXL.out]; omega) (by simp only [List.length_drop, List.length_take]; omega) (by omega) (by omega)).mono ?_
                    rintro e w' ⟨rfl, hkb, hgr⟩
                    rw [HSP.out] at hkb
                    rw [HCL.out]
                    exact hK _ _ rfl ⟨(fun h => by cases h), fun _ => ⟨hkb, (hkz.ext hb0).grown hgr (fun e => by injection e with e; omega), below_of_grown (c3.trans (hb0.mono c3.size)) hgr hg81 (by have := hb0.size; have := c3.size; omega)⟩⟩ trivial
                  · intro a x hG hd hs K hK
                    replace hG : (fun (b : Bool) (x : World) => (b = false → Below W3.heap.size W3 x) ∧ (b = true → Blk x g8 27 (icells (Nd.inOf l)) ∧ Blk x g0 27 (icells Nd.In.zero) ∧ Below w.heap.size w x)) true x := hG
                    have h65 : a.tmps.getD 65 undef = .bool true := hd 4 65 (by kernel_rfl)
                    clear hd hs
                    refine wpOp_plain rfl rfl ?_
                    go_simp
                    exact hK _ _ rfl hG (Below.refl _ _)
                  · intro a x hG hd hs K hK
                    replace hG : (fun (b : Bool) (x : World) => (b = false → Below W3.heap.size W3 x) ∧ (b = true → Blk x g8 27 (icells (Nd.inOf l)) ∧ Blk x g0 27 (icells Nd.In.zero) ∧ Below w.heap.size w x)) true x := hG
                    have h66 : a.tmps.getD 66 undef = .bool false := hd 5 66 (by kernel_rfl)
                    clear hd hs
                    refine wpOp_plain rfl rfl ?_
                    go_simp
                    exact hK _ _ rfl hG (Below.refl _ _)
                  · intro a x hG hd hs K hK
                    replace hG : (fun (b : Bool) (x : World) => (b = false → Below W3.heap.size W3 x) ∧ (b = true → Blk x g8 27 (icells (Nd.inOf l)) ∧ Blk x g0 27 (icells Nd.In.zero) ∧ Below w.heap.size w x)) true x := hG
                    have h8 : a.tmps.getD 8 undef = .pointer (some ⟨g8, 0, none⟩) := hs 8 (by kernel_rfl)
                    have h67 : a.tmps.getD 67 undef = .bool false := hd 6 67 (by kernel_rfl)
                    clear hd hs
                    refine wpOp_yes rfl rfl rfl h67 ?_
                    have hgb := (hG.2 rfl).1
                    refine wp_load_mid 27 (.tmp 8) rfl g8 0 h8 (icells (Nd.inOf l)) _ hgb.range Tryd.underlying27 rfl (infoI _ HOL.out) ?_
                    exact hK _ _ rfl hG (Below.refl _ _)
                  · intro a x hG hd hs K hK
                    replace hG : (fun (b : Bool) (x : World) => (b = false → Below W3.heap.size W3 x) ∧ (b = true → Blk x g8 27 (icells (Nd.inOf l)) ∧ Blk x g0 27 (icells Nd.In.zero) ∧ Below w.heap.size w x)) true x := hG
                    have h68 : a.tmps.getD 68 undef = iagg (Nd.inOf l) := hd 7 68 (by kernel_rfl)
                    have h67 : a.tmps.getD 67 undef = .bool false := hd 6 67 (by kernel_rfl)
                    clear hd hs
                    refine wpOp_yes rfl rfl rfl h67 ?_
                    go_simp
                    refine (may_any (Nd.inOf l) _ HOL.out).mono ?_
                    rintro e w' ⟨rfl, hb⟩
                    rw [HMY.out]
                    exact hK _ _ rfl ⟨(fun h => by cases h), fun _ => ⟨(hG.2 rfl).1.ext hb, (hG.2 rfl).2.1.ext hb, (hG.2 rfl).2.2.trans (hb.mono (hG.2 rfl).2.2.size)⟩⟩ hb
                  · intro a x hG hd hs K hK
                    replace hG : (fun (b : Bool) (x : World) => (b = false → Below W3.heap.size W3 x) ∧ (b = true → Blk x g8 27 (icells (Nd.inOf l)) ∧ Blk x g0 27 (icells Nd.In.zero) ∧ Below w.heap.size w x)) true x := hG
                    have h69 : a.tmps.getD 69 undef = .bool false := hd 8 69 (by kernel_rfl)
                    have h67 : a.tmps.getD 67 undef = .bool false := hd 6 67 (by kernel_rfl)
                    clear hd hs
                    refine wpOp_yes rfl rfl rfl h67 ?_
                    go_simp
                    exact hK _ _ rfl hG (Below.refl _ _)
                  · intro a x hG hd hs K hK
                    replace hG : (fun (b : Bool) (x : World) => (b = false → Below W3.heap.size W3 x) ∧ (b = true → Blk x g8 27 (icells (Nd.inOf l)) ∧ Blk x g0 27 (icells Nd.In.zero) ∧ Below w.heap.size w x)) true x := hG
                    have h67 : a.tmps.getD 67 undef = .bool false := hd 6 67 (by kernel_rfl)
                    have h70 : a.tmps.getD 70 undef = .bool true := hd 9 70 (by kernel_rfl)
                    clear hd hs
                    refine wpOp_plain rfl rfl ?_
                    go_simp
                    exact hK _ _ rfl hG (Below.refl _ _)
                · intro x hG
                  rintro _ rfl _ rfl _ rfl _ rfl _ rfl _ rfl _ rfl _ rfl _ rfl _ rfl _ rfl
                  simp only [Act.put, List.setIfInBounds_toArray, List.set_cons_zero, List.set_cons_succ, REnd]
                  try simp only [Exit.then]
                  have hGq := hG.2 rfl
                  clear hG
                  go_wp2_with (refine wpList_store_mid rfl 27 (.tmp 4) (.tmp 72) rfl g0 0 (icells Nd.In.zero).toArray rfl rfl (hGq.2.1.there 0 23 (by rw [icells_len _ rfl]; omega)) (by kernel_rfl) (all_oneCell_toArray icells_one) ?_)
                  have hz := hGq.2.1.setCells (icells Nd.In.zero) 0 (by omega)
                  rw [spl_all _ _ rfl] at hz
                  have bz := below_setCells (o := 0) (vs := icells Nd.In.zero) hGq.2.2 hg1
                  refine bodyPost_ret (v := .tuple #[iagg Nd.In.zero, .int .i64 3]) (res_cell2 (icells Nd.In.zero) _ Tryd.results12 rfl hz.range Tryd.underlying27 rfl (infoI _ rfl) rfl) rfl ?_
                  exact DecR.no HE.out (by decide) rfl bz
              | true =>
                have HMY := Lib.hid hmy
                rw [hmy, if_pos rfl] at HE
                clear hmy
                have hG0 : (fun (b : Bool) (x : World) => (b = false → Below W3.heap.size W3 x) ∧ (b = true → Blk x g8 27 (icells (Nd.inOf l)) ∧ Blk x g0 27 (icells Nd.In.zero) ∧ Below w.heap.size w x)) false W3.drew := ⟨fun _ => (Below.refl _ _).drew, fun h => by cases h⟩
                refine wp_region_tail 11 4 [(fun y_ _ => y_ = .slice (some ⟨ba, oa, none⟩) l.length c),
                  (fun y_ _ => y_ = .slice (some ⟨ba, oa + 21, none⟩) 103 (c - 21)),
                  (fun y_ _ => y_ = .pointer (some ⟨g8, 5, none⟩)),
                  (fun y_ _ => y_ = .slice (some ⟨g8, 5, none⟩) 9 9),
                  (fun y_ _ => y_ = .bool true),
                  (fun y_ _ => y_ = .bool false),
                  (fun y_ _ => y_ = .bool false),
                  (fun y_ _ => y_ = iagg (Nd.inOf l)),
                  (fun y_ _ => y_ = .bool true),
                  (fun y_ _ => y_ = .bool false),
                  (fun y_ _ => y_ = .bool false)]
                  (fun (b : Bool) (x : World) => (b = false → Below W3.heap.size W3 x) ∧ (b = true → Blk x g8 27 (icells (Nd.inOf l)) ∧ Blk x g0 27 (icells Nd.In.zero) ∧ Below w.heap.size w x)) (fun _ _ => True) (by kernel_rfl) rfl (by decide) (by kernel_rfl) (by kernel_rfl) ?_ ?_ ?_ ?_ ?_
                · exact hG0
                · exact ⟨stab_eq _, stab_eq _, stab_eq _, stab_eq _, stab_eq _, stab_eq _, stab_eq _, stab_eq _, stab_eq _, stab_eq _, stab_eq _, trivial⟩
                · exact ⟨stabE_eq _, stabE_eq _, stabE_eq _, stabE_eq _, trivial⟩
                · refine ⟨?_, ?_, ?_, ?_, ?_, ?_, ?_, ?_, ?_, ?_, ?_, trivial⟩
                  · intro a x hG hd hs K hK
                    replace hG : (fun (b : Bool) (x : World) => (b = false → Below W3.heap.size W3 x) ∧ (b = true → Blk x g8 27 (icells (Nd.inOf l)) ∧ Blk x g0 27 (icells Nd.In.zero) ∧ Below w.heap.size w x)) false x := hG
                    have h1 : a.tmps.getD 1 undef = .slice (some ⟨ba, oa, none⟩) l.length c := hs 1 (by kernel_rfl)
                    clear hd hs
                    refine wpOp_plain rfl rfl ?_
                    go_simp
                    exact hK _ _ rfl hG (Below.refl _ _)
                  · intro a x hG hd hs K hK
                    replace hG : (fun (b : Bool) (x : World) => (b = false → Below W3.heap.size W3 x) ∧ (b = true → Blk x g8 27 (icells (Nd.inOf l)) ∧ Blk x g0 27 (icells Nd.In.zero) ∧ Below w.heap.size w x)) false x := hG
                    have h61 : a.tmps.getD 61 undef = .slice (some ⟨ba, oa, none⟩) l.length c := hd 0 61 (by kernel_rfl)
                    clear hd hs
                    refine wpOp_plain rfl rfl ?_
                    go_simp
                    exact hK _ _ rfl hG (Below.refl _ _)
                  · intro a x hG hd hs K hK
                    replace hG : (fun (b : Bool) (x : World) => (b = false → Below W3.heap.size W3 x) ∧ (b = true → Blk x g8 27 (icells (Nd.inOf l)) ∧ Blk x g0 27 (icells Nd.In.zero) ∧ Below w.heap.size w x)) false x := hG
                    have h8 : a.tmps.getD 8 undef = .pointer (some ⟨g8, 0, none⟩) := hs 8 (by kernel_rfl)
                    clear hd hs
                    refine wpOp_plain rfl rfl ?_
                    go_simp
                    exact hK _ _ rfl hG (Below.refl _ _)
                  · intro a x hG hd hs K hK
                    replace hG : (fun (b : Bool) (x : World) => (b = false → Below W3.heap.size W3 x) ∧ (b = true → Blk x g8 27 (icells (Nd.inOf l)) ∧ Blk x g0 27 (icells Nd.In.zero) ∧ Below w.heap.size w x)) false x := hG
                    have h63 : a.tmps.getD 63 undef = .pointer (some ⟨g8, 5, none⟩) := hd 2 63 (by kernel_rfl)
                    clear hd hs
                    refine wpOp_plain rfl rfl ?_
                    go_simp
                    exact hK _ _ rfl hG (Below.refl _ _)
                  · intro a x hG hd hs K hK
                    replace hG : (fun (b : Bool) (x : World) => (b = false → Below W3.heap.size W3 x) ∧ (b = true → Blk x g8 27 (icells (Nd.inOf l)) ∧ Blk x g0 27 (icells Nd.In.zero) ∧ Below w.heap.size w x)) false x := hG
                    have h62 : a.tmps.getD 62 undef = .slice (some ⟨ba, oa + 21, none⟩) 103 (c - 21) := hd 1 62 (by kernel_rfl)
                    have h64 : a.tmps.getD 64 undef = .slice (some ⟨g8, 5, none⟩) 9 9 := hd 3 64 (by kernel_rfl)
                    clear hd hs
                    refine wpOp_plain rfl rfl ?_
                    go_simp
                    have hb0 := hG.1 rfl
                    refine (pointers_any _ _ w.heap.size g8 5 9 9 ((l.take 124).drop 21) 27 _ (HBM.out.ext (by omega) hb0) hg81 (hk8.ext hb0) (by rw [icells_len _ HXL.out]; omega) (by simp only [List.length_drop, List.length_take]; omega) (by omega) (by omega)).mono ?_
                    rintro e w' ⟨rfl, hkb, hgr⟩
                    rw [HSP.out] at hkb
                    rw [HCL.out]
                    exact hK _ _ rfl ⟨(fun h => by cases h), fun _ => ⟨hkb, (hkz.ext hb0).grown hgr (fun e => by injection e with e; omega), below_of_grown (c3.trans (hb0.mono c3.size)) hgr hg81 (by have := hb0.size; have := c3.size; omega)⟩⟩ trivial
                  · intro a x hG hd hs K hK
                    replace hG : (fun (b : Bool) (x : World) => (b = false → Below W3.heap.size W3 x) ∧ (b = true → Blk x g8 27 (icells (Nd.inOf l)) ∧ Blk x g0 27 (icells Nd.In.zero) ∧ Below w.heap.size w x)) true x := hG
                    have h65 : a.tmps.getD 65 undef = .bool true := hd 4 65 (by kernel_rfl)
                    clear hd hs
                    refine wpOp_plain rfl rfl ?_
                    go_simp
                    exact hK _ _ rfl hG (Below.refl _ _)
                  · intro a x hG hd hs K hK
                    replace hG : (fun (b : Bool) (x : World) => (b = false → Below W3.heap.size W3 x) ∧ (b = true → Blk x g8 27 (icells (Nd.inOf l)) ∧ Blk x g0 27 (icells Nd.In.zero) ∧ Below w.heap.size w x)) true x := hG
                    have h66 : a.tmps.getD 66 undef = .bool false := hd 5 66 (by kernel_rfl)
                    clear hd hs
                    refine wpOp_plain rfl rfl ?_
                    go_simp
                    exact hK _ _ rfl hG (Below.refl _ _)
                  · intro a x hG hd hs K hK
                    replace hG : (fun (b : Bool) (x : World) => (b = false → Below W3.heap.size W3 x) ∧ (b = true → Blk x g8 27 (icells (Nd.inOf l)) ∧ Blk x g0 27 (icells Nd.In.zero) ∧ Below w.heap.size w x)) true x := hG
                    have h8 : a.tmps.getD 8 undef = .pointer (some ⟨g8, 0, none⟩) := hs 8 (by kernel_rfl)
                    have h67 : a.tmps.getD 67 undef = .bool false := hd 6 67 (by kernel_rfl)
                    clear hd hs
                    refine wpOp_yes rfl rfl rfl h67 ?_
                    have hgb := (hG.2 rfl).1
                    refine wp_load_mid 27 (.tmp 8) rfl g8 0 h8 (icells (Nd.inOf l)) _ hgb.range Tryd.underlying27 rfl (infoI _ HOL.out) ?_
                    exact hK _ _ rfl hG (Below.refl _ _)
                  · intro a x hG hd hs K hK
                    replace hG : (fun (b : Bool) (x : World) => (b = false → Below W3.heap.size W3 x) ∧ (b = true → Blk x g8 27 (icells (Nd.inOf l)) ∧ Blk x g0 27 (icells Nd.In.zero) ∧ Below w.heap.size w x)) true x := hG
                    have h68 : a.tmps.getD 68 undef = iagg (Nd.inOf l) := hd 7 68 (by kernel_rfl)
                    have h67 : a.tmps.getD 67 undef = .bool false := hd 6 67 (by kernel_rfl)
                    clear hd hs
                    refine wpOp_yes rfl rfl rfl h67 ?_
                    go_simp
                    refine (may_any (Nd.inOf l) _ HOL.out).mono ?_
                    rintro e w' ⟨rfl, hb⟩
                    rw [HMY.out]
                    exact hK _ _ rfl ⟨(fun h => by cases h), fun _ => ⟨(hG.2 rfl).1.ext hb, (hG.2 rfl).2.1.ext hb, (hG.2 rfl).2.2.trans (hb.mono (hG.2 rfl).2.2.size)⟩⟩ hb
                  · intro a x hG hd hs K hK
                    replace hG : (fun (b : Bool) (x : World) => (b = false → Below W3.heap.size W3 x) ∧ (b = true → Blk x g8 27 (icells (Nd.inOf l)) ∧ Blk x g0 27 (icells Nd.In.zero) ∧ Below w.heap.size w x)) true x := hG
                    have h69 : a.tmps.getD 69 undef = .bool true := hd 8 69 (by kernel_rfl)
                    have h67 : a.tmps.getD 67 undef = .bool false := hd 6 67 (by kernel_rfl)
                    clear hd hs
                    refine wpOp_yes rfl rfl rfl h67 ?_
                    go_simp
                    exact hK _ _ rfl hG (Below.refl _ _)
                  · intro a x hG hd hs K hK
                    replace hG : (fun (b : Bool) (x : World) => (b = false → Below W3.heap.size W3 x) ∧ (b = true → Blk x g8 27 (icells (Nd.inOf l)) ∧ Blk x g0 27 (icells Nd.In.zero) ∧ Below w.heap.size w x)) true x := hG
                    have h67 : a.tmps.getD 67 undef = .bool false := hd 6 67 (by kernel_rfl)
                    have h70 : a.tmps.getD 70 undef = .bool false := hd 9 70 (by kernel_rfl)
                    clear hd hs
                    refine wpOp_plain rfl rfl ?_
                    go_simp
                    exact hK _ _ rfl hG (Below.refl _ _)
                · intro x hG
                  rintro _ rfl _ rfl _ rfl _ rfl _ rfl _ rfl _ rfl _ rfl _ rfl _ rfl _ rfl
                  simp only [Act.put, List.setIfInBounds_toArray, List.set_cons_zero, List.set_cons_succ, REnd]
                  try simp only [Exit.then]
                  have hGq := hG.2 rfl
                  clear hG
                  go_wp2_with (first | refine wpList_load_at 27 (.tmp 8) rfl rfl g8 0 rfl (icells (Nd.inOf l)) _ hGq.1.range Tryd.underlying27 rfl (infoI _ HOL.out) ?_ | refine wpList_store_mid rfl 27 (.tmp 4) (.tmp 73) rfl g0 0 (icells (Nd.inOf l)).toArray rfl rfl (hGq.2.1.there 0 _ HOL2.out) (infoI _ HOL.out) (all_oneCell_toArray icells_one) ?_)
                  have hz := hGq.2.1.setCells (icells (Nd.inOf l)) 0 (by rw [icells_len _ HOL.out, icells_len _ rfl]; omega)
                  rw [spl_all _ _ (by rw [icells_len _ HOL.out, icells_len _ rfl])] at hz
                  have bz := below_setCells (o := 0) (vs := icells (Nd.inOf l)) hGq.2.2 hg1
                  refine bodyPost_ret (v := .tuple #[iagg (Nd.inOf l), .int .i64 0]) (res_cell2 (icells (Nd.inOf l)) _ Tryd.results12 rfl hz.range Tryd.underlying27 rfl (infoI _ HOL.out) rfl) rfl ?_
                  exact DecR.yes HE.out bz
        · have h1' : ((V1 : Int) != (n : Int)) = true := by rw [bne_iff_ne]; omega
          rw [HH.out, decide_eq_false (by omega)] at HE
          simp only [Bool.false_eq_true, false_and, if_false] at HE
          clear HH h0 h1 HO HB
          go_wp2_with (refine wpList_store_mid rfl 27 (.tmp 4) (.tmp 39) rfl g0 0 (icells Nd.In.zero).toArray rfl rfl (hk2.there 0 23 (by rw [icells_len _ rfl]; omega)) (by kernel_rfl) (all_oneCell_toArray icells_one) ?_)
          have hz := hk2.setCells (icells Nd.In.zero) 0 (by omega)
          rw [spl_all _ _ rfl] at hz
          have bz := below_setCells (o := 0) (vs := icells Nd.In.zero) c2 hg1
          refine bodyPost_ret (v := .tuple #[iagg Nd.In.zero, .int .i64 3]) (res_cell2 (icells Nd.In.zero) _ Tryd.results12 rfl hz.range Tryd.underlying27 rfl (infoI _ rfl) rfl) rfl ?_
          exact DecR.no HE.out (by decide) rfl bz
      · have h0' : ((V0 : Int) != 1768845156) = true := by rw [bne_iff_ne]; omega
        rw [HH.out, decide_eq_false (by omega)] at HE
        simp only [Bool.false_eq_true, false_and, if_false] at HE
        clear HH h0 HO HB
        go_wp2_with (refine wpList_store_mid rfl 27 (.tmp 4) (.tmp 39) rfl g0 0 (icells Nd.In.zero).toArray rfl rfl (hk2.there 0 23 (by rw [icells_len _ rfl]; omega)) (by kernel_rfl) (all_oneCell_toArray icells_one) ?_)
        have hz := hk2.setCells (icells Nd.In.zero) 0 (by omega)
        rw [spl_all _ _ rfl] at hz
        have bz := below_setCells (o := 0) (vs := icells Nd.In.zero) c2 hg1
        refine bodyPost_ret (v := .tuple #[iagg Nd.In.zero, .int .i64 3]) (res_cell2 (icells Nd.In.zero) _ Tryd.results12 rfl hz.range Tryd.underlying27 rfl (infoI _ rfl) rfl) rfl ?_
        exact DecR.no HE.out (by decide) rfl bz
end Go.Proofs.YtmabdbleakolbaaDoor
