/-
  The walks of Changed, There, of the document's Same on lists of numbers, and of the statements' awake. By an AI agent.
-/
import Derived.Test.YtpgibmffgliibaaImF
namespace Go.Proofs.Ytpgibmffgliibaa
open Go.RowKit Go.ChangeShapes Go.WideShapes Go.ChangeAt
open Im (Sl)

theorem infoInt : (Try.prog.info? 3).map (fun i => (i.zero, i.size, i.bytes)) = some (some (.int .i64 0), 1, 8) := by kernel_rfl
def nums (l : List Nat) : List Int := l.map fun k : Nat => (k : Int)
def icl (ws : List Int) : List Value := ws.map fun c => .int .i64 c
theorem icl_snoc (ws : List Int) (c : Int) : icl (ws ++ [c]) = icl ws ++ [.int .i64 c] := by unfold icl; rw [List.map_append]; rfl
theorem icl_len (ws : List Int) : (icl ws).length = ws.length := by unfold icl; simp
/-- What a range over the numbers ahead of j has collected. -/
def coll (p : Nat → Bool) (j : Nat) : List Int := nums ((List.range j).filter p)
theorem coll_yes {p : Nat → Bool} {j : Nat} (h : p j = true) : coll p (j + 1) = coll p j ++ [(j : Int)] := by
  unfold coll nums
  rw [List.range_succ, List.filter_append, List.map_append]
  simp [h]
theorem coll_no {p : Nat → Bool} {j : Nat} (h : p j = false) : coll p (j + 1) = coll p j := by
  unfold coll nums
  rw [List.range_succ, List.filter_append, List.map_append]
  simp [h]
theorem coll_len (p : Nat → Bool) (j : Nat) : (coll p j).length ≤ j := by
  unfold coll nums
  rw [List.length_map]
  have := List.length_filter_le p (List.range j)
  rw [List.length_range] at this
  exact this
theorem is_of_own {w : World} {base : Nat} {v : Value} {n : Nat} {l : List Int} {e : TypeId} (h : w.ownsRow base e 1 v n (icl l)) (hn : n = l.length) : Is .i64 w w.heap.size v l := by subst hn; exact Rds.of_own h
def ListR (l : List Int) (w : World) (e : Ending) (w' : World) : Prop := ∃ u, e = .returned u ∧ Is .i64 w' w'.heap.size u l ∧ Below w.heap.size w w'
theorem run_eql_bk (x y : List Sl) (hx : x.length = 10) (hy : y.length = 10) (b : Bool) (hb : b = decide (x = y)) (W : World) :
    (binOp .eql 63 (.agg (mcells x).toArray) (.agg (mcells y).toArray)).run Try.prog W = .ok (.bool b) W ∧ (binOp .neq 63 (.agg (mcells x).toArray) (.agg (mcells y).toArray)).run Try.prog W = .ok (.bool (!b)) W := by
  refine run_eql_cells 5 (by kernel_rfl) (by decide) (by kernel_rfl) _ _ (by rw [mcells_len, hx]; kernel_rfl) (by rw [mcells_len, hy]; kernel_rfl) (kin_mcells x y) W b ?_
  rw [hb, decide_eq_true_iff]
  exact ⟨fun h => by rw [h], mcells_inj x y⟩
theorem idx_im (m : List Sl) (hm : m.length = 40) (k : Nat) (hk : k < 40) (W : World) :
    (Instr.index 28 (.agg (mcells m).toArray) (.int .i64 (k : Int))).run Try.prog W = .ok (sagg (m.getD k Sl.zero)) W := by
  obtain ⟨i, hi⟩ : ∃ i, Try.prog.info? 26 = some i := Option.isSome_iff_exists.1 (by kernel_rfl)
  have := run_idx 4 Try.underlying28 chkSlot hi (mcells m) k hk (by rw [cellsSlot, mcells_len]; omega) _ rfl W
  rw [this, cellsSlot, Nat.mul_comm, ← scells_mid m k (by omega)]
  unfold mkV
  rw [Try.underlying26]
  rfl
theorem eqGuardB : Try.prog.eqGuardType Try.prog.depth 63 = false := by kernel_rfl
theorem changed_no1 {a b : List Sl} (h : Im.mayB a = false) : nums (Im.changed a b) = [] := by unfold Im.changed; rw [h]; rfl
theorem changed_no2 {a b : List Sl} (h : Im.mayB b = false) : nums (Im.changed a b) = [] := by unfold Im.changed; rw [h, Bool.and_false]; rfl
theorem changed_yes {a b : List Sl} (h : Im.mayB a = true) (h2 : Im.mayB b = true) : nums (Im.changed a b) = coll (fun k => decide (Im.blk a k ≠ Im.blk b k)) 4 := by unfold Im.changed; rw [h, h2]; rfl
theorem there_no {m : List Sl} (h : Im.mayB m = false) : nums (Im.there m) = [] := by unfold Im.there; rw [h]; rfl
theorem there_yes {m : List Sl} (h : Im.mayB m = true) : nums (Im.there m) = coll (fun i => decide (0 < (m.getD i Sl.zero).a)) 40 := by unfold Im.there; rw [h]; rfl
set_option maxRecDepth 100000 in
set_option maxHeartbeats 4000000 in
theorem changed_any (mx my : List Sl) (w : World) (hx : mx.length = 40) (hy : my.length = 40) :
    Calls Try.prog 16 #[magg mx, magg my] w (ListR (nums (Im.changed mx my)) w) := by
  unfold magg
  go_enter Try.func16, Try.ntmps16
  go_upto_region 1 with (fail)
  have i0 := Blk.new w 28 (mcells mx).toArray
  have c0 := (Below.refl w.heap.size w).alloc (Nat.le_refl _) (.cells (mcells mx).toArray 28)
  change Blk _ _ _ (mcells mx) at i0
  have hs0 : (w.alloc (.cells (mcells mx).toArray 28)).heap.size = w.heap.size + 1 := World.size_alloc _ _
  generalize w.alloc (.cells (mcells mx).toArray 28) = w0 at *
  obtain ⟨g0, hg0⟩ : ∃ g, g = w.heap.size := ⟨_, rfl⟩
  rw [← hg0] at i0 hs0 ⊢
  have j1 := Blk.new w0 28 (mcells my).toArray
  have i1 := i0.alloc (.cells (mcells my).toArray 28)
  have c1 := c0.alloc c0.size (.cells (mcells my).toArray 28)
  change Blk _ _ _ (mcells my) at j1
  rw [hs0] at j1
  obtain ⟨g1, hg1⟩ : ∃ g, g = g0 + 1 := ⟨_, rfl⟩
  rw [← hg1] at j1 ⊢
  generalize w0.alloc (.cells (mcells my).toArray 28) = w1 at *
  clear hg0 hs0 hg1 i0 c0
  have hr := i1.range
  go_wp2_with (refine wpList_load_at 28 (.tmp 2) rfl rfl g0 0 rfl (mcells mx) _ hr Try.underlying28 rfl (infoM _ hx) ?_)
  refine (mayM_any mx _ hx).mono ?_
  rintro e w2 ⟨rfl, b2⟩
  have i2 := i1.ext b2
  have j2 := j1.ext b2
  have c2 := c1.trans (b2.mono c1.size)
  clear hr i1 j1 c1 b2
  cases hma : Im.mayB mx with
  | false =>
    have HE := Lib.hid (changed_no1 (b := my) hma)
    clear hma
    go_wp2
    go_ret
    exact ⟨_, rfl, by rw [HE.out]; exact Rds.nil_ _ _ _, c2⟩
  | true =>
    have HMA := Lib.hid hma
    clear hma
    have hr := j2.range
    go_wp2_with (refine wpList_load_at 28 (.tmp 3) rfl rfl g1 0 rfl (mcells my) _ hr Try.underlying28 rfl (infoM _ hy) ?_)
    refine (mayM_any my _ hy).mono ?_
    rintro e w3 ⟨rfl, b3⟩
    have i3 := i2.ext b3
    have j3 := j2.ext b3
    have c3 := c2.trans (b3.mono c2.size)
    clear hr i2 j2 c2 b3
    cases hmb : Im.mayB my with
    | false =>
      have HE := Lib.hid (changed_no2 (a := mx) hmb)
      clear hmb
      go_wp2
      go_ret
      exact ⟨_, rfl, by rw [HE.out]; exact Rds.nil_ _ _ _, c3⟩
    | true =>
      have HE := Lib.hid (changed_yes HMA.out hmb)
      clear hmb
      obtain ⟨p, hp⟩ : ∃ p : Nat → Bool, p = fun k => decide (Im.blk mx k ≠ Im.blk my k) := ⟨_, rfl⟩
      rw [← hp] at HE
      have HP := Lib.hid hp
      clear hp
      go_wp2
      go_loopw [5, 15] (fun l i wr => ∃ k : Nat, k ≤ 4 ∧ i = .int .i64 k ∧ wr.ownsRow w.heap.size 3 1 l (coll p k).length (icl (coll p k)) ∧ Blk wr g0 28 (mcells mx) ∧ Blk wr g1 28 (mcells my) ∧ Below w.heap.size w wr) (fun _ i _ => 4 - (intOf i).toNat)
      case atStart => exact ⟨0, by omega, rfl, World.ownsRow_nil _ _ _ _, i3, j3, c3⟩
      case round =>
        obtain ⟨k, hk, rfl, hown, i4, j4, c4⟩ := hrel
        clear i3 j3 c3
        by_cases hlt : k < 4
        · have hpk : p k = !decide (Im.blk mx k = Im.blk my k) := by rw [HP.out]; simp
          have hbl := fun W => (run_eql_bk (Im.blk mx k) (Im.blk my k) (Im.blk_len hx hlt) (Im.blk_len hy hlt) _ rfl W).2
          rw [← hpk] at hbl
          have HBL := Lib.hid hbl
          have hcl := coll_len p k
          have HCY := Lib.hid (fun h => coll_yes (p := p) (j := k) h)
          have HCN := Lib.hid (fun h => coll_no (p := p) (j := k) h)
          clear hbl hpk
          generalize hpb : p k = pb at *
          have HPB := Lib.hid hpb
          clear hpb
          go_upto_region 7 with (fail)
          have hG0 : Below wr.heap.size wr wr.drew := (Below.refl _ _).drew
          refine wp_region_list 7 [(fun y_ _ => y_ = magg mx),
            (fun y_ _ => y_ = .int .i64 (k : Int)),
            (fun y_ _ => y_ = magg (Im.blk mx k)),
            (fun y_ _ => y_ = magg my),
            (fun y_ _ => y_ = .int .i64 (k : Int)),
            (fun y_ _ => y_ = magg (Im.blk my k)),
            (fun y_ _ => y_ = .bool pb)]
            (fun x => Below wr.heap.size wr x) (by kernel_rfl) rfl (by kernel_rfl) ?_ ?_ ?_ ?_
          · exact hG0
          · exact ⟨stab_eq _, stab_eq _, stab_eq _, stab_eq _, stab_eq _, stab_eq _, stab_eq _, trivial⟩
          · refine ⟨?_, ?_, ?_, ?_, ?_, ?_, ?_, trivial⟩
            · intro a x hG hd hs K hK
              have h2 : a.tmps.getD 2 undef = .pointer (some ⟨g0, 0, none⟩) := hs 2 (by kernel_rfl)
              clear hd hs
              refine wpOp_plain rfl rfl ?_
              refine wp_load_mid 28 (.tmp 2) rfl g0 0 h2 (mcells mx) _ (i4.ext hG).range Try.underlying28 rfl (infoM _ hx) ?_
              exact hK _ _ rfl hG (Below.refl _ _)
            · intro a x hG hd hs K hK
              have h6 : a.tmps.getD 6 undef = .int .i64 (k : Int) := hs 6 (by kernel_rfl)
              clear hd hs
              refine wpOp_plain rfl rfl ?_
              go_simp
              exact hK _ _ rfl hG (Below.refl _ _)
            · intro a x hG hd hs K hK
              have h18 : a.tmps.getD 18 undef = magg mx := hd 0 18 (by kernel_rfl)
              have h19 : a.tmps.getD 19 undef = .int .i64 (k : Int) := hd 1 19 (by kernel_rfl)
              clear hd hs
              refine wpOp_plain rfl rfl ?_
              go_simp
              refine (slots_any mx k _ hx hlt).mono ?_
              rintro e w' ⟨rfl, b9⟩
              exact hK _ _ rfl (hG.trans (b9.mono hG.size)) b9
            · intro a x hG hd hs K hK
              have h3 : a.tmps.getD 3 undef = .pointer (some ⟨g1, 0, none⟩) := hs 3 (by kernel_rfl)
              clear hd hs
              refine wpOp_plain rfl rfl ?_
              refine wp_load_mid 28 (.tmp 3) rfl g1 0 h3 (mcells my) _ (j4.ext hG).range Try.underlying28 rfl (infoM _ hy) ?_
              exact hK _ _ rfl hG (Below.refl _ _)
            · intro a x hG hd hs K hK
              have h6 : a.tmps.getD 6 undef = .int .i64 (k : Int) := hs 6 (by kernel_rfl)
              clear hd hs
              refine wpOp_plain rfl rfl ?_
              go_simp
              exact hK _ _ rfl hG (Below.refl _ _)
            · intro a x hG hd hs K hK
              have h21 : a.tmps.getD 21 undef = magg my := hd 3 21 (by kernel_rfl)
              have h22 : a.tmps.getD 22 undef = .int .i64 (k : Int) := hd 4 22 (by kernel_rfl)
              clear hd hs
              refine wpOp_plain rfl rfl ?_
              go_simp
              refine (slots_any my k _ hy hlt).mono ?_
              rintro e w' ⟨rfl, b9⟩
              exact hK _ _ rfl (hG.trans (b9.mono hG.size)) b9
            · intro a x hG hd hs K hK
              have h20 : a.tmps.getD 20 undef = magg (Im.blk mx k) := hd 2 20 (by kernel_rfl)
              have h23 : a.tmps.getD 23 undef = magg (Im.blk my k) := hd 5 23 (by kernel_rfl)
              clear hd hs
              refine wpOp_plain rfl rfl ?_
              refine wp_binop .neq 63 63 (.tmp 20) (.tmp 23) rfl h20 h23 eqGuardB (HBL.out _) ?_
              exact hK _ _ rfl hG (Below.refl _ _)
          · intro x hG
            rintro _ rfl _ rfl _ rfl _ rfl _ rfl _ rfl _ rfl
            simp only [Act.put, List.setIfInBounds_toArray, List.set_cons_zero, List.set_cons_succ, REnd]
            try simp only [Exit.then]
            have i5 := i4.ext hG
            have j5 := j4.ext hG
            have c5 := c4.trans (hG.mono c4.size)
            have hown := own_ext hown hG
            clear i4 j4 c4 hG hG0
            cases pb with
            | false =>
              have HC := Lib.hid (HCN.out rfl)
              go_wp2
              go_roundw
              case rel => exact ⟨k + 1, by omega, by go_num, by rw [HC.out]; exact hown, i5, j5, c5⟩
              case measure => simp [intOf]; omega
            | true =>
              have HC := Lib.hid (HCY.out rfl)
              have HIA := Lib.hid (own_blk_ne hown i5 (by decide))
              have HIB := Lib.hid (own_blk_ne hown j5 (by decide))
              go_wp2_with (at_builtin; refine stop_ ?_)
              refine wpList_append_one rfl _ _ rfl rfl rfl rfl Try.underlying42 infoInt rfl hown rfl (by rw [maxLen_eq]; omega) (by omega) c5.size ?_
              intro v' w' hown' hgr
              have c6 := c5.grown hgr c5.size (fun g hg => (hown.lt g hg).1)
              have i6 := i5.grown hgr HIA.out
              have j6 := j5.grown hgr HIB.out
              clear hown hgr i5 j5 c5
              go_wp2
              go_roundw
              case rel => exact ⟨k + 1, by omega, by go_num, by rw [HC.out, icl_snoc, List.length_append]; exact hown', i6, j6, c6⟩
              case measure => simp [intOf]; omega
        · obtain rfl : k = 4 := by omega
          have HIS := Lib.hid (is_of_own hown rfl)
          clear hown
          rw [show (((4 : Nat)) : Int) = 4 from rfl]
          go_wp2
          go_ret
          exact ⟨_, rfl, by rw [HE.out]; exact HIS.out, c4⟩
set_option maxRecDepth 100000 in
set_option maxHeartbeats 4000000 in
theorem there_any (m : List Sl) (w : World) (hm : m.length = 40) :
    Calls Try.prog 17 #[magg m] w (ListR (nums (Im.there m)) w) := by
  unfold magg
  go_enter Try.func17, Try.ntmps17
  go_upto_region 1 with (fail)
  have i0 := Blk.new w 28 (mcells m).toArray
  have c0 := (Below.refl w.heap.size w).alloc (Nat.le_refl _) (.cells (mcells m).toArray 28)
  change Blk _ _ _ (mcells m) at i0
  generalize w.alloc (.cells (mcells m).toArray 28) = w0 at *
  generalize w.heap.size = g1 at i0 ⊢
  have hr := i0.range
  go_wp2_with (refine wpList_load_at 28 (.tmp 1) rfl rfl g1 0 rfl (mcells m) _ hr Try.underlying28 rfl (infoM _ hm) ?_)
  refine (mayM_any m _ hm).mono ?_
  rintro e w2 ⟨rfl, b2⟩
  have i2 := i0.ext b2
  have c2 := c0.trans (b2.mono c0.size)
  clear hr i0 c0 b2
  cases hmm : Im.mayB m with
  | false =>
    have HE := Lib.hid (there_no hmm)
    clear hmm
    go_wp2
    go_ret
    exact ⟨_, rfl, by rw [HE.out]; exact Rds.nil_ _ _ _, c2⟩
  | true =>
    have HE := Lib.hid (there_yes hmm)
    clear hmm
    have hr := i2.range
    go_wp2_with (refine wpList_load_at 28 (.tmp 1) rfl rfl g1 0 rfl (mcells m) _ hr Try.underlying28 rfl (infoM _ hm) ?_)
    clear hr i2
    obtain ⟨p, hp⟩ : ∃ p : Nat → Bool, p = fun i => decide (0 < (m.getD i Sl.zero).a) := ⟨_, rfl⟩
    rw [← hp] at HE
    have HP := Lib.hid hp
    clear hp
    go_loopw [3, 10] (fun l i wr => ∃ k : Nat, k ≤ 40 ∧ i = .int .i64 k ∧ wr.ownsRow w.heap.size 3 1 l (coll p k).length (icl (coll p k)) ∧ Below w.heap.size w wr) (fun _ i _ => 40 - (intOf i).toNat)
    case atStart => exact ⟨0, by omega, rfl, World.ownsRow_nil _ _ _ _, c2⟩
    case round =>
      obtain ⟨k, hk, rfl, hown, c4⟩ := hrel
      clear c2
      by_cases hlt : k < 40
      · have hix := idx_im m hm k hlt
        have hcl := coll_len p k
        have HCY := Lib.hid (fun h => coll_yes (p := p) (j := k) h)
        have HCN := Lib.hid (fun h => coll_no (p := p) (j := k) h)
        have HPK := Lib.hid (show p k = decide (0 < (m.getD k Sl.zero).a) by rw [HP.out])
        generalize m.getD k Sl.zero = y at *
        unfold sagg at hix
        go_upto_region 7 with (fail)
        clear hix
        have kx := Blk.new wr 26 #[.int .i64 y.a, .int .u32 (y.s : Int), .int .i64 y.v]
        have c5 := c4.alloc c4.size (.cells #[.int .i64 y.a, .int .u32 (y.s : Int), .int .i64 y.v] 26)
        have hown := hown.alloc (.cells #[.int .i64 y.a, .int .u32 (y.s : Int), .int .i64 y.v] 26)
        generalize wr.alloc (.cells #[.int .i64 y.a, .int .u32 (y.s : Int), .int .i64 y.v] 26) = w3 at *
        generalize wr.heap.size = gx at kx ⊢
        change Blk _ _ _ (scells y) at kx
        have hr := kx.range
        clear c4
        go_wp2_with (refine wpList_load_at 26 (.tmp 5) rfl rfl gx 0 rfl (scells y) _ hr Try.underlying26 rfl (infoS y) ?_)
        refine (exists_any y _).mono ?_
        rintro e w4 ⟨rfl, b4⟩
        have hown := own_ext hown b4
        have c4 := c5.trans (b4.mono c5.size)
        clear hr kx c5 b4
        have c5 := c4
        clear c4
        by_cases ha : 0 < y.a
        · have HC := Lib.hid (HCY.out (by rw [HPK.out, decide_eq_true ha]))
          rw [decide_eq_true ha]
          clear ha
          go_wp2_with (at_builtin; refine stop_ ?_)
          refine wpList_append_one rfl _ _ rfl rfl rfl rfl Try.underlying42 infoInt rfl hown rfl (by rw [maxLen_eq]; omega) (by omega) c5.size ?_
          intro v' w' hown' hgr
          have c6 := c5.grown hgr c5.size (fun g hg => (hown.lt g hg).1)
          clear hown hgr c5
          go_wp2
          go_roundw
          case rel => exact ⟨k + 1, by omega, by go_num, by rw [HC.out, icl_snoc, List.length_append]; exact hown', c6⟩
          case measure => simp [intOf]; omega
        · have HC := Lib.hid (HCN.out (by rw [HPK.out, decide_eq_false ha]))
          rw [decide_eq_false ha]
          clear ha
          go_wp2
          go_roundw
          case rel => exact ⟨k + 1, by omega, by go_num, by rw [HC.out]; exact hown, c5⟩
          case measure => simp [intOf]; omega
      · obtain rfl : k = 40 := by omega
        have HIS := Lib.hid (is_of_own hown rfl)
        clear hown
        rw [show (((40 : Nat)) : Int) = 40 from rfl]
        go_wp2
        go_ret
        exact ⟨_, rfl, by rw [HE.out]; exact HIS.out, c4⟩
theorem take_ne {a b : List Int} {k : Nat} (ha : k < a.length) (hb : k < b.length) (h : a[k] ≠ b[k]) : a ≠ b := fun e => by subst e; exact h rfl
theorem take_step {a b : List Int} {k : Nat} (ha : k < a.length) (hb : k < b.length) (h : a.take k = b.take k) (h2 : a[k] = b[k]) : a.take (k + 1) = b.take (k + 1) := by
  rw [List.take_succ_eq_append_getElem ha, List.take_succ_eq_append_getElem hb, h, h2]
set_option maxHeartbeats 2000000 in
theorem same8_any (w : World) (u v : Value) (B : Nat) (a b : List Int) (ha : Is .i64 w B u a) (hb : Is .i64 w B v b) :
    Calls Try.prog 29 #[u, v] w fun e w' => e = .returned (.bool (decide (a = b))) ∧ Below w.heap.size w w' := by
  obtain ⟨A1, c1, rfl, hc1, hm1, hcell1⟩ := ha.open_
  obtain ⟨A2, c2, rfl, hc2, hm2, hcell2⟩ := hb.open_
  clear ha hb
  by_cases hl : a.length = b.length
  · have HC1 := Lib.hid hcell1
    have HC2 := Lib.hid hcell2
    have HTN := Lib.hid (fun k h1 h2 h3 => take_ne (a := a) (b := b) (k := k) h1 h2 h3)
    have HTS := Lib.hid (fun k h1 h2 h3 h4 => take_step (a := a) (b := b) (k := k) h1 h2 h3 h4)
    have hne : ((a.length : Int) != (b.length : Int)) = false := by rw [bne_eq_false_iff_eq]; omega
    have HL := Lib.hid hl
    clear hcell1 hcell2 hl
    go_enter Try.func29, Try.ntmps29
    go_wp2
    clear hne
    go_loopw [5] (fun i wr => ∃ k : Nat, k ≤ a.length ∧ i = .int .i64 k ∧ Hid (a.take k = b.take k) ∧ ∃ n, wr = w.drewN n) (fun i _ => a.length - (intOf i).toNat)
    case atStart => exact ⟨0, Nat.zero_le _, rfl, Lib.hid rfl, 0, rfl⟩
    case round =>
      obtain ⟨k, hk, rfl, HT, n, rfl⟩ := hrel
      by_cases hlt : k < a.length
      · have hlt2 : k < b.length := by have := HL.out; omega
        obtain ⟨b1, o1, rfl, hb1, x1⟩ := HC1.out k hlt
        obtain ⟨b2, o2, rfl, hb2, x2⟩ := HC2.out k hlt2
        have HN := Lib.hid (HTN.out k hlt hlt2)
        have HS := Lib.hid (HTS.out k hlt hlt2 HT.out)
        have q1 : (k : Int) < a.length := by omega
        have q2 : (k : Int) < b.length := by omega
        have q0 : (0 : Int) ≤ k := by omega
        generalize a[k] = X at *
        generalize b[k] = Y at *
        by_cases hxy : X = Y
        · have e1 : (X != Y) = false := by rw [bne_eq_false_iff_eq]; exact hxy
          have HS2 := Lib.hid (HS.out hxy)
          clear hxy
          go_wp2
          go_quiet (fail)
          go_wp2
          go_roundw
          case rel => exact ⟨k + 1, by omega, by go_num, HS2, _, rfl⟩
          case measure => simp [intOf]; omega
        · have e1 : (X != Y) = true := by rw [bne_iff_ne]; exact hxy
          have HN2 := Lib.hid (HN.out hxy)
          clear hxy
          go_wp2
          go_quiet (fail)
          go_wp2
          go_ret
          exact ⟨by rw [decide_eq_false HN2.out]; rfl, below_drewN (below_drewN (Below.refl _ _) _) _⟩
      · obtain rfl : k = a.length := by omega
        have he := HT.out
        rw [List.take_length, HL.out, List.take_length] at he
        have HE := Lib.hid he
        clear he
        go_wp2
        go_ret
        exact ⟨by rw [decide_eq_true HE.out]; rfl, below_drewN (Below.refl _ _) _⟩
  · have hne : ((a.length : Int) != (b.length : Int)) = true := by rw [bne_iff_ne]; omega
    have HE := Lib.hid (show ¬ a = b from fun h => hl (by rw [h]))
    clear hl hcell1 hcell2
    go_enter Try.func29, Try.ntmps29
    go_wp2
    go_ret
    exact ⟨by rw [decide_eq_false HE.out]; rfl, Below.refl _ _⟩
end Go.Proofs.Ytpgibmffgliibaa
