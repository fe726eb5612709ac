/-
  ImapMoves: what is put is there, what is dropped is not, all others are as before, and one block alone has changed at most. For every input.
-/
import Derived.Test.YtpgibmffgliibaaImO
import Derived.Test.YtpgibmffgliibaaImapM
import Derived.Test.YtpgibmffgliibaaRegU
import Derived.IntWalk
namespace Go.Proofs.Ytpgibmffgliibaa
open Go.ChangeShapes Go.WideShapes Go.ChangeAt Go.RowKit
open Im (Sl)

theorem chkPtr : chkT Try.prog 3 24 = true := by kernel_rfl
theorem cellsPtr : Try.prog.cellsOf 24 = 2 := by kernel_rfl
theorem infoP (a : Int) (s : Nat) : (Try.prog.info? 24).map (·.size) = some ([Value.int .i64 a, Value.int .u32 (s : Int)]).length := by kernel_rfl
theorem eqGuardP : Try.prog.eqGuardType Try.prog.depth 24 = false := by kernel_rfl
theorem run_eql_pt (a : Int) (s : Nat) (W : World) :
    (binOp .neq 24 (.agg #[.int .i64 a, .int .u32 (s : Int)]) (.agg #[.int .i64 a, .int .u32 (s : Int)])).run Try.prog W = .ok (.bool false) W :=
  (run_eql_cells 3 chkPtr (by decide) (by kernel_rfl) [.int .i64 a, .int .u32 (s : Int)] [.int .i64 a, .int .u32 (s : Int)] (by rw [cellsPtr]; rfl) (by rw [cellsPtr]; rfl) (by
    intro j x y hx hy
    rw [hx] at hy
    injection hy with hy
    subst hy
    match j, hx with
    | 0, hx => injection hx with hx; exact ⟨_, _, _, hx.symm, hx.symm⟩
    | 1, hx => injection hx with hx; exact ⟨_, _, _, hx.symm, hx.symm⟩
    | j + 2, hx => simp at hx) W true (by simp)).2
theorem ptr_mid (m : List Sl) (n : Nat) (h : n < m.length) : [Value.int .i64 (m.getD n Sl.zero).a, .int .u32 ((m.getD n Sl.zero).s : Int)] = ((mcells m).drop (n * 3)).take 2 := by
  rw [Nat.mul_comm, mcells_drop1 m n h]; rfl
theorem sl_mid {m : List Sl} (hm : m.length = 40) (j : Nat) (hj : j < 40) : scells (m.getD j Sl.zero) = ((mcells m).drop (j * 3)).take (scells (m.getD j Sl.zero)).length := by
  have h := scells_mid m j (by omega)
  rw [Nat.mul_comm]
  exact h

set_option maxRecDepth 100000 in
set_option maxHeartbeats 16000000 in
theorem imapMoves_walk (w : World) (m : List Sl) (i pa : Int) (s : Nat) (hg : Im.Good m) (hs : s < 4294967296) :
    Calls Try.prog 4 #[magg m, .int .i64 i, .agg #[.int .i64 pa, .int .u32 (s : Int)]] w fun e w' => e = .returned (.bool true) ∧ Below w.heap.size w w' := by
  have HG := Lib.hid hg
  have HM := Lib.hid hg.1
  have HPL := Lib.hid (Im.good_put hg i (pa, s) hs).1
  have HMV := Lib.hid (fun h => Im.moves hg i (pa, s) h)
  clear hg hs
  unfold magg
  go_enter Try.func4, Try.ntmps4
  go_upto_region 1 with (fail)
  have km := Blk.new w 28 (mcells m).toArray
  have c := (Below.refl w.heap.size w).alloc (Nat.le_refl _) (.cells (mcells m).toArray 28)
  change Blk _ _ _ (mcells m) at km
  have hs0 : (w.alloc (.cells (mcells m).toArray 28)).heap.size = w.heap.size + 1 := World.size_alloc _ _
  generalize w.alloc (.cells (mcells m).toArray 28) = w0 at *
  obtain ⟨g3, hg0⟩ : ∃ g, g = w.heap.size := ⟨_, rfl⟩
  rw [← hg0] at km hs0 ⊢
  have kp := Blk.new w0 24 #[.int .i64 pa, .int .u32 (s : Int)]
  rw [hs0] at kp
  replace km := km.alloc (.cells #[.int .i64 pa, .int .u32 (s : Int)] 24)
  replace c := c.alloc c.size (.cells #[.int .i64 pa, .int .u32 (s : Int)] 24)
  generalize w0.alloc (.cells #[.int .i64 pa, .int .u32 (s : Int)] 24) = w1 at *
  obtain ⟨gp, hgp⟩ : ∃ g, g = g3 + 1 := ⟨_, rfl⟩
  rw [← hgp] at kp ⊢
  clear hg0 hs0 hgp
  have hr := km.range
  have x0 := kp.cell 0
  have x1 := kp.cell 1
  simp only [List.getElem?_cons_zero, List.getElem?_cons_succ] at x0 x1
  go_wp2_with (refine wpList_load_at 28 (.tmp 3) rfl rfl g3 0 rfl (mcells m) _ hr Try.underlying28 rfl (infoM _ HM.out) ?_)
  clear hr
  refine (put_any m i pa s _ HM.out).mono ?_
  rintro e w2 ⟨rfl, b2⟩
  clear x0 x1
  replace km := km.ext b2
  replace kp := kp.ext b2
  replace c := c.trans (b2.mono c.size)
  clear b2
  generalize Im.putM m i (pa, s) = X at *
  generalize Im.putE m i (pa, s) = E at *
  unfold magg
  have hzv := zeroIM
  go_upto_region 2 with (with_reducible refine wpList_store_new rfl 28 (.tmp 7) (.tmp 21) rfl (mcells X) rfl rfl ?_ rfl (infoM _ HPL.out) mcells_one ?_)
  · rw [mcells_len, HPL.out]; exact Nat.le_refl 120
  clear hzv
  generalize hW : (w2.alloc (.cells _ 28)).setCells w2.heap.size 0 _ = w2v
  have k7 : Blk w2v w2.heap.size 28 (mcells X) := by rw [← hW]; exact Blk.varM HPL.out
  have bv : Below w2.heap.size w2 w2v := by rw [← hW]; exact below_varM
  clear hW
  replace km := km.ext bv
  replace kp := kp.ext bv
  replace c := c.trans (bv.mono c.size)
  clear bv
  generalize w2.heap.size = g7 at *
  by_cases hE : ¬ E = 0
  · have e0 : ((E : Int) == 0) = false := by rw [beq_eq_false_iff_ne]; omega
    clear hE HMV
    have hr := km.range
    go_wp2_with (refine wpList_load_at 28 (.tmp 3) rfl rfl g3 0 rfl (mcells m) _ hr Try.underlying28 rfl (infoM _ HM.out) ?_)
    clear hr
    refine (free_any m _ HM.out).mono ?_
    rintro e w20 ⟨rfl, b20⟩
    replace km := km.ext b20
    replace c := c.trans (b20.mono c.size)
    clear b20
    have hfs := Im.free_says HG.out
    have HCA := Lib.hid (fun n h => (cells_atN m n h).1)
    generalize Im.freeN m = N at *
    generalize Im.freeE m = E9 at *
    rcases hfs with hfs | ⟨rfl, hf1, hf2, hf3⟩
    · have e9 : ((E9 : Int) != 0) = true := by rw [bne_iff_ne]; omega
      clear hfs
      go_wp2_with fail
      refine (awakeM_any _).mono ?_
      rintro e w21 ⟨rfl, b21⟩
      go_wp2
      go_ret
      exact ⟨rfl, c.trans (b21.mono c.size)⟩
    · have z0 := km.cell (N * 3)
      rw [HCA.out N (by rw [HM.out]; exact hf2), hf3] at z0
      have q1 : (0 : Int) < N := by omega
      have q2 : (N : Int) < 40 := by omega
      clear hf3
      rw [show (((0 : Nat)) : Int) = 0 from rfl]
      go_wp2_with fail
      refine (awakeM_any _).mono ?_
      rintro e w21 ⟨rfl, b21⟩
      go_wp2
      go_ret
      exact ⟨rfl, c.trans (b21.mono c.size)⟩
  · replace hE := Decidable.not_not.1 hE
    subst hE
    obtain ⟨n, hin, hn1, hn2, X', Y, hxx, hd1, hd2, hp1, hp2, hXl, hYl, hXn, hcg, hth, hfar⟩ := HMV.out rfl
    subst hin
    subst hxx
    have HD1 := Lib.hid hd1
    have HD2 := Lib.hid hd2
    have HP1 := Lib.hid hp1
    have HP2 := Lib.hid hp2
    have HYL := Lib.hid hYl
    have HXN := Lib.hid hXn
    have HFAR := Lib.hid hfar
    have HTH := Lib.hid hth
    have HCG := Lib.hid hcg
    clear HMV hd1 hd2 hp1 hp2 hXl hYl hXn hcg hth hfar
    have q0 : (0 : Int) ≤ (n : Int) := by omega
    have q1 : (n : Int) < 40 := by omega
    rw [show (((0 : Nat)) : Int) = 0 from rfl]
    go_upto_region 3 with (fail)
    have hG0 : Below w2v.heap.size w2v w2v.drew := (Below.refl _ _).drew
    have HCL := Lib.hid (show (nums (Im.changed m X)).length ≤ 1 by unfold nums; rw [List.length_map]; exact HCG.out)
    have HCX := Lib.hid (cells_atN X n (by rw [HPL.out]; omega))
    have HCM := Lib.hid (cells_atN m n (by rw [HM.out]; omega))
    have HPM := Lib.hid (ptr_mid X n (by rw [HPL.out]; omega))
    rw [HXN.out] at HCX HPM
    obtain ⟨v, hv⟩ : ∃ v, v = (m.getD n Sl.zero).v := ⟨_, rfl⟩
    rw [← hv] at HCX HCM HPM
    clear hv
    refine wp_region_list 24 [(fun y_ _ => y_ = .int .i64 (n : Int)),
      (fun y_ _ => y_ = .pointer (some ⟨g7, n * 3, none⟩)),
      (fun y_ _ => y_ = .pointer (some ⟨g7, n * 3, none⟩)),
      (fun y_ _ => y_ = .agg #[.int .i64 pa, .int .u32 (s : Int)]),
      (fun y_ _ => y_ = .agg #[.int .i64 pa, .int .u32 (s : Int)]),
      (fun y_ _ => y_ = .bool false),
      (fun y_ _ => y_ = .bool false),
      (fun y_ _ => y_ = .int .i64 (n : Int)),
      (fun y_ _ => y_ = .pointer (some ⟨g7, n * 3, none⟩)),
      (fun y_ _ => y_ = .pointer (some ⟨g7, n * 3 + 2, none⟩)),
      (fun y_ _ => y_ = .int .i64 v),
      (fun y_ _ => y_ = .int .i64 (n : Int)),
      (fun y_ _ => y_ = .pointer (some ⟨g3, n * 3, none⟩)),
      (fun y_ _ => y_ = .pointer (some ⟨g3, n * 3 + 2, none⟩)),
      (fun y_ _ => y_ = .int .i64 v),
      (fun y_ _ => y_ = .bool false),
      (fun y_ _ => y_ = .bool false),
      (fun y_ _ => y_ = .bool false),
      (fun y_ _ => y_ = magg m),
      (fun y_ _ => y_ = magg X),
      (fun y_ _ => ∃ A q, y_ = .slice A (nums (Im.changed m X)).length q),
      (fun y_ _ => y_ = .int .i64 ((nums (Im.changed m X)).length : Nat)),
      (fun y_ _ => y_ = .bool false),
      (fun y_ _ => y_ = .bool false)]
      (fun x => Below w2v.heap.size w2v x) (by kernel_rfl) rfl (by kernel_rfl) ?_ ?_ ?_ ?_
    · exact hG0
    · exact ⟨stab_eq _, stab_eq _, stab_eq _, stab_eq _, stab_eq _, stab_eq _, stab_eq _, stab_eq _, stab_eq _, stab_eq _, stab_eq _, stab_eq _, stab_eq _, stab_eq _, stab_eq _, stab_eq _, stab_eq _, stab_eq _, stab_eq _, stab_eq _, (fun _ _ _ h _ => h), stab_eq _, stab_eq _, stab_eq _, trivial⟩
    · refine ⟨?_, ?_, ?_, ?_, ?_, ?_, ?_, ?_, ?_, ?_, ?_, ?_, ?_, ?_, ?_, ?_, ?_, ?_, ?_, ?_, ?_, ?_, ?_, ?_, trivial⟩
      · intro a x hG hd hs K hK
        have h1 : a.tmps.getD 1 undef = .int .i64 (n : Int) := hs 1 (by kernel_rfl)
        clear hd hs
        refine wpOp_plain rfl rfl ?_
        go_simp
        exact hK _ _ rfl hG (Below.refl _ _)
      · intro a x hG hd hs K hK
        have h7 : a.tmps.getD 7 undef = .pointer (some ⟨g7, 0, none⟩) := hs 7 (by kernel_rfl)
        have h25 : a.tmps.getD 25 undef = .int .i64 (n : Int) := hd 0 25 (by kernel_rfl)
        clear hd hs
        refine wpOp_plain rfl rfl ?_
        go_simp
        exact hK _ _ rfl hG (Below.refl _ _)
      · intro a x hG hd hs K hK
        have h26 : a.tmps.getD 26 undef = .pointer (some ⟨g7, n * 3, none⟩) := hd 1 26 (by kernel_rfl)
        clear hd hs
        refine wpOp_plain rfl rfl ?_
        go_simp
        exact hK _ _ rfl hG (Below.refl _ _)
      · intro a x hG hd hs K hK
        have h27 : a.tmps.getD 27 undef = .pointer (some ⟨g7, n * 3, none⟩) := hd 2 27 (by kernel_rfl)
        clear hd hs
        refine wpOp_plain rfl rfl ?_
        refine wp_load_mid 24 (.tmp 27) rfl g7 (n * 3) h27 [.int .i64 pa, .int .u32 (s : Int)] _ ((k7.ext hG).rangeMid (n * 3) _ HPM.out) Try.underlying24 rfl (infoP pa s) ?_
        exact hK _ _ rfl hG (Below.refl _ _)
      · intro a x hG hd hs K hK
        have h5 : a.tmps.getD 5 undef = .pointer (some ⟨gp, 0, none⟩) := hs 5 (by kernel_rfl)
        clear hd hs
        refine wpOp_plain rfl rfl ?_
        refine wp_load_mid 24 (.tmp 5) rfl gp 0 h5 [.int .i64 pa, .int .u32 (s : Int)] _ (kp.ext hG).range Try.underlying24 rfl (infoP pa s) ?_
        exact hK _ _ rfl hG (Below.refl _ _)
      · intro a x hG hd hs K hK
        have h28 : a.tmps.getD 28 undef = .agg #[.int .i64 pa, .int .u32 (s : Int)] := hd 3 28 (by kernel_rfl)
        have h29 : a.tmps.getD 29 undef = .agg #[.int .i64 pa, .int .u32 (s : Int)] := hd 4 29 (by kernel_rfl)
        clear hd hs
        refine wpOp_plain rfl rfl ?_
        refine wp_binop .neq 24 24 (.tmp 28) (.tmp 29) rfl h28 h29 eqGuardP (run_eql_pt pa s _) ?_
        exact hK _ _ rfl hG (Below.refl _ _)
      · intro a x hG hd hs K hK
        have h30 : a.tmps.getD 30 undef = .bool false := hd 5 30 (by kernel_rfl)
        clear hd hs
        refine wpOp_plain rfl rfl ?_
        go_simp
        exact hK _ _ rfl hG (Below.refl _ _)
      · intro a x hG hd hs K hK
        have h1 : a.tmps.getD 1 undef = .int .i64 (n : Int) := hs 1 (by kernel_rfl)
        have h31 : a.tmps.getD 31 undef = .bool false := hd 6 31 (by kernel_rfl)
        clear hd hs
        refine wpOp_yes rfl rfl rfl h31 ?_
        go_simp
        exact hK _ _ rfl hG (Below.refl _ _)
      · intro a x hG hd hs K hK
        have h7 : a.tmps.getD 7 undef = .pointer (some ⟨g7, 0, none⟩) := hs 7 (by kernel_rfl)
        have h32 : a.tmps.getD 32 undef = .int .i64 (n : Int) := hd 7 32 (by kernel_rfl)
        have h31 : a.tmps.getD 31 undef = .bool false := hd 6 31 (by kernel_rfl)
        clear hd hs
        refine wpOp_yes rfl rfl rfl h31 ?_
        go_simp
        exact hK _ _ rfl hG (Below.refl _ _)
      · intro a x hG hd hs K hK
        have h33 : a.tmps.getD 33 undef = .pointer (some ⟨g7, n * 3, none⟩) := hd 8 33 (by kernel_rfl)
        have h31 : a.tmps.getD 31 undef = .bool false := hd 6 31 (by kernel_rfl)
        clear hd hs
        refine wpOp_yes rfl rfl rfl h31 ?_
        go_simp
        exact hK _ _ rfl hG (Below.refl _ _)
      · intro a x hG hd hs K hK
        have h34 : a.tmps.getD 34 undef = .pointer (some ⟨g7, n * 3 + 2, none⟩) := hd 9 34 (by kernel_rfl)
        have h31 : a.tmps.getD 31 undef = .bool false := hd 6 31 (by kernel_rfl)
        clear hd hs
        refine wpOp_yes rfl rfl rfl h31 ?_
        have q := (k7.ext hG).cell (n * 3 + 2)
        rw [HCX.out.2.2] at q
        go_simp
        exact hK _ _ rfl hG (Below.refl _ _)
      · intro a x hG hd hs K hK
        have h1 : a.tmps.getD 1 undef = .int .i64 (n : Int) := hs 1 (by kernel_rfl)
        have h31 : a.tmps.getD 31 undef = .bool false := hd 6 31 (by kernel_rfl)
        clear hd hs
        refine wpOp_yes rfl rfl rfl h31 ?_
        go_simp
        exact hK _ _ rfl hG (Below.refl _ _)
      · intro a x hG hd hs K hK
        have h3 : a.tmps.getD 3 undef = .pointer (some ⟨g3, 0, none⟩) := hs 3 (by kernel_rfl)
        have h36 : a.tmps.getD 36 undef = .int .i64 (n : Int) := hd 11 36 (by kernel_rfl)
        have h31 : a.tmps.getD 31 undef = .bool false := hd 6 31 (by kernel_rfl)
        clear hd hs
        refine wpOp_yes rfl rfl rfl h31 ?_
        go_simp
        exact hK _ _ rfl hG (Below.refl _ _)
      · intro a x hG hd hs K hK
        have h37 : a.tmps.getD 37 undef = .pointer (some ⟨g3, n * 3, none⟩) := hd 12 37 (by kernel_rfl)
        have h31 : a.tmps.getD 31 undef = .bool false := hd 6 31 (by kernel_rfl)
        clear hd hs
        refine wpOp_yes rfl rfl rfl h31 ?_
        go_simp
        exact hK _ _ rfl hG (Below.refl _ _)
      · intro a x hG hd hs K hK
        have h38 : a.tmps.getD 38 undef = .pointer (some ⟨g3, n * 3 + 2, none⟩) := hd 13 38 (by kernel_rfl)
        have h31 : a.tmps.getD 31 undef = .bool false := hd 6 31 (by kernel_rfl)
        clear hd hs
        refine wpOp_yes rfl rfl rfl h31 ?_
        have q := (km.ext hG).cell (n * 3 + 2)
        rw [HCM.out.2.2] at q
        go_simp
        exact hK _ _ rfl hG (Below.refl _ _)
      · intro a x hG hd hs K hK
        have h35 : a.tmps.getD 35 undef = .int .i64 v := hd 10 35 (by kernel_rfl)
        have h39 : a.tmps.getD 39 undef = .int .i64 v := hd 14 39 (by kernel_rfl)
        have h31 : a.tmps.getD 31 undef = .bool false := hd 6 31 (by kernel_rfl)
        clear hd hs
        refine wpOp_yes rfl rfl rfl h31 ?_
        go_simp
        exact hK _ _ rfl hG (Below.refl _ _)
      · intro a x hG hd hs K hK
        have h31 : a.tmps.getD 31 undef = .bool false := hd 6 31 (by kernel_rfl)
        have h40 : a.tmps.getD 40 undef = .bool false := hd 15 40 (by kernel_rfl)
        clear hd hs
        refine wpOp_plain rfl rfl ?_
        go_simp
        exact hK _ _ rfl hG (Below.refl _ _)
      · intro a x hG hd hs K hK
        have h41 : a.tmps.getD 41 undef = .bool false := hd 16 41 (by kernel_rfl)
        clear hd hs
        refine wpOp_plain rfl rfl ?_
        go_simp
        exact hK _ _ rfl hG (Below.refl _ _)
      · intro a x hG hd hs K hK
        have h3 : a.tmps.getD 3 undef = .pointer (some ⟨g3, 0, none⟩) := hs 3 (by kernel_rfl)
        have h42 : a.tmps.getD 42 undef = .bool false := hd 17 42 (by kernel_rfl)
        clear hd hs
        refine wpOp_yes rfl rfl rfl h42 ?_
        refine wp_load_mid 28 (.tmp 3) rfl g3 0 h3 (mcells m) _ (km.ext hG).range Try.underlying28 rfl (infoM _ HM.out) ?_
        exact hK _ _ rfl hG (Below.refl _ _)
      · intro a x hG hd hs K hK
        have h7 : a.tmps.getD 7 undef = .pointer (some ⟨g7, 0, none⟩) := hs 7 (by kernel_rfl)
        have h42 : a.tmps.getD 42 undef = .bool false := hd 17 42 (by kernel_rfl)
        clear hd hs
        refine wpOp_yes rfl rfl rfl h42 ?_
        refine wp_load_mid 28 (.tmp 7) rfl g7 0 h7 (mcells X) _ (k7.ext hG).range Try.underlying28 rfl (infoM _ HPL.out) ?_
        exact hK _ _ rfl hG (Below.refl _ _)
      · intro a x hG hd hs K hK
        have h43 : a.tmps.getD 43 undef = magg m := hd 18 43 (by kernel_rfl)
        have h44 : a.tmps.getD 44 undef = magg X := hd 19 44 (by kernel_rfl)
        have h42 : a.tmps.getD 42 undef = .bool false := hd 17 42 (by kernel_rfl)
        clear hd hs
        refine wpOp_yes rfl rfl rfl h42 ?_
        go_simp
        refine (changed_any m X _ HM.out HPL.out).mono ?_
        rintro e w' ⟨u, rfl, hu, hb⟩
        obtain ⟨A, q, rfl, _⟩ := hu
        exact hK _ _ ⟨A, q, rfl⟩ (hG.trans (hb.mono hG.size)) hb
      · intro a x hG hd hs K hK
        have h45 : (fun y_ _ => ∃ A q, y_ = .slice A (nums (Im.changed m X)).length q) (a.tmps.getD 45 undef) x := hd 20 45 (by kernel_rfl)
        have h42 : a.tmps.getD 42 undef = .bool false := hd 17 42 (by kernel_rfl)
        clear hd hs
        refine wpOp_yes rfl rfl rfl h42 ?_
        obtain ⟨A, q, hA⟩ := h45
        go_simp
        exact hK _ _ rfl hG (Below.refl _ _)
      · intro a x hG hd hs K hK
        have h46 : a.tmps.getD 46 undef = .int .i64 ((nums (Im.changed m X)).length : Nat) := hd 21 46 (by kernel_rfl)
        have h42 : a.tmps.getD 42 undef = .bool false := hd 17 42 (by kernel_rfl)
        clear hd hs
        refine wpOp_yes rfl rfl rfl h42 ?_
        have hq : ¬ (1 : Int) < ((nums (Im.changed m X)).length : Nat) := by have := HCL.out; omega
        go_simp
        exact hK _ _ rfl hG (Below.refl _ _)
      · intro a x hG hd hs K hK
        have h42 : a.tmps.getD 42 undef = .bool false := hd 17 42 (by kernel_rfl)
        have h47 : a.tmps.getD 47 undef = .bool false := hd 22 47 (by kernel_rfl)
        clear hd hs
        refine wpOp_plain rfl rfl ?_
        go_simp
        exact hK _ _ rfl hG (Below.refl _ _)
    · intro x hG
      rintro _ rfl _ rfl _ rfl _ rfl _ rfl _ rfl _ rfl _ rfl _ rfl _ rfl _ rfl _ rfl _ rfl _ rfl _ rfl _ rfl _ rfl _ rfl _ rfl _ rfl v20 hv20 _ rfl _ rfl _ rfl
      simp only [Act.put, List.setIfInBounds_toArray, List.set_cons_zero, List.set_cons_succ, REnd]
      try simp only [Exit.then]
      obtain ⟨w3, rfl⟩ : ∃ w3, w3 = x := ⟨x, rfl⟩
      replace km := km.ext hG
      replace kp := kp.ext hG
      replace k7 := k7.ext hG
      replace c := c.trans (hG.mono c.size)
      clear hG
      clear hG0
      have hr := k7.range
      go_wp2_with (refine wpList_load_at 28 (.tmp 7) rfl rfl g7 0 rfl (mcells X) _ hr Try.underlying28 rfl (infoM _ HPL.out) ?_)
      clear hr
      refine (drop_any X (n : Int) _ HPL.out).mono ?_
      rintro e w4 ⟨rfl, b4⟩
      replace km := km.ext b4
      replace kp := kp.ext b4
      replace k7 := k7.ext b4
      replace c := c.trans (b4.mono c.size)
      clear b4
      rw [HD1.out, HD2.out]
      unfold magg
      have hzv := zeroIM
      go_upto_region 6 with (with_reducible refine wpList_store_new rfl 28 (.tmp 9) (.tmp 53) rfl (mcells Y) rfl rfl ?_ rfl (infoM _ HYL.out) mcells_one ?_)
      · rw [mcells_len, HYL.out]; exact Nat.le_refl 120
      clear hzv
      generalize hW : (w4.alloc (.cells _ 28)).setCells w4.heap.size 0 _ = w4v
      have k9 : Blk w4v w4.heap.size 28 (mcells Y) := by rw [← hW]; exact Blk.varM HYL.out
      have bv : Below w4.heap.size w4 w4v := by rw [← hW]; exact below_varM
      clear hW
      replace km := km.ext bv
      replace kp := kp.ext bv
      replace k7 := k7.ext bv
      replace c := c.trans (bv.mono c.size)
      clear bv
      generalize w4.heap.size = g9 at *
      have hr := k9.range
      have x0 := kp.cell 0
      have x1 := kp.cell 1
      simp only [List.getElem?_cons_zero, List.getElem?_cons_succ] at x0 x1
      go_wp2_with (refine wpList_load_at 28 (.tmp 9) rfl rfl g9 0 rfl (mcells Y) _ hr Try.underlying28 rfl (infoM _ HYL.out) ?_)
      clear hr
      refine (put_any Y (n : Int) pa s _ HYL.out).mono ?_
      rintro e w5 ⟨rfl, b5⟩
      clear x0 x1
      replace km := km.ext b5
      replace kp := kp.ext b5
      replace k7 := k7.ext b5
      replace k9 := k9.ext b5
      replace c := c.trans (b5.mono c.size)
      clear b5
      rw [HP1.out, HP2.out]
      unfold magg
      have hzv := zeroIM
      go_upto_region 7 with (with_reducible refine wpList_store_new rfl 28 (.tmp 11) (.tmp 60) rfl (mcells X) rfl rfl ?_ rfl (infoM _ HPL.out) mcells_one ?_)
      · rw [mcells_len, HPL.out]; exact Nat.le_refl 120
      clear hzv
      generalize hW : (w5.alloc (.cells _ 28)).setCells w5.heap.size 0 _ = w5v
      have k11 : Blk w5v w5.heap.size 28 (mcells X) := by rw [← hW]; exact Blk.varM HPL.out
      have bv : Below w5.heap.size w5 w5v := by rw [← hW]; exact below_varM
      clear hW
      replace km := km.ext bv
      replace kp := kp.ext bv
      replace k7 := k7.ext bv
      replace k9 := k9.ext bv
      replace c := c.trans (bv.mono c.size)
      clear bv
      generalize w5.heap.size = g11 at *
      have hG0 : Below w5v.heap.size w5v w5v.drew := (Below.refl _ _).drew
      have HTN := Lib.hid (show (nums (Im.there Y)).length + 1 = (nums (Im.there X)).length by unfold nums; rw [List.length_map, List.length_map]; exact HTH.out)
      have HTL := Lib.hid (show (nums (Im.there X)).length ≤ 40 by unfold nums Im.there; rw [List.length_map]; split; exact Nat.le_trans (List.length_filter_le _ _) (by rw [List.length_range]; exact Nat.le_refl _); exact Nat.zero_le _)
      refine wp_region_list 21 [(fun y_ _ => y_ = .int .i64 0),
        (fun y_ _ => y_ = .bool false),
        (fun y_ _ => y_ = .bool false),
        (fun y_ _ => y_ = .int .i64 0),
        (fun y_ _ => y_ = .bool false),
        (fun y_ _ => y_ = .bool false),
        (fun y_ _ => y_ = .bool false),
        (fun y_ _ => y_ = magg X),
        (fun y_ _ => y_ = magg X),
        (fun y_ _ => y_ = .bool false),
        (fun y_ _ => y_ = .bool false),
        (fun y_ _ => y_ = .bool false),
        (fun y_ _ => y_ = magg Y),
        (fun y_ _ => ∃ A q, y_ = .slice A (nums (Im.there Y)).length q),
        (fun y_ _ => y_ = .int .i64 ((nums (Im.there Y)).length : Nat)),
        (fun y_ _ => y_ = magg X),
        (fun y_ _ => ∃ A q, y_ = .slice A (nums (Im.there X)).length q),
        (fun y_ _ => y_ = .int .i64 ((nums (Im.there X)).length : Nat)),
        (fun y_ _ => y_ = .int .i64 (((nums (Im.there X)).length : Nat) - 1)),
        (fun y_ _ => y_ = .bool false),
        (fun y_ _ => y_ = .bool false)]
        (fun x => Below w5v.heap.size w5v x) (by kernel_rfl) rfl (by kernel_rfl) ?_ ?_ ?_ ?_
      · exact hG0
      · exact ⟨stab_eq _, stab_eq _, stab_eq _, stab_eq _, stab_eq _, stab_eq _, stab_eq _, stab_eq _, stab_eq _, stab_eq _, stab_eq _, stab_eq _, stab_eq _, (fun _ _ _ h _ => h), stab_eq _, stab_eq _, (fun _ _ _ h _ => h), stab_eq _, stab_eq _, stab_eq _, stab_eq _, trivial⟩
      · refine ⟨?_, ?_, ?_, ?_, ?_, ?_, ?_, ?_, ?_, ?_, ?_, ?_, ?_, ?_, ?_, ?_, ?_, ?_, ?_, ?_, ?_, trivial⟩
        · intro a x hG hd hs K hK
          have h10 : a.tmps.getD 10 undef = .int .i64 0 := hs 10 (by kernel_rfl)
          clear hd hs
          refine wpOp_plain rfl rfl ?_
          go_simp
          exact hK _ _ rfl hG (Below.refl _ _)
        · intro a x hG hd hs K hK
          have h62 : a.tmps.getD 62 undef = .int .i64 0 := hd 0 62 (by kernel_rfl)
          clear hd hs
          refine wpOp_plain rfl rfl ?_
          go_simp
          exact hK _ _ rfl hG (Below.refl _ _)
        · intro a x hG hd hs K hK
          have h63 : a.tmps.getD 63 undef = .bool false := hd 1 63 (by kernel_rfl)
          clear hd hs
          refine wpOp_plain rfl rfl ?_
          go_simp
          exact hK _ _ rfl hG (Below.refl _ _)
        · intro a x hG hd hs K hK
          have h12 : a.tmps.getD 12 undef = .int .i64 0 := hs 12 (by kernel_rfl)
          have h64 : a.tmps.getD 64 undef = .bool false := hd 2 64 (by kernel_rfl)
          clear hd hs
          refine wpOp_yes rfl rfl rfl h64 ?_
          go_simp
          exact hK _ _ rfl hG (Below.refl _ _)
        · intro a x hG hd hs K hK
          have h65 : a.tmps.getD 65 undef = .int .i64 0 := hd 3 65 (by kernel_rfl)
          have h64 : a.tmps.getD 64 undef = .bool false := hd 2 64 (by kernel_rfl)
          clear hd hs
          refine wpOp_yes rfl rfl rfl h64 ?_
          go_simp
          exact hK _ _ rfl hG (Below.refl _ _)
        · intro a x hG hd hs K hK
          have h64 : a.tmps.getD 64 undef = .bool false := hd 2 64 (by kernel_rfl)
          have h66 : a.tmps.getD 66 undef = .bool false := hd 4 66 (by kernel_rfl)
          clear hd hs
          refine wpOp_plain rfl rfl ?_
          go_simp
          exact hK _ _ rfl hG (Below.refl _ _)
        · intro a x hG hd hs K hK
          have h67 : a.tmps.getD 67 undef = .bool false := hd 5 67 (by kernel_rfl)
          clear hd hs
          refine wpOp_plain rfl rfl ?_
          go_simp
          exact hK _ _ rfl hG (Below.refl _ _)
        · intro a x hG hd hs K hK
          have h11 : a.tmps.getD 11 undef = .pointer (some ⟨g11, 0, none⟩) := hs 11 (by kernel_rfl)
          have h68 : a.tmps.getD 68 undef = .bool false := hd 6 68 (by kernel_rfl)
          clear hd hs
          refine wpOp_yes rfl rfl rfl h68 ?_
          refine wp_load_mid 28 (.tmp 11) rfl g11 0 h11 (mcells X) _ (k11.ext hG).range Try.underlying28 rfl (infoM _ HPL.out) ?_
          exact hK _ _ rfl hG (Below.refl _ _)
        · intro a x hG hd hs K hK
          have h7 : a.tmps.getD 7 undef = .pointer (some ⟨g7, 0, none⟩) := hs 7 (by kernel_rfl)
          have h68 : a.tmps.getD 68 undef = .bool false := hd 6 68 (by kernel_rfl)
          clear hd hs
          refine wpOp_yes rfl rfl rfl h68 ?_
          refine wp_load_mid 28 (.tmp 7) rfl g7 0 h7 (mcells X) _ (k7.ext hG).range Try.underlying28 rfl (infoM _ HPL.out) ?_
          exact hK _ _ rfl hG (Below.refl _ _)
        · intro a x hG hd hs K hK
          have h69 : a.tmps.getD 69 undef = magg X := hd 7 69 (by kernel_rfl)
          have h70 : a.tmps.getD 70 undef = magg X := hd 8 70 (by kernel_rfl)
          have h68 : a.tmps.getD 68 undef = .bool false := hd 6 68 (by kernel_rfl)
          clear hd hs
          refine wpOp_yes rfl rfl rfl h68 ?_
          refine wp_binop .neq 28 28 (.tmp 69) (.tmp 70) rfl h69 h70 eqGuardM (run_eql_im X X HPL.out HPL.out true (by simp) _).2 ?_
          exact hK _ _ rfl hG (Below.refl _ _)
        · intro a x hG hd hs K hK
          have h68 : a.tmps.getD 68 undef = .bool false := hd 6 68 (by kernel_rfl)
          have h71 : a.tmps.getD 71 undef = .bool false := hd 9 71 (by kernel_rfl)
          clear hd hs
          refine wpOp_plain rfl rfl ?_
          go_simp
          exact hK _ _ rfl hG (Below.refl _ _)
        · intro a x hG hd hs K hK
          have h72 : a.tmps.getD 72 undef = .bool false := hd 10 72 (by kernel_rfl)
          clear hd hs
          refine wpOp_plain rfl rfl ?_
          go_simp
          exact hK _ _ rfl hG (Below.refl _ _)
        · intro a x hG hd hs K hK
          have h9 : a.tmps.getD 9 undef = .pointer (some ⟨g9, 0, none⟩) := hs 9 (by kernel_rfl)
          have h73 : a.tmps.getD 73 undef = .bool false := hd 11 73 (by kernel_rfl)
          clear hd hs
          refine wpOp_yes rfl rfl rfl h73 ?_
          refine wp_load_mid 28 (.tmp 9) rfl g9 0 h9 (mcells Y) _ (k9.ext hG).range Try.underlying28 rfl (infoM _ HYL.out) ?_
          exact hK _ _ rfl hG (Below.refl _ _)
        · intro a x hG hd hs K hK
          have h74 : a.tmps.getD 74 undef = magg Y := hd 12 74 (by kernel_rfl)
          have h73 : a.tmps.getD 73 undef = .bool false := hd 11 73 (by kernel_rfl)
          clear hd hs
          refine wpOp_yes rfl rfl rfl h73 ?_
          go_simp
          refine (there_any Y _ HYL.out).mono ?_
          rintro e w' ⟨u, rfl, hu, hb⟩
          obtain ⟨A, q, rfl, _⟩ := hu
          exact hK _ _ ⟨A, q, rfl⟩ (hG.trans (hb.mono hG.size)) hb
        · intro a x hG hd hs K hK
          have h75 : (fun y_ _ => ∃ A q, y_ = .slice A (nums (Im.there Y)).length q) (a.tmps.getD 75 undef) x := hd 13 75 (by kernel_rfl)
          have h73 : a.tmps.getD 73 undef = .bool false := hd 11 73 (by kernel_rfl)
          clear hd hs
          refine wpOp_yes rfl rfl rfl h73 ?_
          obtain ⟨A, q, hA⟩ := h75
          go_simp
          exact hK _ _ rfl hG (Below.refl _ _)
        · intro a x hG hd hs K hK
          have h7 : a.tmps.getD 7 undef = .pointer (some ⟨g7, 0, none⟩) := hs 7 (by kernel_rfl)
          have h73 : a.tmps.getD 73 undef = .bool false := hd 11 73 (by kernel_rfl)
          clear hd hs
          refine wpOp_yes rfl rfl rfl h73 ?_
          refine wp_load_mid 28 (.tmp 7) rfl g7 0 h7 (mcells X) _ (k7.ext hG).range Try.underlying28 rfl (infoM _ HPL.out) ?_
          exact hK _ _ rfl hG (Below.refl _ _)
        · intro a x hG hd hs K hK
          have h77 : a.tmps.getD 77 undef = magg X := hd 15 77 (by kernel_rfl)
          have h73 : a.tmps.getD 73 undef = .bool false := hd 11 73 (by kernel_rfl)
          clear hd hs
          refine wpOp_yes rfl rfl rfl h73 ?_
          go_simp
          refine (there_any X _ HPL.out).mono ?_
          rintro e w' ⟨u, rfl, hu, hb⟩
          obtain ⟨A, q, rfl, _⟩ := hu
          exact hK _ _ ⟨A, q, rfl⟩ (hG.trans (hb.mono hG.size)) hb
        · intro a x hG hd hs K hK
          have h78 : (fun y_ _ => ∃ A q, y_ = .slice A (nums (Im.there X)).length q) (a.tmps.getD 78 undef) x := hd 16 78 (by kernel_rfl)
          have h73 : a.tmps.getD 73 undef = .bool false := hd 11 73 (by kernel_rfl)
          clear hd hs
          refine wpOp_yes rfl rfl rfl h73 ?_
          obtain ⟨A, q, hA⟩ := h78
          go_simp
          exact hK _ _ rfl hG (Below.refl _ _)
        · intro a x hG hd hs K hK
          have h79 : a.tmps.getD 79 undef = .int .i64 ((nums (Im.there X)).length : Nat) := hd 17 79 (by kernel_rfl)
          have h73 : a.tmps.getD 73 undef = .bool false := hd 11 73 (by kernel_rfl)
          clear hd hs
          refine wpOp_yes rfl rfl rfl h73 ?_
          have hq1 : IntKind.i64.wrap (((nums (Im.there X)).length : Int) - 1) = ((nums (Im.there X)).length : Int) - 1 := by have := HTL.out; exact IntWalk.i64_in _ (by omega)
          go_simp
          exact hK _ _ rfl hG (Below.refl _ _)
        · intro a x hG hd hs K hK
          have h76 : a.tmps.getD 76 undef = .int .i64 ((nums (Im.there Y)).length : Nat) := hd 14 76 (by kernel_rfl)
          have h80 : a.tmps.getD 80 undef = .int .i64 (((nums (Im.there X)).length : Nat) - 1) := hd 18 80 (by kernel_rfl)
          have h73 : a.tmps.getD 73 undef = .bool false := hd 11 73 (by kernel_rfl)
          clear hd hs
          refine wpOp_yes rfl rfl rfl h73 ?_
          have hq : (((nums (Im.there Y)).length : Int) != ((nums (Im.there X)).length : Int) - 1) = false := by have := HTN.out; rw [bne_eq_false_iff_eq]; omega
          go_simp
          exact hK _ _ rfl hG (Below.refl _ _)
        · intro a x hG hd hs K hK
          have h73 : a.tmps.getD 73 undef = .bool false := hd 11 73 (by kernel_rfl)
          have h81 : a.tmps.getD 81 undef = .bool false := hd 19 81 (by kernel_rfl)
          clear hd hs
          refine wpOp_plain rfl rfl ?_
          go_simp
          exact hK _ _ rfl hG (Below.refl _ _)
      · intro x hG
        rintro _ rfl _ rfl _ rfl _ rfl _ rfl _ rfl _ rfl _ rfl _ rfl _ rfl _ rfl _ rfl _ rfl v13 hv13 _ rfl _ rfl v16 hv16 _ rfl _ rfl _ rfl _ rfl
        simp only [Act.put, List.setIfInBounds_toArray, List.set_cons_zero, List.set_cons_succ, REnd]
        try simp only [Exit.then]
        obtain ⟨w6, rfl⟩ : ∃ w6, w6 = x := ⟨x, rfl⟩
        replace km := km.ext hG
        replace kp := kp.ext hG
        replace k7 := k7.ext hG
        replace k9 := k9.ext hG
        replace k11 := k11.ext hG
        replace c := c.trans (hG.mono c.size)
        clear hG
        clear hG0 HTN HTL k11
        go_wp2
        go_loopw [13] (fun i wr => ∃ k : Nat, k ≤ 40 ∧ i = .int .i64 k ∧ Blk wr g3 28 (mcells m) ∧ Blk wr g7 28 (mcells X) ∧ Blk wr g9 28 (mcells Y) ∧ Below w.heap.size w wr) (fun i _ => 40 - (intOf i).toNat)
        case atStart => exact ⟨0, by omega, rfl, km, k7, k9, c⟩
        case round =>
          obtain ⟨k, hk, rfl, lm, l7, l9, lc⟩ := hrel
          clear km k7 k9 c kp
          by_cases hlt : k < 40
          · have p0 : (0 : Int) ≤ (k : Int) := by omega
            have p1 : (k : Int) < 40 := by omega
            go_upto_region 12 with (fail)
            have hG0 : Below wr.heap.size wr wr.drew := (Below.refl _ _).drew
            by_cases hkn : k = n
            · have e1 : ((k : Int) != (n : Int)) = false := by rw [bne_eq_false_iff_eq]; omega
              clear hkn
              refine wp_region_list 21 [(fun y_ _ => y_ = .int .i64 (k : Int)),
                (fun y_ _ => y_ = .int .i64 (n : Int)),
                (fun y_ _ => y_ = .bool false),
                (fun y_ _ => y_ = .bool false),
                (fun y_ _ => y_ = undef),
                (fun y_ _ => y_ = undef),
                (fun y_ _ => y_ = undef),
                (fun y_ _ => y_ = undef),
                (fun y_ _ => y_ = undef),
                (fun y_ _ => y_ = undef),
                (fun y_ _ => y_ = undef),
                (fun y_ _ => y_ = undef),
                (fun y_ _ => y_ = undef),
                (fun y_ _ => y_ = undef),
                (fun y_ _ => y_ = undef),
                (fun y_ _ => y_ = undef),
                (fun y_ _ => y_ = undef),
                (fun y_ _ => y_ = undef),
                (fun y_ _ => y_ = undef),
                (fun y_ _ => y_ = undef),
                (fun y_ _ => y_ = .bool false)]
                (fun x => Below wr.heap.size wr x) (by kernel_rfl) rfl (by kernel_rfl) ?_ ?_ ?_ ?_
              · exact hG0
              · exact ⟨stab_eq _, stab_eq _, stab_eq _, stab_eq _, stab_eq _, stab_eq _, stab_eq _, stab_eq _, stab_eq _, stab_eq _, stab_eq _, stab_eq _, stab_eq _, stab_eq _, stab_eq _, stab_eq _, stab_eq _, stab_eq _, stab_eq _, stab_eq _, stab_eq _, trivial⟩
              · refine ⟨?_, ?_, ?_, ?_, ?_, ?_, ?_, ?_, ?_, ?_, ?_, ?_, ?_, ?_, ?_, ?_, ?_, ?_, ?_, ?_, ?_, trivial⟩
                · intro a x hG hd hs K hK
                  have h13 : a.tmps.getD 13 undef = .int .i64 (k : Int) := hs 13 (by kernel_rfl)
                  clear hd hs
                  refine wpOp_plain rfl rfl ?_
                  go_simp
                  exact hK _ _ rfl hG (Below.refl _ _)
                · intro a x hG hd hs K hK
                  have h1 : a.tmps.getD 1 undef = .int .i64 (n : Int) := hs 1 (by kernel_rfl)
                  clear hd hs
                  refine wpOp_plain rfl rfl ?_
                  go_simp
                  exact hK _ _ rfl hG (Below.refl _ _)
                · intro a x hG hd hs K hK
                  have h87 : a.tmps.getD 87 undef = .int .i64 (k : Int) := hd 0 87 (by kernel_rfl)
                  have h88 : a.tmps.getD 88 undef = .int .i64 (n : Int) := hd 1 88 (by kernel_rfl)
                  clear hd hs
                  refine wpOp_plain rfl rfl ?_
                  go_simp
                  exact hK _ _ rfl hG (Below.refl _ _)
                · intro a x hG hd hs K hK
                  have h89 : a.tmps.getD 89 undef = .bool false := hd 2 89 (by kernel_rfl)
                  clear hd hs
                  refine wpOp_plain rfl rfl ?_
                  go_simp
                  exact hK _ _ rfl hG (Below.refl _ _)
                · intro a x hG hd hs K hK
                  have h13 : a.tmps.getD 13 undef = .int .i64 (k : Int) := hs 13 (by kernel_rfl)
                  have h90 : a.tmps.getD 90 undef = .bool false := hd 3 90 (by kernel_rfl)
                  clear hd hs
                  refine wpOp_no rfl rfl rfl h90 ?_
                  exact hK _ _ rfl hG (Below.refl _ _)
                · intro a x hG hd hs K hK
                  have h7 : a.tmps.getD 7 undef = .pointer (some ⟨g7, 0, none⟩) := hs 7 (by kernel_rfl)
                  have h91 : a.tmps.getD 91 undef = undef := hd 4 91 (by kernel_rfl)
                  have h90 : a.tmps.getD 90 undef = .bool false := hd 3 90 (by kernel_rfl)
                  clear hd hs
                  refine wpOp_no rfl rfl rfl h90 ?_
                  exact hK _ _ rfl hG (Below.refl _ _)
                · intro a x hG hd hs K hK
                  have h92 : a.tmps.getD 92 undef = undef := hd 5 92 (by kernel_rfl)
                  have h90 : a.tmps.getD 90 undef = .bool false := hd 3 90 (by kernel_rfl)
                  clear hd hs
                  refine wpOp_no rfl rfl rfl h90 ?_
                  exact hK _ _ rfl hG (Below.refl _ _)
                · intro a x hG hd hs K hK
                  have h13 : a.tmps.getD 13 undef = .int .i64 (k : Int) := hs 13 (by kernel_rfl)
                  have h90 : a.tmps.getD 90 undef = .bool false := hd 3 90 (by kernel_rfl)
                  clear hd hs
                  refine wpOp_no rfl rfl rfl h90 ?_
                  exact hK _ _ rfl hG (Below.refl _ _)
                · intro a x hG hd hs K hK
                  have h3 : a.tmps.getD 3 undef = .pointer (some ⟨g3, 0, none⟩) := hs 3 (by kernel_rfl)
                  have h94 : a.tmps.getD 94 undef = undef := hd 7 94 (by kernel_rfl)
                  have h90 : a.tmps.getD 90 undef = .bool false := hd 3 90 (by kernel_rfl)
                  clear hd hs
                  refine wpOp_no rfl rfl rfl h90 ?_
                  exact hK _ _ rfl hG (Below.refl _ _)
                · intro a x hG hd hs K hK
                  have h95 : a.tmps.getD 95 undef = undef := hd 8 95 (by kernel_rfl)
                  have h90 : a.tmps.getD 90 undef = .bool false := hd 3 90 (by kernel_rfl)
                  clear hd hs
                  refine wpOp_no rfl rfl rfl h90 ?_
                  exact hK _ _ rfl hG (Below.refl _ _)
                · intro a x hG hd hs K hK
                  have h93 : a.tmps.getD 93 undef = undef := hd 6 93 (by kernel_rfl)
                  have h96 : a.tmps.getD 96 undef = undef := hd 9 96 (by kernel_rfl)
                  have h90 : a.tmps.getD 90 undef = .bool false := hd 3 90 (by kernel_rfl)
                  clear hd hs
                  refine wpOp_no rfl rfl rfl h90 ?_
                  exact hK _ _ rfl hG (Below.refl _ _)
                · intro a x hG hd hs K hK
                  have h97 : a.tmps.getD 97 undef = undef := hd 10 97 (by kernel_rfl)
                  have h90 : a.tmps.getD 90 undef = .bool false := hd 3 90 (by kernel_rfl)
                  clear hd hs
                  refine wpOp_no rfl rfl rfl h90 ?_
                  exact hK _ _ rfl hG (Below.refl _ _)
                · intro a x hG hd hs K hK
                  have h13 : a.tmps.getD 13 undef = .int .i64 (k : Int) := hs 13 (by kernel_rfl)
                  have h98 : a.tmps.getD 98 undef = undef := hd 11 98 (by kernel_rfl)
                  clear hd hs
                  refine wpOp_undef rfl rfl rfl h98 ?_
                  exact hK _ _ rfl hG (Below.refl _ _)
                · intro a x hG hd hs K hK
                  have h9 : a.tmps.getD 9 undef = .pointer (some ⟨g9, 0, none⟩) := hs 9 (by kernel_rfl)
                  have h99 : a.tmps.getD 99 undef = undef := hd 12 99 (by kernel_rfl)
                  have h98 : a.tmps.getD 98 undef = undef := hd 11 98 (by kernel_rfl)
                  clear hd hs
                  refine wpOp_undef rfl rfl rfl h98 ?_
                  exact hK _ _ rfl hG (Below.refl _ _)
                · intro a x hG hd hs K hK
                  have h100 : a.tmps.getD 100 undef = undef := hd 13 100 (by kernel_rfl)
                  have h98 : a.tmps.getD 98 undef = undef := hd 11 98 (by kernel_rfl)
                  clear hd hs
                  refine wpOp_undef rfl rfl rfl h98 ?_
                  exact hK _ _ rfl hG (Below.refl _ _)
                · intro a x hG hd hs K hK
                  have h13 : a.tmps.getD 13 undef = .int .i64 (k : Int) := hs 13 (by kernel_rfl)
                  have h98 : a.tmps.getD 98 undef = undef := hd 11 98 (by kernel_rfl)
                  clear hd hs
                  refine wpOp_undef rfl rfl rfl h98 ?_
                  exact hK _ _ rfl hG (Below.refl _ _)
                · intro a x hG hd hs K hK
                  have h3 : a.tmps.getD 3 undef = .pointer (some ⟨g3, 0, none⟩) := hs 3 (by kernel_rfl)
                  have h102 : a.tmps.getD 102 undef = undef := hd 15 102 (by kernel_rfl)
                  have h98 : a.tmps.getD 98 undef = undef := hd 11 98 (by kernel_rfl)
                  clear hd hs
                  refine wpOp_undef rfl rfl rfl h98 ?_
                  exact hK _ _ rfl hG (Below.refl _ _)
                · intro a x hG hd hs K hK
                  have h103 : a.tmps.getD 103 undef = undef := hd 16 103 (by kernel_rfl)
                  have h98 : a.tmps.getD 98 undef = undef := hd 11 98 (by kernel_rfl)
                  clear hd hs
                  refine wpOp_undef rfl rfl rfl h98 ?_
                  exact hK _ _ rfl hG (Below.refl _ _)
                · intro a x hG hd hs K hK
                  have h101 : a.tmps.getD 101 undef = undef := hd 14 101 (by kernel_rfl)
                  have h104 : a.tmps.getD 104 undef = undef := hd 17 104 (by kernel_rfl)
                  have h98 : a.tmps.getD 98 undef = undef := hd 11 98 (by kernel_rfl)
                  clear hd hs
                  refine wpOp_undef rfl rfl rfl h98 ?_
                  exact hK _ _ rfl hG (Below.refl _ _)
                · intro a x hG hd hs K hK
                  have h98 : a.tmps.getD 98 undef = undef := hd 11 98 (by kernel_rfl)
                  have h105 : a.tmps.getD 105 undef = undef := hd 18 105 (by kernel_rfl)
                  have h90 : a.tmps.getD 90 undef = .bool false := hd 3 90 (by kernel_rfl)
                  clear hd hs
                  refine wpOp_no rfl rfl rfl h90 ?_
                  exact hK _ _ rfl hG (Below.refl _ _)
                · intro a x hG hd hs K hK
                  have h90 : a.tmps.getD 90 undef = .bool false := hd 3 90 (by kernel_rfl)
                  have h106 : a.tmps.getD 106 undef = undef := hd 19 106 (by kernel_rfl)
                  clear hd hs
                  refine wpOp_plain rfl rfl ?_
                  go_simp
                  exact hK _ _ rfl hG (Below.refl _ _)
              · intro x hG
                rintro _ rfl _ rfl _ rfl _ rfl _ rfl _ rfl _ rfl _ rfl _ rfl _ rfl _ rfl _ rfl _ rfl _ rfl _ rfl _ rfl _ rfl _ rfl _ rfl _ rfl _ rfl
                simp only [Act.put, List.setIfInBounds_toArray, List.set_cons_zero, List.set_cons_succ, REnd]
                try simp only [Exit.then]
                replace lm := lm.ext hG
                replace l7 := l7.ext hG
                replace l9 := l9.ext hG
                replace lc := lc.trans (hG.mono lc.size)
                clear hG hG0
                go_wp2
                go_roundw
                case rel => exact ⟨k + 1, by omega, by go_num, lm, l7, l9, lc⟩
                case measure => simp [intOf]; omega
            · have e1 : ((k : Int) != (n : Int)) = true := by rw [bne_iff_ne]; omega
              have hf := HFAR.out k hkn
              have H3 := Lib.hid (sl_mid HM.out k hlt)
              have H7 := Lib.hid (sl_mid HPL.out k hlt)
              have H9 := Lib.hid (sl_mid HYL.out k hlt)
              rw [hf.1] at H7
              rw [hf.2] at H9
              clear hkn hf
              generalize m.getD k Sl.zero = y at *
              refine wp_region_list 21 [(fun y_ _ => y_ = .int .i64 (k : Int)),
                (fun y_ _ => y_ = .int .i64 (n : Int)),
                (fun y_ _ => y_ = .bool true),
                (fun y_ _ => y_ = .bool true),
                (fun y_ _ => y_ = .int .i64 (k : Int)),
                (fun y_ _ => y_ = .pointer (some ⟨g7, k * 3, none⟩)),
                (fun y_ _ => y_ = .agg (scells y).toArray),
                (fun y_ _ => y_ = .int .i64 (k : Int)),
                (fun y_ _ => y_ = .pointer (some ⟨g3, k * 3, none⟩)),
                (fun y_ _ => y_ = .agg (scells y).toArray),
                (fun y_ _ => y_ = .bool false),
                (fun y_ _ => y_ = .bool false),
                (fun y_ _ => y_ = .int .i64 (k : Int)),
                (fun y_ _ => y_ = .pointer (some ⟨g9, k * 3, none⟩)),
                (fun y_ _ => y_ = .agg (scells y).toArray),
                (fun y_ _ => y_ = .int .i64 (k : Int)),
                (fun y_ _ => y_ = .pointer (some ⟨g3, k * 3, none⟩)),
                (fun y_ _ => y_ = .agg (scells y).toArray),
                (fun y_ _ => y_ = .bool false),
                (fun y_ _ => y_ = .bool false),
                (fun y_ _ => y_ = .bool false)]
                (fun x => Below wr.heap.size wr x) (by kernel_rfl) rfl (by kernel_rfl) ?_ ?_ ?_ ?_
              · exact hG0
              · exact ⟨stab_eq _, stab_eq _, stab_eq _, stab_eq _, stab_eq _, stab_eq _, stab_eq _, stab_eq _, stab_eq _, stab_eq _, stab_eq _, stab_eq _, stab_eq _, stab_eq _, stab_eq _, stab_eq _, stab_eq _, stab_eq _, stab_eq _, stab_eq _, stab_eq _, trivial⟩
              · refine ⟨?_, ?_, ?_, ?_, ?_, ?_, ?_, ?_, ?_, ?_, ?_, ?_, ?_, ?_, ?_, ?_, ?_, ?_, ?_, ?_, ?_, trivial⟩
                · intro a x hG hd hs K hK
                  have h13 : a.tmps.getD 13 undef = .int .i64 (k : Int) := hs 13 (by kernel_rfl)
                  clear hd hs
                  refine wpOp_plain rfl rfl ?_
                  go_simp
                  exact hK _ _ rfl hG (Below.refl _ _)
                · intro a x hG hd hs K hK
                  have h1 : a.tmps.getD 1 undef = .int .i64 (n : Int) := hs 1 (by kernel_rfl)
                  clear hd hs
                  refine wpOp_plain rfl rfl ?_
                  go_simp
                  exact hK _ _ rfl hG (Below.refl _ _)
                · intro a x hG hd hs K hK
                  have h87 : a.tmps.getD 87 undef = .int .i64 (k : Int) := hd 0 87 (by kernel_rfl)
                  have h88 : a.tmps.getD 88 undef = .int .i64 (n : Int) := hd 1 88 (by kernel_rfl)
                  clear hd hs
                  refine wpOp_plain rfl rfl ?_
                  go_simp
                  exact hK _ _ rfl hG (Below.refl _ _)
                · intro a x hG hd hs K hK
                  have h89 : a.tmps.getD 89 undef = .bool true := hd 2 89 (by kernel_rfl)
                  clear hd hs
                  refine wpOp_plain rfl rfl ?_
                  go_simp
                  exact hK _ _ rfl hG (Below.refl _ _)
                · intro a x hG hd hs K hK
                  have h13 : a.tmps.getD 13 undef = .int .i64 (k : Int) := hs 13 (by kernel_rfl)
                  have h90 : a.tmps.getD 90 undef = .bool true := hd 3 90 (by kernel_rfl)
                  clear hd hs
                  refine wpOp_yes rfl rfl rfl h90 ?_
                  go_simp
                  exact hK _ _ rfl hG (Below.refl _ _)
                · intro a x hG hd hs K hK
                  have h7 : a.tmps.getD 7 undef = .pointer (some ⟨g7, 0, none⟩) := hs 7 (by kernel_rfl)
                  have h91 : a.tmps.getD 91 undef = .int .i64 (k : Int) := hd 4 91 (by kernel_rfl)
                  have h90 : a.tmps.getD 90 undef = .bool true := hd 3 90 (by kernel_rfl)
                  clear hd hs
                  refine wpOp_yes rfl rfl rfl h90 ?_
                  go_simp
                  exact hK _ _ rfl hG (Below.refl _ _)
                · intro a x hG hd hs K hK
                  have h92 : a.tmps.getD 92 undef = .pointer (some ⟨g7, k * 3, none⟩) := hd 5 92 (by kernel_rfl)
                  have h90 : a.tmps.getD 90 undef = .bool true := hd 3 90 (by kernel_rfl)
                  clear hd hs
                  refine wpOp_yes rfl rfl rfl h90 ?_
                  refine wp_load_mid 26 (.tmp 92) rfl g7 (k * 3) h92 (scells y) _ ((l7.ext hG).rangeMid (k * 3) _ H7.out) Try.underlying26 rfl (infoS y) ?_
                  exact hK _ _ rfl hG (Below.refl _ _)
                · intro a x hG hd hs K hK
                  have h13 : a.tmps.getD 13 undef = .int .i64 (k : Int) := hs 13 (by kernel_rfl)
                  have h90 : a.tmps.getD 90 undef = .bool true := hd 3 90 (by kernel_rfl)
                  clear hd hs
                  refine wpOp_yes rfl rfl rfl h90 ?_
                  go_simp
                  exact hK _ _ rfl hG (Below.refl _ _)
                · intro a x hG hd hs K hK
                  have h3 : a.tmps.getD 3 undef = .pointer (some ⟨g3, 0, none⟩) := hs 3 (by kernel_rfl)
                  have h94 : a.tmps.getD 94 undef = .int .i64 (k : Int) := hd 7 94 (by kernel_rfl)
                  have h90 : a.tmps.getD 90 undef = .bool true := hd 3 90 (by kernel_rfl)
                  clear hd hs
                  refine wpOp_yes rfl rfl rfl h90 ?_
                  go_simp
                  exact hK _ _ rfl hG (Below.refl _ _)
                · intro a x hG hd hs K hK
                  have h95 : a.tmps.getD 95 undef = .pointer (some ⟨g3, k * 3, none⟩) := hd 8 95 (by kernel_rfl)
                  have h90 : a.tmps.getD 90 undef = .bool true := hd 3 90 (by kernel_rfl)
                  clear hd hs
                  refine wpOp_yes rfl rfl rfl h90 ?_
                  refine wp_load_mid 26 (.tmp 95) rfl g3 (k * 3) h95 (scells y) _ ((lm.ext hG).rangeMid (k * 3) _ H3.out) Try.underlying26 rfl (infoS y) ?_
                  exact hK _ _ rfl hG (Below.refl _ _)
                · intro a x hG hd hs K hK
                  have h93 : a.tmps.getD 93 undef = .agg (scells y).toArray := hd 6 93 (by kernel_rfl)
                  have h96 : a.tmps.getD 96 undef = .agg (scells y).toArray := hd 9 96 (by kernel_rfl)
                  have h90 : a.tmps.getD 90 undef = .bool true := hd 3 90 (by kernel_rfl)
                  clear hd hs
                  refine wpOp_yes rfl rfl rfl h90 ?_
                  refine wp_binop .neq 26 26 (.tmp 93) (.tmp 96) rfl h93 h96 eqGuardS (run_eql_sl y y true (by simp) _).2 ?_
                  exact hK _ _ rfl hG (Below.refl _ _)
                · intro a x hG hd hs K hK
                  have h97 : a.tmps.getD 97 undef = .bool false := hd 10 97 (by kernel_rfl)
                  have h90 : a.tmps.getD 90 undef = .bool true := hd 3 90 (by kernel_rfl)
                  clear hd hs
                  refine wpOp_yes rfl rfl rfl h90 ?_
                  go_simp
                  exact hK _ _ rfl hG (Below.refl _ _)
                · intro a x hG hd hs K hK
                  have h13 : a.tmps.getD 13 undef = .int .i64 (k : Int) := hs 13 (by kernel_rfl)
                  have h98 : a.tmps.getD 98 undef = .bool false := hd 11 98 (by kernel_rfl)
                  clear hd hs
                  refine wpOp_yes rfl rfl rfl h98 ?_
                  go_simp
                  exact hK _ _ rfl hG (Below.refl _ _)
                · intro a x hG hd hs K hK
                  have h9 : a.tmps.getD 9 undef = .pointer (some ⟨g9, 0, none⟩) := hs 9 (by kernel_rfl)
                  have h99 : a.tmps.getD 99 undef = .int .i64 (k : Int) := hd 12 99 (by kernel_rfl)
                  have h98 : a.tmps.getD 98 undef = .bool false := hd 11 98 (by kernel_rfl)
                  clear hd hs
                  refine wpOp_yes rfl rfl rfl h98 ?_
                  go_simp
                  exact hK _ _ rfl hG (Below.refl _ _)
                · intro a x hG hd hs K hK
                  have h100 : a.tmps.getD 100 undef = .pointer (some ⟨g9, k * 3, none⟩) := hd 13 100 (by kernel_rfl)
                  have h98 : a.tmps.getD 98 undef = .bool false := hd 11 98 (by kernel_rfl)
                  clear hd hs
                  refine wpOp_yes rfl rfl rfl h98 ?_
                  refine wp_load_mid 26 (.tmp 100) rfl g9 (k * 3) h100 (scells y) _ ((l9.ext hG).rangeMid (k * 3) _ H9.out) Try.underlying26 rfl (infoS y) ?_
                  exact hK _ _ rfl hG (Below.refl _ _)
                · intro a x hG hd hs K hK
                  have h13 : a.tmps.getD 13 undef = .int .i64 (k : Int) := hs 13 (by kernel_rfl)
                  have h98 : a.tmps.getD 98 undef = .bool false := hd 11 98 (by kernel_rfl)
                  clear hd hs
                  refine wpOp_yes rfl rfl rfl h98 ?_
                  go_simp
                  exact hK _ _ rfl hG (Below.refl _ _)
                · intro a x hG hd hs K hK
                  have h3 : a.tmps.getD 3 undef = .pointer (some ⟨g3, 0, none⟩) := hs 3 (by kernel_rfl)
                  have h102 : a.tmps.getD 102 undef = .int .i64 (k : Int) := hd 15 102 (by kernel_rfl)
                  have h98 : a.tmps.getD 98 undef = .bool false := hd 11 98 (by kernel_rfl)
                  clear hd hs
                  refine wpOp_yes rfl rfl rfl h98 ?_
                  go_simp
                  exact hK _ _ rfl hG (Below.refl _ _)
                · intro a x hG hd hs K hK
                  have h103 : a.tmps.getD 103 undef = .pointer (some ⟨g3, k * 3, none⟩) := hd 16 103 (by kernel_rfl)
                  have h98 : a.tmps.getD 98 undef = .bool false := hd 11 98 (by kernel_rfl)
                  clear hd hs
                  refine wpOp_yes rfl rfl rfl h98 ?_
                  refine wp_load_mid 26 (.tmp 103) rfl g3 (k * 3) h103 (scells y) _ ((lm.ext hG).rangeMid (k * 3) _ H3.out) Try.underlying26 rfl (infoS y) ?_
                  exact hK _ _ rfl hG (Below.refl _ _)
                · intro a x hG hd hs K hK
                  have h101 : a.tmps.getD 101 undef = .agg (scells y).toArray := hd 14 101 (by kernel_rfl)
                  have h104 : a.tmps.getD 104 undef = .agg (scells y).toArray := hd 17 104 (by kernel_rfl)
                  have h98 : a.tmps.getD 98 undef = .bool false := hd 11 98 (by kernel_rfl)
                  clear hd hs
                  refine wpOp_yes rfl rfl rfl h98 ?_
                  refine wp_binop .neq 26 26 (.tmp 101) (.tmp 104) rfl h101 h104 eqGuardS (run_eql_sl y y true (by simp) _).2 ?_
                  exact hK _ _ rfl hG (Below.refl _ _)
                · intro a x hG hd hs K hK
                  have h98 : a.tmps.getD 98 undef = .bool false := hd 11 98 (by kernel_rfl)
                  have h105 : a.tmps.getD 105 undef = .bool false := hd 18 105 (by kernel_rfl)
                  have h90 : a.tmps.getD 90 undef = .bool true := hd 3 90 (by kernel_rfl)
                  clear hd hs
                  refine wpOp_yes rfl rfl rfl h90 ?_
                  go_simp
                  exact hK _ _ rfl hG (Below.refl _ _)
                · intro a x hG hd hs K hK
                  have h90 : a.tmps.getD 90 undef = .bool true := hd 3 90 (by kernel_rfl)
                  have h106 : a.tmps.getD 106 undef = .bool false := hd 19 106 (by kernel_rfl)
                  clear hd hs
                  refine wpOp_plain rfl rfl ?_
                  go_simp
                  exact hK _ _ rfl hG (Below.refl _ _)
              · intro x hG
                rintro _ rfl _ rfl _ rfl _ rfl _ rfl _ rfl _ rfl _ rfl _ rfl _ rfl _ rfl _ rfl _ rfl _ rfl _ rfl _ rfl _ rfl _ rfl _ rfl _ rfl _ rfl
                simp only [Act.put, List.setIfInBounds_toArray, List.set_cons_zero, List.set_cons_succ, REnd]
                try simp only [Exit.then]
                replace lm := lm.ext hG
                replace l7 := l7.ext hG
                replace l9 := l9.ext hG
                replace lc := lc.trans (hG.mono lc.size)
                clear hG hG0
                go_wp2
                go_roundw
                case rel => exact ⟨k + 1, by omega, by go_num, lm, l7, l9, lc⟩
                case measure => simp [intOf]; omega
          · obtain rfl : k = 40 := by omega
            rw [show (((40 : Nat)) : Int) = 40 from rfl]
            have km := lm
            have c := lc
            clear lm lc l7 l9
            have hr := km.range
            go_wp2_with (refine wpList_load_at 28 (.tmp 3) rfl rfl g3 0 rfl (mcells m) _ hr Try.underlying28 rfl (infoM _ HM.out) ?_)
            clear hr
            refine (free_any m _ HM.out).mono ?_
            rintro e w20 ⟨rfl, b20⟩
            replace km := km.ext b20
            replace c := c.trans (b20.mono c.size)
            clear b20
            have hfs := Im.free_says HG.out
            have HCA := Lib.hid (fun n h => (cells_atN m n h).1)
            generalize Im.freeN m = N at *
            generalize Im.freeE m = E9 at *
            rcases hfs with hfs | ⟨rfl, hf1, hf2, hf3⟩
            · have e9 : ((E9 : Int) != 0) = true := by rw [bne_iff_ne]; omega
              clear hfs
              go_wp2_with fail
              refine (awakeM_any _).mono ?_
              rintro e w21 ⟨rfl, b21⟩
              go_wp2
              go_ret
              exact ⟨rfl, c.trans (b21.mono c.size)⟩
            · have z0 := km.cell (N * 3)
              rw [HCA.out N (by rw [HM.out]; exact hf2), hf3] at z0
              have q1 : (0 : Int) < N := by omega
              have q2 : (N : Int) < 40 := by omega
              clear hf3
              rw [show (((0 : Nat)) : Int) = 0 from rfl]
              go_wp2_with fail
              refine (awakeM_any _).mono ?_
              rintro e w21 ⟨rfl, b21⟩
              go_wp2
              go_ret
              exact ⟨rfl, c.trans (b21.mono c.size)⟩

/-- What the walk gives, for every argument and every world that holds the table. -/
theorem imapMoves_contract (H : Type) (enc : TypeId × Value → H) (W : World) (base : Nat) (args : Array Value) (ds gs : List (DataW H)) (before : List MemPlace)
    (hval : ∀ (j : Nat) t v, Try.f4.params[j]? = some t → args[j]? = some v → Value.okWide Try.prog W .any base t v)
    (hW : DataW.Whole enc Try.prog Try.f4.params.toList Rows.imapMovesSpec.vars false W args.toList ds gs before) :
    Calls Try.prog 4 args W fun e W' => ∃ v, e = .returned v ∧ Rows.imapMovesSpec.post enc Try.prog Try.f4 false true false false W args v W' := by
  have hW' := hW
  obtain ⟨p, q, hA0, hV, hps, hfz, hnd⟩ := hW
  have hA : DataW.TrodAll enc Try.prog W 0 (fun _ => true) true Try.f4.params.toList args.toList ds p := hA0
  rw [Try.params4] at hA hval
  obtain ⟨v0, vs0, d0, ds0, p0, q0, hargs, rfl, rfl, h0, r0⟩ := trodAll_cons hA
  obtain ⟨v1, vs1, d1, ds1, p1, q1, rfl, rfl, rfl, h1, r1⟩ := trodAll_cons r0
  obtain ⟨v2, vs2, d2, ds2, p2, q2, rfl, rfl, rfl, h2, r2⟩ := trodAll_cons r1
  obtain ⟨rfl, rfl, rfl⟩ := trodAll_nil r2
  obtain rfl : args = #[v0, v1, v2] := by cases args; simp_all
  obtain ⟨rfl, rfl⟩ := trodVars_none hV
  obtain ⟨zs0, hzl0, rfl, wfz0⟩ := ints_of_agg 4 (imk 40) (by kernel_rfl) (okWide_array Try.underlying28 (hval 0 28 v0 rfl rfl)) (by kernel_rfl) h0
  obtain ⟨X0, g0, e0⟩ := im_of_ints zs0 hzl0 wfz0
  rw [e0] at hW' ⊢
  obtain ⟨z1, rfl, rfl, rfl, wf1⟩ := open_int Try.underlying3 (hval 1 3 v1 rfl rfl) h1
  obtain ⟨zs2, hzl2, rfl, wfz2⟩ := ints_of_agg 3 [.i64, .u32] (by kernel_rfl) (okWide_struct Try.underlying24 (hval 2 24 v2 rfl rfl)) (by kernel_rfl) h2
  obtain ⟨za2, zb2, rfl⟩ : ∃ a b, zs2 = [a, b] := by
    match zs2, hzl2 with
    | [a, b], _ => exact ⟨a, b, rfl⟩
  have u2 := wf_u32 (wfz2 1 .u32 zb2 rfl rfl)
  obtain ⟨n2, rfl⟩ := Int.eq_ofNat_of_zero_le u2.1
  clear hA0
  refine (imapMoves_walk W X0 z1 za2 n2 g0 (by omega)).mono fun e W' ⟨he, hb⟩ => ?_
  subst he
  exact ⟨_, rfl, law_post laidOut (by rw [Try.params4]; decide +kernel) rfl Try.underlying4 rfl rfl hW' hb⟩

set_option maxRecDepth 100000 in
theorem imapMoves_lifted (os : Os) (started : os.Started) (H : Type) (enc : TypeId × Value → H) :
    ReturnsInHanded {} Try.checked os 4 .any (Rows.imapMovesSpec.pre6 enc Try.prog Try.f4 Rows.imapMovesRow.domain false) (Rows.imapMovesSpec.post enc Try.prog Try.f4 false true false false) := by
  refine returnsInHanded_of_change (C := Try.checked) own started (by kernel_rfl) Try.func4
    (ChangeSpec.witness6 (enc := enc) (C := Try.checked) false ⟨#[], #[.agg #[.int .i64 0, .int .u32 0, .int .i64 0, .int .i64 0, .int .u32 0, .int .i64 0, .int .i64 0, .int .u32 0, .int .i64 0, .int .i64 0, .int .u32 0, .int .i64 0, .int .i64 0, .int .u32 0, .int .i64 0, .int .i64 0, .int .u32 0, .int .i64 0, .int .i64 0, .int .u32 0, .int .i64 0, .int .i64 0, .int .u32 0, .int .i64 0, .int .i64 0, .int .u32 0, .int .i64 0, .int .i64 0, .int .u32 0, .int .i64 0, .int .i64 0, .int .u32 0, .int .i64 0, .int .i64 0, .int .u32 0, .int .i64 0, .int .i64 0, .int .u32 0, .int .i64 0, .int .i64 0, .int .u32 0, .int .i64 0, .int .i64 0, .int .u32 0, .int .i64 0, .int .i64 0, .int .u32 0, .int .i64 0, .int .i64 0, .int .u32 0, .int .i64 0, .int .i64 0, .int .u32 0, .int .i64 0, .int .i64 0, .int .u32 0, .int .i64 0, .int .i64 0, .int .u32 0, .int .i64 0, .int .i64 0, .int .u32 0, .int .i64 0, .int .i64 0, .int .u32 0, .int .i64 0, .int .i64 0, .int .u32 0, .int .i64 0, .int .i64 0, .int .u32 0, .int .i64 0, .int .i64 0, .int .u32 0, .int .i64 0, .int .i64 0, .int .u32 0, .int .i64 0, .int .i64 0, .int .u32 0, .int .i64 0, .int .i64 0, .int .u32 0, .int .i64 0, .int .i64 0, .int .u32 0, .int .i64 0, .int .i64 0, .int .u32 0, .int .i64 0, .int .i64 0, .int .u32 0, .int .i64 0, .int .i64 0, .int .u32 0, .int .i64 0, .int .i64 0, .int .u32 0, .int .i64 0, .int .i64 0, .int .u32 0, .int .i64 0, .int .i64 0, .int .u32 0, .int .i64 0, .int .i64 0, .int .u32 0, .int .i64 0, .int .i64 0, .int .u32 0, .int .i64 0, .int .i64 0, .int .u32 0, .int .i64 0, .int .i64 0, .int .u32 0, .int .i64 0, .int .i64 0, .int .u32 0, .int .i64 0], .int .i64 0, .agg #[.int .i64 0, .int .u32 0]], []⟩ 8 (by kernel_rfl) (by kernel_rfl) (by kernel_rfl) (by kernel_rfl)) ?_
  intro W base args ds gs before hval hW _ _
  exact imapMoves_contract H enc W base args ds gs before hval hW

theorem imapMoves_holds : Rows.ImapMovesSaid :=
  OpenClaim.holds_of_wide 4 Try.f4 rfl rfl rfl rfl rfl rfl rfl ⟨rfl, rfl, rfl, rfl, rfl⟩ rfl rfl rfl rfl rfl (by kernel_rfl) Try.func4 (by kernel_rfl)
    (of_decide_eq_true (by kernel_rfl)) (by unfold Func.isWrapper; first | (rw [if_pos (by decide +kernel)]; kernel_rfl) | (rw [if_neg (by decide +kernel)]; exact ⟨rfl, rfl⟩))
    (fun os started H enc _ => imapMoves_lifted os started H enc)

end Go.Proofs.Ytpgibmffgliibaa
