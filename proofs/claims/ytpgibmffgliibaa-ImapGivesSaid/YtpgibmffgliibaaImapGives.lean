/-
  ImapGives: as often as a number is given its Ver is one more, and nothing else changes; two maps have the same blocks just if they are the same. For every input.
-/
import Derived.Test.YtpgibmffgliibaaImE
import Derived.Test.YtpgibmffgliibaaImapM
import Derived.Test.YtpgibmffgliibaaRegU
import Derived.Test.YtpgibmffgliibaaVars
import Derived.Test.YtpgibmffgliibaaImGO
import Derived.IntWalk
import Derived.Deep.CutBlock
namespace Go.Proofs.Ytpgibmffgliibaa
open Go.ChangeShapes Go.WideShapes Go.ChangeAt Go.RowKit
open Im (Sl)

theorem chkPtr : chkT Try.prog 3 24 = true := by kernel_rfl
theorem cellsPtr : Try.prog.cellsOf 24 = 2 := by kernel_rfl
theorem infoP (a : Int) (s : Nat) : (Try.prog.info? 24).map (·.size) = some ([Value.int .i64 a, Value.int .u32 (s : Int)]).length := by kernel_rfl
theorem eqGuardP : Try.prog.eqGuardType Try.prog.depth 24 = false := by kernel_rfl
theorem run_eql_pt (a : Int) (s : Nat) (W : World) :
    (binOp .neq 24 (.agg #[.int .i64 a, .int .u32 (s : Int)]) (.agg #[.int .i64 a, .int .u32 (s : Int)])).run Try.prog W = .ok (.bool false) W :=
  (run_eql_cells 3 chkPtr (by decide) (by kernel_rfl) [.int .i64 a, .int .u32 (s : Int)] [.int .i64 a, .int .u32 (s : Int)] (by rw [cellsPtr]; rfl) (by rw [cellsPtr]; rfl) (by
    intro j x y hx hy
    rw [hx] at hy
    injection hy with hy
    subst hy
    match j, hx with
    | 0, hx => injection hx with hx; exact ⟨_, _, _, hx.symm, hx.symm⟩
    | 1, hx => injection hx with hx; exact ⟨_, _, _, hx.symm, hx.symm⟩
    | j + 2, hx => simp at hx) W true (by simp)).2
theorem ptr_mid (m : List Sl) (n : Nat) (h : n < m.length) : [Value.int .i64 (m.getD n Sl.zero).a, .int .u32 ((m.getD n Sl.zero).s : Int)] = ((mcells m).drop (n * 3)).take 2 := by
  rw [Nat.mul_comm, mcells_drop1 m n h]; rfl
theorem sl_mid {m : List Sl} (hm : m.length = 40) (j : Nat) (hj : j < 40) : scells (m.getD j Sl.zero) = ((mcells m).drop (j * 3)).take (scells (m.getD j Sl.zero)).length := by
  have h := scells_mid m j (by omega)
  rw [Nat.mul_comm]
  exact h
theorem str_same (l l' : List UInt8) : ((⟨l.toArray⟩ : ByteArray).toList == (⟨l'.toArray⟩ : ByteArray).toList) = decide (l = l') := by
  rw [ByteArray.toList_eq, ByteArray.toList_eq, Bool.eq_iff_iff]
  simp
/-- What the rounds keep. -/
def Kept (m : List Sl) (i : Int) (x : List Sl) : Prop := Im.Good x ∧ ∀ j : Nat, (j : Int) ≠ i → x.getD j Sl.zero = m.getD j Sl.zero
theorem Kept.next {m x : List Sl} {i : Int} (h : Kept m i x) (he : Im.giveE x i = 0) : Kept m i (Im.giveM x i) := by
  obtain ⟨n, hn, _, _, _, _, _, hf⟩ := Im.give_step h.1 i he
  refine ⟨Im.good_give h.1 i, fun j hj => (hf j (fun e => hj (by rw [hn, e]))).trans (h.2 j hj)⟩

set_option maxRecDepth 100000 in
set_option maxHeartbeats 16000000 in
theorem imapGives_walk (w : World) (m o : List Sl) (i : Int) (t : Nat) (gm : Im.Good m) (go : Im.Good o) (ht : t < 256) :
    Calls Try.prog 5 #[.agg (gcells m o i t).toArray] w fun e w' => e = .returned (.bool true) ∧ Below w.heap.size w w' := by
  have HG := Lib.hid gm
  have HGO := Lib.hid go
  have HM := Lib.hid gm.1
  have HO := Lib.hid go.1
  have HKP : Hid (Kept m i m) := Lib.hid ⟨gm, fun j _ => rfl⟩
  clear gm go
  go_enter Try.func5, Try.ntmps5
  go_upto_region 1 with (fail)
  have kq := Blk.new w 46 (gcells m o i t).toArray
  have c := (Below.refl w.heap.size w).alloc (Nat.le_refl _) (.cells (gcells m o i t).toArray 46)
  change Blk _ _ _ (gcells m o i t) at kq
  generalize w.alloc (.cells (gcells m o i t).toArray 46) = w0 at *
  generalize w.heap.size = gq at kq ⊢
  have hzv := zeroIM
  refine wp_region_vars 14 [.pointer (some ⟨gq, 0, none⟩), .agg (mcells m).toArray, .pointer (some ⟨gq, 120, none⟩), .agg (mcells o).toArray, .pointer (some ⟨gq, 240, none⟩), .int .i64 i, .pointer (some ⟨gq, 241, none⟩), .int .u8 (t : Int), undef, undef, undef, undef, .int .i64 i, .int .u8 (t : Int)] [⟨8, 10, 3, 19, 28, mcells Im.zero, mcells m⟩, ⟨9, 11, 4, 21, 28, mcells Im.zero, mcells o⟩] (by kernel_rfl) rfl (by kernel_rfl) rfl ?_ ?_ ?_
  · intro xv hxv
    simp only [List.mem_cons, List.not_mem_nil, or_false] at hxv
    rcases hxv with rfl | rfl
    · refine ⟨by kernel_rfl, by kernel_rfl, of_decide_eq_true (by kernel_rfl), (by show (mcells Im.zero).length = (mcells m).length; rw [mcells_len Im.zero, mcells_len m, HM.out]; rfl), by kernel_rfl, ⟨1, by kernel_rfl, by simp, rfl⟩, ?_, ?_⟩
      · intro a x K h
        refine wpOp_plain rfl rfl ?_
        go_simp
        exact h
      · intro a x g K h1 h2 h3 h
        refine wpOp_plain rfl rfl ?_
        refine wp_store_mid 28 (.tmp 3) (.tmp 19) rfl g 0 (mcells m).toArray h1 h2 (by rw [List.size_toArray]; exact h3) (infoM m HM.out) (all_oneCell_toArray mcells_one) ?_
        exact h
    · refine ⟨by kernel_rfl, by kernel_rfl, of_decide_eq_true (by kernel_rfl), (by show (mcells Im.zero).length = (mcells o).length; rw [mcells_len Im.zero, mcells_len o, HO.out]; rfl), by kernel_rfl, ⟨3, by kernel_rfl, by simp, rfl⟩, ?_, ?_⟩
      · intro a x K h
        refine wpOp_plain rfl rfl ?_
        go_simp
        exact h
      · intro a x g K h1 h2 h3 h
        refine wpOp_plain rfl rfl ?_
        refine wp_store_mid 28 (.tmp 4) (.tmp 21) rfl g 0 (mcells o).toArray h1 h2 (by rw [List.size_toArray]; exact h3) (infoM o HO.out) (all_oneCell_toArray mcells_one) ?_
        exact h
  · refine ⟨?_, ?_, ?_, ?_, ?_, ?_, ?_, ?_, ?_, ?_, ?_, ?_, ?_, ?_, trivial⟩
    · intro _ a x hG hd hs K hK
      replace hG : Below (w0).heap.size (w0) x := hG
      replace hK : ∀ (v : Value) w', v = .pointer (some ⟨gq, 0, none⟩) → Below (w0).heap.size (w0) w' → Below x.heap.size x w' → K _ w' := fun v w' e1 e2 e3 => hK v w' (fun _ => e1) e2 e3
      have h1 : a.tmps.getD 1 undef = .pointer (some ⟨gq, 0, none⟩) := hs 1 (by kernel_rfl)
      clear hd hs
      refine wpOp_plain rfl rfl ?_
      go_simp
      exact hK _ _ rfl hG (Below.refl _ _)
    · intro _ a x hG hd hs K hK
      replace hG : Below (w0).heap.size (w0) x := hG
      replace hK : ∀ (v : Value) w', v = .agg (mcells m).toArray → Below (w0).heap.size (w0) w' → Below x.heap.size x w' → K _ w' := fun v w' e1 e2 e3 => hK v w' (fun _ => e1) e2 e3
      have h18 : a.tmps.getD 18 undef = .pointer (some ⟨gq, 0, none⟩) := hd 0 18 (by kernel_rfl) (by simp)
      clear hd hs
      refine wpOp_plain rfl rfl ?_
      refine wp_load_mid 28 (.tmp 18) rfl gq 0 h18 (mcells m) _ ((kq.ext hG).rangeMid 0 _ (gcells_m _ _ _ _)) Try.underlying28 rfl (infoM _ HM.out) ?_
      exact hK _ _ rfl hG (Below.refl _ _)
    · intro _ a x hG hd hs K hK
      replace hG : Below (w0).heap.size (w0) x := hG
      replace hK : ∀ (v : Value) w', v = .pointer (some ⟨gq, 120, none⟩) → Below (w0).heap.size (w0) w' → Below x.heap.size x w' → K _ w' := fun v w' e1 e2 e3 => hK v w' (fun _ => e1) e2 e3
      have h1 : a.tmps.getD 1 undef = .pointer (some ⟨gq, 0, none⟩) := hs 1 (by kernel_rfl)
      clear hd hs
      refine wpOp_plain rfl rfl ?_
      go_simp
      exact hK _ _ rfl hG (Below.refl _ _)
    · intro _ a x hG hd hs K hK
      replace hG : Below (w0).heap.size (w0) x := hG
      replace hK : ∀ (v : Value) w', v = .agg (mcells o).toArray → Below (w0).heap.size (w0) w' → Below x.heap.size x w' → K _ w' := fun v w' e1 e2 e3 => hK v w' (fun _ => e1) e2 e3
      have h20 : a.tmps.getD 20 undef = .pointer (some ⟨gq, 120, none⟩) := hd 2 20 (by kernel_rfl) (by simp)
      clear hd hs
      refine wpOp_plain rfl rfl ?_
      refine wp_load_mid 28 (.tmp 20) rfl gq 120 h20 (mcells o) _ ((kq.ext hG).rangeMid 120 _ (gcells_o _ _ _ _ HM.out)) Try.underlying28 rfl (infoM _ HO.out) ?_
      exact hK _ _ rfl hG (Below.refl _ _)
    · intro _ a x hG hd hs K hK
      replace hG : Below (w0).heap.size (w0) x := hG
      replace hK : ∀ (v : Value) w', v = .pointer (some ⟨gq, 240, none⟩) → Below (w0).heap.size (w0) w' → Below x.heap.size x w' → K _ w' := fun v w' e1 e2 e3 => hK v w' (fun _ => e1) e2 e3
      have h1 : a.tmps.getD 1 undef = .pointer (some ⟨gq, 0, none⟩) := hs 1 (by kernel_rfl)
      clear hd hs
      refine wpOp_plain rfl rfl ?_
      go_simp
      exact hK _ _ rfl hG (Below.refl _ _)
    · intro _ a x hG hd hs K hK
      replace hG : Below (w0).heap.size (w0) x := hG
      replace hK : ∀ (v : Value) w', v = .int .i64 i → Below (w0).heap.size (w0) w' → Below x.heap.size x w' → K _ w' := fun v w' e1 e2 e3 => hK v w' (fun _ => e1) e2 e3
      have h22 : a.tmps.getD 22 undef = .pointer (some ⟨gq, 240, none⟩) := hd 4 22 (by kernel_rfl) (by simp)
      clear hd hs
      refine wpOp_plain rfl rfl ?_
      have x0 := (kq.ext hG).cell 240
      rw [(gcells_at _ _ _ _ HM.out HO.out).1] at x0
      go_simp
      exact hK _ _ rfl hG (Below.refl _ _)
    · intro _ a x hG hd hs K hK
      replace hG : Below (w0).heap.size (w0) x := hG
      replace hK : ∀ (v : Value) w', v = .pointer (some ⟨gq, 241, none⟩) → Below (w0).heap.size (w0) w' → Below x.heap.size x w' → K _ w' := fun v w' e1 e2 e3 => hK v w' (fun _ => e1) e2 e3
      have h1 : a.tmps.getD 1 undef = .pointer (some ⟨gq, 0, none⟩) := hs 1 (by kernel_rfl)
      clear hd hs
      refine wpOp_plain rfl rfl ?_
      go_simp
      exact hK _ _ rfl hG (Below.refl _ _)
    · intro _ a x hG hd hs K hK
      replace hG : Below (w0).heap.size (w0) x := hG
      replace hK : ∀ (v : Value) w', v = .int .u8 (t : Int) → Below (w0).heap.size (w0) w' → Below x.heap.size x w' → K _ w' := fun v w' e1 e2 e3 => hK v w' (fun _ => e1) e2 e3
      have h24 : a.tmps.getD 24 undef = .pointer (some ⟨gq, 241, none⟩) := hd 6 24 (by kernel_rfl) (by simp)
      clear hd hs
      refine wpOp_plain rfl rfl ?_
      have x0 := (kq.ext hG).cell 241
      rw [(gcells_at _ _ _ _ HM.out HO.out).2] at x0
      go_simp
      exact hK _ _ rfl hG (Below.refl _ _)
    · intro hno
      exact absurd rfl ((hno _ (List.Mem.head _)).1)
    · intro hno
      exact absurd rfl ((hno _ (List.Mem.tail _ (List.Mem.head _))).1)
    · intro hno
      exact absurd rfl ((hno _ (List.Mem.head _)).2)
    · intro hno
      exact absurd rfl ((hno _ (List.Mem.tail _ (List.Mem.head _))).2)
    · intro _ a x hG hd hs K hK
      replace hG : Below (w0).heap.size (w0) x := hG
      replace hK : ∀ (v : Value) w', v = .int .i64 i → Below (w0).heap.size (w0) w' → Below x.heap.size x w' → K _ w' := fun v w' e1 e2 e3 => hK v w' (fun _ => e1) e2 e3
      have h23 : a.tmps.getD 23 undef = .int .i64 i := hd 5 23 (by kernel_rfl) (by simp)
      clear hd hs
      refine wpOp_plain rfl rfl ?_
      go_simp
      exact hK _ _ rfl hG (Below.refl _ _)
    · intro _ a x hG hd hs K hK
      replace hG : Below (w0).heap.size (w0) x := hG
      replace hK : ∀ (v : Value) w', v = .int .u8 (t : Int) → Below (w0).heap.size (w0) w' → Below x.heap.size x w' → K _ w' := fun v w' e1 e2 e3 => hK v w' (fun _ => e1) e2 e3
      have h25 : a.tmps.getD 25 undef = .int .u8 (t : Int) := hd 7 25 (by kernel_rfl) (by simp)
      clear hd hs
      refine wpOp_plain rfl rfl ?_
      go_simp
      exact hK _ _ rfl hG (Below.refl _ _)
  · intro x gs hG hgs
    intro v0 hv0 v1 hv1 v2 hv2 v3 hv3 v4 hv4 v5 hv5 v6 hv6 v7 hv7 v8 hv8 v9 hv9 v12 hv12 v13 hv13
    replace hv0 : v0 = .pointer (some ⟨gq, 0, none⟩) := hv0
    subst hv0
    replace hv1 : v1 = .agg (mcells m).toArray := hv1
    subst hv1
    replace hv2 : v2 = .pointer (some ⟨gq, 120, none⟩) := hv2
    subst hv2
    replace hv3 : v3 = .agg (mcells o).toArray := hv3
    subst hv3
    replace hv4 : v4 = .pointer (some ⟨gq, 240, none⟩) := hv4
    subst hv4
    replace hv5 : v5 = .int .i64 i := hv5
    subst hv5
    replace hv6 : v6 = .pointer (some ⟨gq, 241, none⟩) := hv6
    subst hv6
    replace hv7 : v7 = .int .u8 (t : Int) := hv7
    subst hv7
    replace hv8 : v8 = .pointer (some ⟨gs.getD 0 0, 0, none⟩) := hv8
    subst hv8
    replace hv9 : v9 = .pointer (some ⟨gs.getD 1 0, 0, none⟩) := hv9
    subst hv9
    replace hv12 : v12 = .int .i64 i := hv12
    subst hv12
    replace hv13 : v13 = .int .u8 (t : Int) := hv13
    subst hv13
    obtain ⟨gl0, gk0⟩ := hgs 0 _ rfl
    replace gl0 : (w0).heap.size ≤ gs.getD 0 0 := gl0
    replace gk0 : Blk x (gs.getD 0 0) 28 (mcells m) := gk0
    obtain ⟨gl1, gk1⟩ := hgs 1 _ rfl
    replace gl1 : (w0).heap.size ≤ gs.getD 1 0 := gl1
    replace gk1 : Blk x (gs.getD 1 0) 28 (mcells o) := gk1
    clear hgs
    generalize gs.getD 0 0 = gv0 at *
    generalize gs.getD 1 0 = gv1 at *
    simp only [Act.put, List.setIfInBounds_toArray, List.set_cons_zero, List.set_cons_succ, REnd]
    try simp only [Exit.then]
    replace c := c.trans (hG.mono c.size)
    have k3 := gk0
    have k4 := gk1
    obtain ⟨w1, rfl⟩ : ∃ w1, w1 = x := ⟨x, rfl⟩
    clear hG gk0 gk1 gl0 gl1 kq hzv
    generalize gv0 = g3 at *
    generalize gv1 = g4 at *
    have hr := k3.range
    have c1v := c
    have hzv := zeroIM
    go_upto_block 0 with (first | refine wpList_load_at 28 (.tmp 3) rfl rfl g3 0 rfl (mcells m) _ hr Try.underlying28 rfl (infoM _ HM.out) ?_ | with_reducible refine wpList_store_new rfl 28 (.tmp 7) (.tmp 26) rfl (mcells m) rfl rfl ?_ rfl (infoM _ HM.out) mcells_one ?_)
    · rw [mcells_len, HM.out]; exact Nat.le_refl 120
    clear hzv
    generalize hW : (w1.alloc (.cells _ 28)).setCells w1.heap.size 0 _ = w1v
    have k7 : Blk w1v w1.heap.size 28 (mcells m) := by rw [← hW]; exact Blk.varM HM.out
    have hn4 : g4 ≠ w1.heap.size := by have := k4.lt; omega
    have hn3 : g3 ≠ w1.heap.size := by have := k3.lt; omega
    have bv : Below w1.heap.size w1 w1v := by rw [← hW]; exact below_varM
    clear hW
    replace k3 := k3.ext bv
    replace k4 := k4.ext bv
    replace c := c.trans (bv.mono c.size)
    clear bv
    have hg7 : w.heap.size ≤ w1.heap.size := c1v.size
    generalize w1.heap.size = g7 at *
    clear hr
    clear c1v
    go_cut [] (fun wx => ∃ x : List Sl, Hid (Kept m i x) ∧ Blk wx g7 28 (mcells x) ∧ Blk wx g3 28 (mcells m) ∧ Blk wx g4 28 (mcells o) ∧ Below w.heap.size w wx)
    case first =>
      go_wp2
      go_loopw [8] (fun q wr => ∃ k : Nat, k ≤ 9 ∧ q = .int .i64 k ∧ ∃ x : List Sl, Hid (Kept m i x) ∧ Blk wr g7 28 (mcells x) ∧ Blk wr g3 28 (mcells m) ∧ Blk wr g4 28 (mcells o) ∧ Below w.heap.size w wr) (fun q _ => 9 - (intOf q).toNat)
      case atStart => exact ⟨0, by omega, rfl, m, HKP, k7, k3, k4, c⟩
      case round =>
        obtain ⟨k, hk, rfl, xx, HK, l7, l3, l4, lc⟩ := hrel
        clear k7 k3 k4 c
        by_cases hlt : (k : Int) < (t : Int) % 9
        · have HXL := Lib.hid HK.out.1.1
          have HYL := Lib.hid (Im.good_give HK.out.1 i).1
          have HST := Lib.hid (fun h => Im.give_step HK.out.1 i h)
          have HNX := Lib.hid (fun h => HK.out.next h)
          have hr := l7.range
          go_wp2_with (refine wpList_load_at 28 (.tmp 7) rfl rfl g7 0 rfl (mcells xx) _ hr Try.underlying28 rfl (infoM _ HXL.out) ?_)
          clear hr
          refine (give_any xx i _ HXL.out).mono ?_
          rintro e w2 ⟨rfl, b2⟩
          replace l7 := l7.ext b2
          replace l3 := l3.ext b2
          replace l4 := l4.ext b2
          replace lc := lc.trans (b2.mono lc.size)
          clear b2
          generalize Im.giveM xx i = Y at *
          generalize Im.giveE xx i = E at *
          unfold magg
          have hzv := zeroIM
          go_upto_region 7 with (with_reducible refine wpList_store_new rfl 28 (.tmp 9) (.tmp 38) rfl (mcells Y) rfl rfl ?_ rfl (infoM _ HYL.out) mcells_one ?_)
          · rw [mcells_len, HYL.out]; exact Nat.le_refl 120
          clear hzv
          generalize hW : (w2.alloc (.cells _ 28)).setCells w2.heap.size 0 _ = w2v
          have l9 : Blk w2v w2.heap.size 28 (mcells Y) := by rw [← hW]; exact Blk.varM HYL.out
          have hn9 : g7 ≠ w2.heap.size := by have := l7.lt; omega
          have bv : Below w2.heap.size w2 w2v := by rw [← hW]; exact below_varM
          clear hW
          replace l7 := l7.ext bv
          replace l3 := l3.ext bv
          replace l4 := l4.ext bv
          replace lc := lc.trans (bv.mono lc.size)
          clear bv
          generalize w2.heap.size = g9 at *
          by_cases hE : ¬ E = 0
          · have e0 : ((E : Int) != 0) = true := by rw [bne_iff_ne]; omega
            clear hE
            go_wp2
            go_meet
            exact ⟨xx, HK, l7, l3, l4, lc⟩
          · replace hE := Decidable.not_not.1 hE
            subst hE
            obtain ⟨n, hin, hn1, hn2, hv0, hv1, hyn, hfar⟩ := HST.out rfl
            subst hin
            have HKN := Lib.hid (HNX.out rfl)
            have HCY := Lib.hid (cells_atN Y n (by rw [HYL.out]; omega))
            have HCX := Lib.hid (cells_atN xx n (by rw [HXL.out]; omega))
            have HPY := Lib.hid (ptr_mid Y n (by rw [HYL.out]; omega))
            have HPX := Lib.hid (ptr_mid xx n (by rw [HXL.out]; omega))
            rw [hyn] at HCY HPY
            clear HST HNX hfar hyn
            generalize xx.getD n Sl.zero = y at *
            have q0 : (0 : Int) ≤ (n : Int) := by omega
            have q1 : (n : Int) < 40 := by omega
            rw [show (((0 : Nat)) : Int) = 0 from rfl]
            go_upto_region 8 with (fail)
            have hG0 : Below w2v.heap.size w2v w2v.drew := (Below.refl _ _).drew
            refine wp_region_list 21 [(fun y_ _ => y_ = .int .i64 (n : Int)),
              (fun y_ _ => y_ = .pointer (some ⟨g9, n * 3, none⟩)),
              (fun y_ _ => y_ = .pointer (some ⟨g9, n * 3 + 2, none⟩)),
              (fun y_ _ => y_ = .int .i64 (y.v + 1)),
              (fun y_ _ => y_ = .int .i64 (n : Int)),
              (fun y_ _ => y_ = .pointer (some ⟨g7, n * 3, none⟩)),
              (fun y_ _ => y_ = .pointer (some ⟨g7, n * 3 + 2, none⟩)),
              (fun y_ _ => y_ = .int .i64 y.v),
              (fun y_ _ => y_ = .int .i64 (y.v + 1)),
              (fun y_ _ => y_ = .bool false),
              (fun y_ _ => y_ = .bool false),
              (fun y_ _ => y_ = .int .i64 (n : Int)),
              (fun y_ _ => y_ = .pointer (some ⟨g9, n * 3, none⟩)),
              (fun y_ _ => y_ = .pointer (some ⟨g9, n * 3, none⟩)),
              (fun y_ _ => y_ = .agg #[.int .i64 y.a, .int .u32 (y.s : Int)]),
              (fun y_ _ => y_ = .int .i64 (n : Int)),
              (fun y_ _ => y_ = .pointer (some ⟨g7, n * 3, none⟩)),
              (fun y_ _ => y_ = .pointer (some ⟨g7, n * 3, none⟩)),
              (fun y_ _ => y_ = .agg #[.int .i64 y.a, .int .u32 (y.s : Int)]),
              (fun y_ _ => y_ = .bool false),
              (fun y_ _ => y_ = .bool false)]
              (fun x => Below w2v.heap.size w2v x) (by kernel_rfl) rfl (by kernel_rfl) ?_ ?_ ?_ ?_
            · exact hG0
            · exact ⟨stab_eq _, stab_eq _, stab_eq _, stab_eq _, stab_eq _, stab_eq _, stab_eq _, stab_eq _, stab_eq _, stab_eq _, stab_eq _, stab_eq _, stab_eq _, stab_eq _, stab_eq _, stab_eq _, stab_eq _, stab_eq _, stab_eq _, stab_eq _, stab_eq _, trivial⟩
            · refine ⟨?_, ?_, ?_, ?_, ?_, ?_, ?_, ?_, ?_, ?_, ?_, ?_, ?_, ?_, ?_, ?_, ?_, ?_, ?_, ?_, ?_, trivial⟩
              · intro a x hG hd hs K hK
                have h5 : a.tmps.getD 5 undef = .int .i64 (n : Int) := hs 5 (by kernel_rfl)
                clear hd hs
                refine wpOp_plain rfl rfl ?_
                go_simp
                exact hK _ _ rfl hG (Below.refl _ _)
              · intro a x hG hd hs K hK
                have h9 : a.tmps.getD 9 undef = .pointer (some ⟨g9, 0, none⟩) := hs 9 (by kernel_rfl)
                have h42 : a.tmps.getD 42 undef = .int .i64 (n : Int) := hd 0 42 (by kernel_rfl)
                clear hd hs
                refine wpOp_plain rfl rfl ?_
                go_simp
                exact hK _ _ rfl hG (Below.refl _ _)
              · intro a x hG hd hs K hK
                have h43 : a.tmps.getD 43 undef = .pointer (some ⟨g9, n * 3, none⟩) := hd 1 43 (by kernel_rfl)
                clear hd hs
                refine wpOp_plain rfl rfl ?_
                go_simp
                exact hK _ _ rfl hG (Below.refl _ _)
              · intro a x hG hd hs K hK
                have h44 : a.tmps.getD 44 undef = .pointer (some ⟨g9, n * 3 + 2, none⟩) := hd 2 44 (by kernel_rfl)
                clear hd hs
                refine wpOp_plain rfl rfl ?_
                have q := (l9.ext hG).cell (n * 3 + 2)
                rw [HCY.out.2.2] at q
                go_simp
                exact hK _ _ rfl hG (Below.refl _ _)
              · intro a x hG hd hs K hK
                have h5 : a.tmps.getD 5 undef = .int .i64 (n : Int) := hs 5 (by kernel_rfl)
                clear hd hs
                refine wpOp_plain rfl rfl ?_
                go_simp
                exact hK _ _ rfl hG (Below.refl _ _)
              · intro a x hG hd hs K hK
                have h7 : a.tmps.getD 7 undef = .pointer (some ⟨g7, 0, none⟩) := hs 7 (by kernel_rfl)
                have h46 : a.tmps.getD 46 undef = .int .i64 (n : Int) := hd 4 46 (by kernel_rfl)
                clear hd hs
                refine wpOp_plain rfl rfl ?_
                go_simp
                exact hK _ _ rfl hG (Below.refl _ _)
              · intro a x hG hd hs K hK
                have h47 : a.tmps.getD 47 undef = .pointer (some ⟨g7, n * 3, none⟩) := hd 5 47 (by kernel_rfl)
                clear hd hs
                refine wpOp_plain rfl rfl ?_
                go_simp
                exact hK _ _ rfl hG (Below.refl _ _)
              · intro a x hG hd hs K hK
                have h48 : a.tmps.getD 48 undef = .pointer (some ⟨g7, n * 3 + 2, none⟩) := hd 6 48 (by kernel_rfl)
                clear hd hs
                refine wpOp_plain rfl rfl ?_
                have q := (l7.ext hG).cell (n * 3 + 2)
                rw [HCX.out.2.2] at q
                go_simp
                exact hK _ _ rfl hG (Below.refl _ _)
              · intro a x hG hd hs K hK
                have h49 : a.tmps.getD 49 undef = .int .i64 y.v := hd 7 49 (by kernel_rfl)
                clear hd hs
                refine wpOp_plain rfl rfl ?_
                have hq1 : IntKind.i64.wrap (y.v + 1) = y.v + 1 := IntWalk.i64_in _ (by omega)
                go_simp
                exact hK _ _ rfl hG (Below.refl _ _)
              · intro a x hG hd hs K hK
                have h45 : a.tmps.getD 45 undef = .int .i64 (y.v + 1) := hd 3 45 (by kernel_rfl)
                have h50 : a.tmps.getD 50 undef = .int .i64 (y.v + 1) := hd 8 50 (by kernel_rfl)
                clear hd hs
                refine wpOp_plain rfl rfl ?_
                go_simp
                exact hK _ _ rfl hG (Below.refl _ _)
              · intro a x hG hd hs K hK
                have h51 : a.tmps.getD 51 undef = .bool false := hd 9 51 (by kernel_rfl)
                clear hd hs
                refine wpOp_plain rfl rfl ?_
                go_simp
                exact hK _ _ rfl hG (Below.refl _ _)
              · intro a x hG hd hs K hK
                have h5 : a.tmps.getD 5 undef = .int .i64 (n : Int) := hs 5 (by kernel_rfl)
                have h52 : a.tmps.getD 52 undef = .bool false := hd 10 52 (by kernel_rfl)
                clear hd hs
                refine wpOp_yes rfl rfl rfl h52 ?_
                go_simp
                exact hK _ _ rfl hG (Below.refl _ _)
              · intro a x hG hd hs K hK
                have h9 : a.tmps.getD 9 undef = .pointer (some ⟨g9, 0, none⟩) := hs 9 (by kernel_rfl)
                have h53 : a.tmps.getD 53 undef = .int .i64 (n : Int) := hd 11 53 (by kernel_rfl)
                have h52 : a.tmps.getD 52 undef = .bool false := hd 10 52 (by kernel_rfl)
                clear hd hs
                refine wpOp_yes rfl rfl rfl h52 ?_
                go_simp
                exact hK _ _ rfl hG (Below.refl _ _)
              · intro a x hG hd hs K hK
                have h54 : a.tmps.getD 54 undef = .pointer (some ⟨g9, n * 3, none⟩) := hd 12 54 (by kernel_rfl)
                have h52 : a.tmps.getD 52 undef = .bool false := hd 10 52 (by kernel_rfl)
                clear hd hs
                refine wpOp_yes rfl rfl rfl h52 ?_
                go_simp
                exact hK _ _ rfl hG (Below.refl _ _)
              · intro a x hG hd hs K hK
                have h55 : a.tmps.getD 55 undef = .pointer (some ⟨g9, n * 3, none⟩) := hd 13 55 (by kernel_rfl)
                have h52 : a.tmps.getD 52 undef = .bool false := hd 10 52 (by kernel_rfl)
                clear hd hs
                refine wpOp_yes rfl rfl rfl h52 ?_
                refine wp_load_mid 24 (.tmp 55) rfl g9 (n * 3) h55 [.int .i64 y.a, .int .u32 (y.s : Int)] _ ((l9.ext hG).rangeMid (n * 3) _ HPY.out) Try.underlying24 rfl (infoP y.a y.s) ?_
                exact hK _ _ rfl hG (Below.refl _ _)
              · intro a x hG hd hs K hK
                have h5 : a.tmps.getD 5 undef = .int .i64 (n : Int) := hs 5 (by kernel_rfl)
                have h52 : a.tmps.getD 52 undef = .bool false := hd 10 52 (by kernel_rfl)
                clear hd hs
                refine wpOp_yes rfl rfl rfl h52 ?_
                go_simp
                exact hK _ _ rfl hG (Below.refl _ _)
              · intro a x hG hd hs K hK
                have h7 : a.tmps.getD 7 undef = .pointer (some ⟨g7, 0, none⟩) := hs 7 (by kernel_rfl)
                have h57 : a.tmps.getD 57 undef = .int .i64 (n : Int) := hd 15 57 (by kernel_rfl)
                have h52 : a.tmps.getD 52 undef = .bool false := hd 10 52 (by kernel_rfl)
                clear hd hs
                refine wpOp_yes rfl rfl rfl h52 ?_
                go_simp
                exact hK _ _ rfl hG (Below.refl _ _)
              · intro a x hG hd hs K hK
                have h58 : a.tmps.getD 58 undef = .pointer (some ⟨g7, n * 3, none⟩) := hd 16 58 (by kernel_rfl)
                have h52 : a.tmps.getD 52 undef = .bool false := hd 10 52 (by kernel_rfl)
                clear hd hs
                refine wpOp_yes rfl rfl rfl h52 ?_
                go_simp
                exact hK _ _ rfl hG (Below.refl _ _)
              · intro a x hG hd hs K hK
                have h59 : a.tmps.getD 59 undef = .pointer (some ⟨g7, n * 3, none⟩) := hd 17 59 (by kernel_rfl)
                have h52 : a.tmps.getD 52 undef = .bool false := hd 10 52 (by kernel_rfl)
                clear hd hs
                refine wpOp_yes rfl rfl rfl h52 ?_
                refine wp_load_mid 24 (.tmp 59) rfl g7 (n * 3) h59 [.int .i64 y.a, .int .u32 (y.s : Int)] _ ((l7.ext hG).rangeMid (n * 3) _ HPX.out) Try.underlying24 rfl (infoP y.a y.s) ?_
                exact hK _ _ rfl hG (Below.refl _ _)
              · intro a x hG hd hs K hK
                have h56 : a.tmps.getD 56 undef = .agg #[.int .i64 y.a, .int .u32 (y.s : Int)] := hd 14 56 (by kernel_rfl)
                have h60 : a.tmps.getD 60 undef = .agg #[.int .i64 y.a, .int .u32 (y.s : Int)] := hd 18 60 (by kernel_rfl)
                have h52 : a.tmps.getD 52 undef = .bool false := hd 10 52 (by kernel_rfl)
                clear hd hs
                refine wpOp_yes rfl rfl rfl h52 ?_
                refine wp_binop .neq 24 24 (.tmp 56) (.tmp 60) rfl h56 h60 eqGuardP (run_eql_pt y.a y.s _) ?_
                exact hK _ _ rfl hG (Below.refl _ _)
              · intro a x hG hd hs K hK
                have h52 : a.tmps.getD 52 undef = .bool false := hd 10 52 (by kernel_rfl)
                have h61 : a.tmps.getD 61 undef = .bool false := hd 19 61 (by kernel_rfl)
                clear hd hs
                refine wpOp_plain rfl rfl ?_
                go_simp
                exact hK _ _ rfl hG (Below.refl _ _)
            · intro x hG
              rintro _ rfl _ rfl _ rfl _ rfl _ rfl _ rfl _ rfl _ rfl _ rfl _ rfl _ rfl _ rfl _ rfl _ rfl _ rfl _ rfl _ rfl _ rfl _ rfl _ rfl _ rfl
              simp only [Act.put, List.setIfInBounds_toArray, List.set_cons_zero, List.set_cons_succ, REnd]
              try simp only [Exit.then]
              replace l7 := l7.ext hG
              replace l3 := l3.ext hG
              replace l4 := l4.ext hG
              replace l9 := l9.ext hG
              replace lc := lc.trans (hG.mono lc.size)
              clear hG
              clear hG0 HCY HCX HPY HPX
              have hr := l9.range
              have HLE := Lib.hid (show 0 + (mcells Y).toArray.size ≤ (mcells xx).length by rw [List.size_toArray, mcells_len, mcells_len, HYL.out, HXL.out]; decide)
              go_upto_region 5 with (first | refine wpList_load_at 28 (.tmp 9) rfl rfl g9 0 rfl (mcells Y) _ hr Try.underlying28 rfl (infoM _ HYL.out) ?_ | refine wpList_store_mid rfl 28 (.tmp 7) (.tmp 63) rfl g7 0 (mcells Y).toArray rfl rfl (l7.there 0 _ HLE.out) (infoM _ HYL.out) (all_oneCell_toArray mcells_one) ?_)
              have hz := l7.setCells (mcells Y) 0 (by rw [mcells_len, mcells_len, HYL.out, HXL.out]; decide)
              rw [spl_all _ _ (by rw [mcells_len, mcells_len, HYL.out, HXL.out])] at hz
              have z3 := l3.grown (grown_setCells (g := g7) (mcells Y) _ 0) (fun e => by injection e with e; exact hn3 e)
              have z4 := l4.grown (grown_setCells (g := g7) (mcells Y) _ 0) (fun e => by injection e with e; exact hn4 e)
              have zc := below_setCells (o := 0) (vs := mcells Y) lc hg7
              generalize World.setCells _ g7 0 _ = w4 at *
              clear hr l7 l3 l4 l9 lc
              go_wp2
              go_roundw
              case rel => exact ⟨k + 1, by omega, by go_num, Y, HKN, hz, z3, z4, zc⟩
              case measure => simp [intOf]; omega
        · go_wp2
          go_meet
          exact ⟨xx, HK, l7, l3, l4, lc⟩
    obtain ⟨xx, HK, k7, k3, k4, c⟩ := hcut
    have HXL := Lib.hid HK.out.1.1
    have HFAR := Lib.hid HK.out.2
    go_wp2
    go_loopw [11] (fun q wr => ∃ k : Nat, k ≤ 40 ∧ q = .int .i64 k ∧ Blk wr g7 28 (mcells xx) ∧ Blk wr g3 28 (mcells m) ∧ Blk wr g4 28 (mcells o) ∧ Below w.heap.size w wr) (fun q _ => 40 - (intOf q).toNat)
    case atStart => exact ⟨0, by omega, rfl, k7, k3, k4, c⟩
    case round =>
      obtain ⟨k, hk, rfl, l7, l3, l4, lc⟩ := hrel
      clear k7 k3 k4 c
      by_cases hlt : k < 40
      · have p0 : (0 : Int) ≤ (k : Int) := by omega
        have p1 : (k : Int) < 40 := by omega
        go_upto_region 14 with (fail)
        have hG0 : Below wr.heap.size wr wr.drew := (Below.refl _ _).drew
        by_cases hkn : (k : Int) = i
        · have e1 : ((k : Int) != i) = false := by rw [bne_eq_false_iff_eq]; exact hkn
          clear hkn
          refine wp_region_list 12 [(fun y_ _ => y_ = .int .i64 (k : Int)),
            (fun y_ _ => y_ = .int .i64 i),
            (fun y_ _ => y_ = .bool false),
            (fun y_ _ => y_ = .bool false),
            (fun y_ _ => y_ = undef),
            (fun y_ _ => y_ = undef),
            (fun y_ _ => y_ = undef),
            (fun y_ _ => y_ = undef),
            (fun y_ _ => y_ = undef),
            (fun y_ _ => y_ = undef),
            (fun y_ _ => y_ = undef),
            (fun y_ _ => y_ = .bool false)]
            (fun x => Below wr.heap.size wr x) (by kernel_rfl) rfl (by kernel_rfl) ?_ ?_ ?_ ?_
          · exact hG0
          · exact ⟨stab_eq _, stab_eq _, stab_eq _, stab_eq _, stab_eq _, stab_eq _, stab_eq _, stab_eq _, stab_eq _, stab_eq _, stab_eq _, stab_eq _, trivial⟩
          · refine ⟨?_, ?_, ?_, ?_, ?_, ?_, ?_, ?_, ?_, ?_, ?_, ?_, trivial⟩
            · intro a x hG hd hs K hK
              have h11 : a.tmps.getD 11 undef = .int .i64 (k : Int) := hs 11 (by kernel_rfl)
              clear hd hs
              refine wpOp_plain rfl rfl ?_
              go_simp
              exact hK _ _ rfl hG (Below.refl _ _)
            · intro a x hG hd hs K hK
              have h5 : a.tmps.getD 5 undef = .int .i64 i := hs 5 (by kernel_rfl)
              clear hd hs
              refine wpOp_plain rfl rfl ?_
              go_simp
              exact hK _ _ rfl hG (Below.refl _ _)
            · intro a x hG hd hs K hK
              have h68 : a.tmps.getD 68 undef = .int .i64 (k : Int) := hd 0 68 (by kernel_rfl)
              have h69 : a.tmps.getD 69 undef = .int .i64 i := hd 1 69 (by kernel_rfl)
              clear hd hs
              refine wpOp_plain rfl rfl ?_
              go_simp
              exact hK _ _ rfl hG (Below.refl _ _)
            · intro a x hG hd hs K hK
              have h70 : a.tmps.getD 70 undef = .bool false := hd 2 70 (by kernel_rfl)
              clear hd hs
              refine wpOp_plain rfl rfl ?_
              go_simp
              exact hK _ _ rfl hG (Below.refl _ _)
            · intro a x hG hd hs K hK
              have h11 : a.tmps.getD 11 undef = .int .i64 (k : Int) := hs 11 (by kernel_rfl)
              have h71 : a.tmps.getD 71 undef = .bool false := hd 3 71 (by kernel_rfl)
              clear hd hs
              refine wpOp_no rfl rfl rfl h71 ?_
              exact hK _ _ rfl hG (Below.refl _ _)
            · intro a x hG hd hs K hK
              have h7 : a.tmps.getD 7 undef = .pointer (some ⟨g7, 0, none⟩) := hs 7 (by kernel_rfl)
              have h72 : a.tmps.getD 72 undef = undef := hd 4 72 (by kernel_rfl)
              have h71 : a.tmps.getD 71 undef = .bool false := hd 3 71 (by kernel_rfl)
              clear hd hs
              refine wpOp_no rfl rfl rfl h71 ?_
              exact hK _ _ rfl hG (Below.refl _ _)
            · intro a x hG hd hs K hK
              have h73 : a.tmps.getD 73 undef = undef := hd 5 73 (by kernel_rfl)
              have h71 : a.tmps.getD 71 undef = .bool false := hd 3 71 (by kernel_rfl)
              clear hd hs
              refine wpOp_no rfl rfl rfl h71 ?_
              exact hK _ _ rfl hG (Below.refl _ _)
            · intro a x hG hd hs K hK
              have h11 : a.tmps.getD 11 undef = .int .i64 (k : Int) := hs 11 (by kernel_rfl)
              have h71 : a.tmps.getD 71 undef = .bool false := hd 3 71 (by kernel_rfl)
              clear hd hs
              refine wpOp_no rfl rfl rfl h71 ?_
              exact hK _ _ rfl hG (Below.refl _ _)
            · intro a x hG hd hs K hK
              have h3 : a.tmps.getD 3 undef = .pointer (some ⟨g3, 0, none⟩) := hs 3 (by kernel_rfl)
              have h75 : a.tmps.getD 75 undef = undef := hd 7 75 (by kernel_rfl)
              have h71 : a.tmps.getD 71 undef = .bool false := hd 3 71 (by kernel_rfl)
              clear hd hs
              refine wpOp_no rfl rfl rfl h71 ?_
              exact hK _ _ rfl hG (Below.refl _ _)
            · intro a x hG hd hs K hK
              have h76 : a.tmps.getD 76 undef = undef := hd 8 76 (by kernel_rfl)
              have h71 : a.tmps.getD 71 undef = .bool false := hd 3 71 (by kernel_rfl)
              clear hd hs
              refine wpOp_no rfl rfl rfl h71 ?_
              exact hK _ _ rfl hG (Below.refl _ _)
            · intro a x hG hd hs K hK
              have h74 : a.tmps.getD 74 undef = undef := hd 6 74 (by kernel_rfl)
              have h77 : a.tmps.getD 77 undef = undef := hd 9 77 (by kernel_rfl)
              have h71 : a.tmps.getD 71 undef = .bool false := hd 3 71 (by kernel_rfl)
              clear hd hs
              refine wpOp_no rfl rfl rfl h71 ?_
              exact hK _ _ rfl hG (Below.refl _ _)
            · intro a x hG hd hs K hK
              have h71 : a.tmps.getD 71 undef = .bool false := hd 3 71 (by kernel_rfl)
              have h78 : a.tmps.getD 78 undef = undef := hd 10 78 (by kernel_rfl)
              clear hd hs
              refine wpOp_plain rfl rfl ?_
              go_simp
              exact hK _ _ rfl hG (Below.refl _ _)
          · intro x hG
            rintro _ rfl _ rfl _ rfl _ rfl _ rfl _ rfl _ rfl _ rfl _ rfl _ rfl _ rfl _ rfl
            simp only [Act.put, List.setIfInBounds_toArray, List.set_cons_zero, List.set_cons_succ, REnd]
            try simp only [Exit.then]
            replace l7 := l7.ext hG
            replace l3 := l3.ext hG
            replace l4 := l4.ext hG
            replace lc := lc.trans (hG.mono lc.size)
            clear hG
            clear hG0
            go_wp2
            go_roundw
            case rel => exact ⟨k + 1, by omega, by go_num, l7, l3, l4, lc⟩
            case measure => simp [intOf]; omega
        · have e1 : ((k : Int) != i) = true := by rw [bne_iff_ne]; exact hkn
          have hf := HFAR.out k hkn
          have H3 := Lib.hid (sl_mid HM.out k hlt)
          have H7 := Lib.hid (sl_mid HXL.out k hlt)
          rw [hf] at H7
          clear hkn hf
          generalize m.getD k Sl.zero = y at *
          refine wp_region_list 12 [(fun y_ _ => y_ = .int .i64 (k : Int)),
            (fun y_ _ => y_ = .int .i64 i),
            (fun y_ _ => y_ = .bool true),
            (fun y_ _ => y_ = .bool true),
            (fun y_ _ => y_ = .int .i64 (k : Int)),
            (fun y_ _ => y_ = .pointer (some ⟨g7, k * 3, none⟩)),
            (fun y_ _ => y_ = .agg (scells y).toArray),
            (fun y_ _ => y_ = .int .i64 (k : Int)),
            (fun y_ _ => y_ = .pointer (some ⟨g3, k * 3, none⟩)),
            (fun y_ _ => y_ = .agg (scells y).toArray),
            (fun y_ _ => y_ = .bool false),
            (fun y_ _ => y_ = .bool false)]
            (fun x => Below wr.heap.size wr x) (by kernel_rfl) rfl (by kernel_rfl) ?_ ?_ ?_ ?_
          · exact hG0
          · exact ⟨stab_eq _, stab_eq _, stab_eq _, stab_eq _, stab_eq _, stab_eq _, stab_eq _, stab_eq _, stab_eq _, stab_eq _, stab_eq _, stab_eq _, trivial⟩
          · refine ⟨?_, ?_, ?_, ?_, ?_, ?_, ?_, ?_, ?_, ?_, ?_, ?_, trivial⟩
            · intro a x hG hd hs K hK
              have h11 : a.tmps.getD 11 undef = .int .i64 (k : Int) := hs 11 (by kernel_rfl)
              clear hd hs
              refine wpOp_plain rfl rfl ?_
              go_simp
              exact hK _ _ rfl hG (Below.refl _ _)
            · intro a x hG hd hs K hK
              have h5 : a.tmps.getD 5 undef = .int .i64 i := hs 5 (by kernel_rfl)
              clear hd hs
              refine wpOp_plain rfl rfl ?_
              go_simp
              exact hK _ _ rfl hG (Below.refl _ _)
            · intro a x hG hd hs K hK
              have h68 : a.tmps.getD 68 undef = .int .i64 (k : Int) := hd 0 68 (by kernel_rfl)
              have h69 : a.tmps.getD 69 undef = .int .i64 i := hd 1 69 (by kernel_rfl)
              clear hd hs
              refine wpOp_plain rfl rfl ?_
              go_simp
              exact hK _ _ rfl hG (Below.refl _ _)
            · intro a x hG hd hs K hK
              have h70 : a.tmps.getD 70 undef = .bool true := hd 2 70 (by kernel_rfl)
              clear hd hs
              refine wpOp_plain rfl rfl ?_
              go_simp
              exact hK _ _ rfl hG (Below.refl _ _)
            · intro a x hG hd hs K hK
              have h11 : a.tmps.getD 11 undef = .int .i64 (k : Int) := hs 11 (by kernel_rfl)
              have h71 : a.tmps.getD 71 undef = .bool true := hd 3 71 (by kernel_rfl)
              clear hd hs
              refine wpOp_yes rfl rfl rfl h71 ?_
              go_simp
              exact hK _ _ rfl hG (Below.refl _ _)
            · intro a x hG hd hs K hK
              have h7 : a.tmps.getD 7 undef = .pointer (some ⟨g7, 0, none⟩) := hs 7 (by kernel_rfl)
              have h72 : a.tmps.getD 72 undef = .int .i64 (k : Int) := hd 4 72 (by kernel_rfl)
              have h71 : a.tmps.getD 71 undef = .bool true := hd 3 71 (by kernel_rfl)
              clear hd hs
              refine wpOp_yes rfl rfl rfl h71 ?_
              go_simp
              exact hK _ _ rfl hG (Below.refl _ _)
            · intro a x hG hd hs K hK
              have h73 : a.tmps.getD 73 undef = .pointer (some ⟨g7, k * 3, none⟩) := hd 5 73 (by kernel_rfl)
              have h71 : a.tmps.getD 71 undef = .bool true := hd 3 71 (by kernel_rfl)
              clear hd hs
              refine wpOp_yes rfl rfl rfl h71 ?_
              refine wp_load_mid 26 (.tmp 73) rfl g7 (k * 3) h73 (scells y) _ ((l7.ext hG).rangeMid (k * 3) _ H7.out) Try.underlying26 rfl (infoS y) ?_
              exact hK _ _ rfl hG (Below.refl _ _)
            · intro a x hG hd hs K hK
              have h11 : a.tmps.getD 11 undef = .int .i64 (k : Int) := hs 11 (by kernel_rfl)
              have h71 : a.tmps.getD 71 undef = .bool true := hd 3 71 (by kernel_rfl)
              clear hd hs
              refine wpOp_yes rfl rfl rfl h71 ?_
              go_simp
              exact hK _ _ rfl hG (Below.refl _ _)
            · intro a x hG hd hs K hK
              have h3 : a.tmps.getD 3 undef = .pointer (some ⟨g3, 0, none⟩) := hs 3 (by kernel_rfl)
              have h75 : a.tmps.getD 75 undef = .int .i64 (k : Int) := hd 7 75 (by kernel_rfl)
              have h71 : a.tmps.getD 71 undef = .bool true := hd 3 71 (by kernel_rfl)
              clear hd hs
              refine wpOp_yes rfl rfl rfl h71 ?_
              go_simp
              exact hK _ _ rfl hG (Below.refl _ _)
            · intro a x hG hd hs K hK
              have h76 : a.tmps.getD 76 undef = .pointer (some ⟨g3, k * 3, none⟩) := hd 8 76 (by kernel_rfl)
              have h71 : a.tmps.getD 71 undef = .bool true := hd 3 71 (by kernel_rfl)
              clear hd hs
              refine wpOp_yes rfl rfl rfl h71 ?_
              refine wp_load_mid 26 (.tmp 76) rfl g3 (k * 3) h76 (scells y) _ ((l3.ext hG).rangeMid (k * 3) _ H3.out) Try.underlying26 rfl (infoS y) ?_
              exact hK _ _ rfl hG (Below.refl _ _)
            · intro a x hG hd hs K hK
              have h74 : a.tmps.getD 74 undef = .agg (scells y).toArray := hd 6 74 (by kernel_rfl)
              have h77 : a.tmps.getD 77 undef = .agg (scells y).toArray := hd 9 77 (by kernel_rfl)
              have h71 : a.tmps.getD 71 undef = .bool true := hd 3 71 (by kernel_rfl)
              clear hd hs
              refine wpOp_yes rfl rfl rfl h71 ?_
              refine wp_binop .neq 26 26 (.tmp 74) (.tmp 77) rfl h74 h77 eqGuardS (run_eql_sl y y true (by simp) _).2 ?_
              exact hK _ _ rfl hG (Below.refl _ _)
            · intro a x hG hd hs K hK
              have h71 : a.tmps.getD 71 undef = .bool true := hd 3 71 (by kernel_rfl)
              have h78 : a.tmps.getD 78 undef = .bool false := hd 10 78 (by kernel_rfl)
              clear hd hs
              refine wpOp_plain rfl rfl ?_
              go_simp
              exact hK _ _ rfl hG (Below.refl _ _)
          · intro x hG
            rintro _ rfl _ rfl _ rfl _ rfl _ rfl _ rfl _ rfl _ rfl _ rfl _ rfl _ rfl _ rfl
            simp only [Act.put, List.setIfInBounds_toArray, List.set_cons_zero, List.set_cons_succ, REnd]
            try simp only [Exit.then]
            replace l7 := l7.ext hG
            replace l3 := l3.ext hG
            replace l4 := l4.ext hG
            replace lc := lc.trans (hG.mono lc.size)
            clear hG
            clear hG0
            go_wp2
            go_roundw
            case rel => exact ⟨k + 1, by omega, by go_num, l7, l3, l4, lc⟩
            case measure => simp [intOf]; omega
      · obtain rfl : k = 40 := by omega
        rw [show (((40 : Nat)) : Int) = 40 from rfl]
        have k3 := l3
        have k4 := l4
        have c := lc
        clear l7 l3 l4 lc HK HXL HFAR HKP
        have hr := k3.range
        go_wp2_with (refine wpList_load_at 28 (.tmp 3) rfl rfl g3 0 rfl (mcells m) _ hr Try.underlying28 rfl (infoM _ HM.out) ?_)
        clear hr
        refine (mayM_any m _ HM.out).mono ?_
        rintro e w5 ⟨rfl, b5⟩
        replace k3 := k3.ext b5
        replace k4 := k4.ext b5
        replace c := c.trans (b5.mono c.size)
        clear b5
        cases hmm : Im.mayB m with
        | false =>
          clear hmm
          go_wp2_with fail
          refine (awakeM_any _).mono ?_
          rintro e w9 ⟨rfl, b9⟩
          go_wp2
          go_ret
          exact ⟨rfl, c.trans (b9.mono c.size)⟩
        | true =>
          have HMM := Lib.hid hmm
          clear hmm
          have hr := k4.range
          go_wp2_with (refine wpList_load_at 28 (.tmp 4) rfl rfl g4 0 rfl (mcells o) _ hr Try.underlying28 rfl (infoM _ HO.out) ?_)
          clear hr
          refine (mayM_any o _ HO.out).mono ?_
          rintro e w6 ⟨rfl, b6⟩
          replace k3 := k3.ext b6
          replace k4 := k4.ext b6
          replace c := c.trans (b6.mono c.size)
          clear b6
          cases hmo : Im.mayB o with
          | false =>
            clear hmo
            go_wp2_with fail
            refine (awakeM_any _).mono ?_
            rintro e w9 ⟨rfl, b9⟩
            go_wp2
            go_ret
            exact ⟨rfl, c.trans (b9.mono c.size)⟩
          | true =>
            have HMO := Lib.hid hmo
            clear hmo
            go_wp2
            go_loopw [12, 13] (fun s q wr => ∃ k : Nat, k ≤ 4 ∧ q = .int .i64 k ∧ s = .bool (Im.sameB m o k) ∧ Blk wr g3 28 (mcells m) ∧ Blk wr g4 28 (mcells o) ∧ Below w.heap.size w wr) (fun _ q _ => 4 - (intOf q).toNat)
            case atStart => exact ⟨0, by omega, rfl, rfl, k3, k4, c⟩
            case round =>
              obtain ⟨k, hk, rfl, rfl, l3, l4, lc⟩ := hrel
              clear k3 k4 c
              by_cases hlt : k < 4
              · have HSS := Lib.hid (Im.sameB_succ m o k)
                have hr := l3.range
                go_wp2_with (refine wpList_load_at 28 (.tmp 3) rfl rfl g3 0 rfl (mcells m) _ hr Try.underlying28 rfl (infoM _ HM.out) ?_)
                clear hr
                refine (encodeI_yes m k _ HG.out HMM.out hlt).mono ?_
                rintro e w7 ⟨u1, rfl, hu1, b7⟩
                replace l3 := l3.ext b7
                replace l4 := l4.ext b7
                replace lc := lc.trans (b7.mono lc.size)
                clear b7
                have HU1 := Lib.hid hu1
                clear hu1
                have hr := l4.range
                go_wp2_with (refine wpList_load_at 28 (.tmp 4) rfl rfl g4 0 rfl (mcells o) _ hr Try.underlying28 rfl (infoM _ HO.out) ?_)
                clear hr
                refine (encodeI_yes o k _ HGO.out HMO.out hlt).mono ?_
                rintro e w8 ⟨u2, rfl, hu2, b8⟩
                have hu1 := (HU1.out.ext (Nat.le_refl _) b8).more b8.size
                replace l3 := l3.ext b8
                replace l4 := l4.ext b8
                replace lc := lc.trans (b8.mono lc.size)
                clear b8
                have hs1 := run_string_of (P := Try.prog) hu1 48 9 5 Try.underlying48 Try.underlying5 Try.underlying9
                have hs2 := run_string_of (P := Try.prog) hu2 48 9 5 Try.underlying48 Try.underlying5 Try.underlying9
                have hse := str_same (Im.imE m k) (Im.imE o k)
                obtain ⟨d, hd⟩ : ∃ d, d = decide (Im.imE m k = Im.imE o k) := ⟨_, rfl⟩
                rw [← hd] at hse HSS
                clear hu1 hu2 HU1 hd
                generalize (⟨(Im.imE m k).toArray⟩ : ByteArray) = S1 at *
                generalize (⟨(Im.imE o k).toArray⟩ : ByteArray) = S2 at *
                cases hsb : Im.sameB m o k with
                | false =>
                  have HN := Lib.hid (show Im.sameB m o (k + 1) = false by rw [HSS.out, hsb]; rfl)
                  clear hsb
                  go_wp2
                  go_roundw
                  case rel => exact ⟨k + 1, by omega, by go_num, by rw [HN.out], l3, l4, lc⟩
                  case measure => simp [intOf]; omega
                | true =>
                  have HN := Lib.hid (show Im.sameB m o (k + 1) = d by rw [HSS.out, hsb]; rfl)
                  clear hsb
                  go_wp2
                  go_roundw
                  case rel => exact ⟨k + 1, by omega, by go_num, by rw [HN.out], l3, l4, lc⟩
                  case measure => simp [intOf]; omega
              · obtain rfl : k = 4 := by omega
                rw [show (((4 : Nat)) : Int) = 4 from rfl]
                have HCL := Lib.hid (Im.changed_len HG.out HGO.out HMM.out HMO.out)
                have HEQ := Lib.hid (fun W => (run_eql_im m o HM.out HO.out _ rfl W).1)
                rw [Im.same_four HG.out HGO.out HMM.out HMO.out]
                generalize decide (m = o) = D at *
                have HQ := HEQ.out
                have r3 := l3.range
                have r4 := l4.range
                go_wp2_with (first | refine wpList_load_at 28 (.tmp 3) rfl rfl g3 0 rfl (mcells m) _ r3 Try.underlying28 rfl (infoM _ HM.out) ?_ | refine wpList_load_at 28 (.tmp 4) rfl rfl g4 0 rfl (mcells o) _ r4 Try.underlying28 rfl (infoM _ HO.out) ?_ | refine wpList_binop .eql 28 28 (.tmp 120) (.tmp 121) rfl rfl rfl rfl eqGuardM (HEQ.out _) ?_)
                clear r3 r4 HEQ HQ
                refine (changed_any m o _ HM.out HO.out).mono ?_
                rintro e w9 ⟨u, rfl, hu, b9⟩
                obtain ⟨A, qq, rfl, _⟩ := hu
                replace lc := lc.trans (b9.mono lc.size)
                clear b9 l3 l4
                have hLD : (((nums (Im.changed m o)).length : Int) == 0) = D := by rw [← HCL.out]; unfold nums; rw [List.length_map, Bool.eq_iff_iff, beq_iff_eq, beq_iff_eq]; omega
                generalize (nums (Im.changed m o)).length = LL at *
                clear HCL
                have c := lc
                clear lc
                cases D with
                | true =>
                  go_wp2_with fail
                  refine (awakeM_any _).mono ?_
                  rintro e w9 ⟨rfl, b9⟩
                  go_wp2
                  go_ret
                  exact ⟨rfl, c.trans (b9.mono c.size)⟩
                | false =>
                  go_wp2_with fail
                  refine (awakeM_any _).mono ?_
                  rintro e w9 ⟨rfl, b9⟩
                  go_wp2
                  go_ret
                  exact ⟨rfl, c.trans (b9.mono c.size)⟩

/-- What the walk gives, for every argument and every world that holds the table. -/
theorem imapGives_contract (H : Type) (enc : TypeId × Value → H) (W : World) (base : Nat) (args : Array Value) (ds gs : List (DataW H)) (before : List MemPlace)
    (hval : ∀ (j : Nat) t v, Try.f5.params[j]? = some t → args[j]? = some v → Value.okWide Try.prog W .any base t v)
    (hW : DataW.Whole enc Try.prog Try.f5.params.toList Rows.imapGivesSpec.vars false W args.toList ds gs before) :
    Calls Try.prog 5 args W fun e W' => ∃ v, e = .returned v ∧ Rows.imapGivesSpec.post enc Try.prog Try.f5 false true false false W args v W' := by
  have hW' := hW
  obtain ⟨p, q, hA0, hV, hps, hfz, hnd⟩ := hW
  have hA : DataW.TrodAll enc Try.prog W 0 (fun _ => true) true Try.f5.params.toList args.toList ds p := hA0
  rw [Try.params5] at hA hval
  obtain ⟨v0, vs0, d0, ds0, p0, q0, hargs, rfl, rfl, h0, r0⟩ := trodAll_cons hA
  obtain ⟨rfl, rfl, rfl⟩ := trodAll_nil r0
  obtain rfl : args = #[v0] := by cases args; simp_all
  obtain ⟨rfl, rfl⟩ := trodVars_none hV
  obtain ⟨zs0, hzl0, rfl, wfz0⟩ := ints_of_agg 5 gik (by kernel_rfl) (okWide_struct Try.underlying46 (hval 0 46 v0 rfl rfl)) (by kernel_rfl) h0
  obtain ⟨M0, O0, n0, t0, gm0, go0, ht0, e0⟩ := gives_of_ints zs0 hzl0 wfz0
  rw [e0] at hW' ⊢
  clear hA0
  refine (imapGives_walk W M0 O0 n0 t0 gm0 go0 ht0).mono fun e W' ⟨he, hb⟩ => ?_
  subst he
  exact ⟨_, rfl, law_post laidOut (by rw [Try.params5]; decide +kernel) rfl Try.underlying4 rfl rfl hW' hb⟩

set_option maxRecDepth 100000 in
theorem imapGives_lifted (os : Os) (started : os.Started) (H : Type) (enc : TypeId × Value → H) :
    ReturnsInHanded {} Try.checked os 5 .any (Rows.imapGivesSpec.pre6 enc Try.prog Try.f5 Rows.imapGivesRow.domain false) (Rows.imapGivesSpec.post enc Try.prog Try.f5 false true false false) := by
  refine returnsInHanded_of_change (C := Try.checked) own started (by kernel_rfl) Try.func5
    (ChangeSpec.witness6 (enc := enc) (C := Try.checked) false ⟨#[], #[.agg #[.int .i64 0, .int .u32 0, .int .i64 0, .int .i64 0, .int .u32 0, .int .i64 0, .int .i64 0, .int .u32 0, .int .i64 0, .int .i64 0, .int .u32 0, .int .i64 0, .int .i64 0, .int .u32 0, .int .i64 0, .int .i64 0, .int .u32 0, .int .i64 0, .int .i64 0, .int .u32 0, .int .i64 0, .int .i64 0, .int .u32 0, .int .i64 0, .int .i64 0, .int .u32 0, .int .i64 0, .int .i64 0, .int .u32 0, .int .i64 0, .int .i64 0, .int .u32 0, .int .i64 0, .int .i64 0, .int .u32 0, .int .i64 0, .int .i64 0, .int .u32 0, .int .i64 0, .int .i64 0, .int .u32 0, .int .i64 0, .int .i64 0, .int .u32 0, .int .i64 0, .int .i64 0, .int .u32 0, .int .i64 0, .int .i64 0, .int .u32 0, .int .i64 0, .int .i64 0, .int .u32 0, .int .i64 0, .int .i64 0, .int .u32 0, .int .i64 0, .int .i64 0, .int .u32 0, .int .i64 0, .int .i64 0, .int .u32 0, .int .i64 0, .int .i64 0, .int .u32 0, .int .i64 0, .int .i64 0, .int .u32 0, .int .i64 0, .int .i64 0, .int .u32 0, .int .i64 0, .int .i64 0, .int .u32 0, .int .i64 0, .int .i64 0, .int .u32 0, .int .i64 0, .int .i64 0, .int .u32 0, .int .i64 0, .int .i64 0, .int .u32 0, .int .i64 0, .int .i64 0, .int .u32 0, .int .i64 0, .int .i64 0, .int .u32 0, .int .i64 0, .int .i64 0, .int .u32 0, .int .i64 0, .int .i64 0, .int .u32 0, .int .i64 0, .int .i64 0, .int .u32 0, .int .i64 0, .int .i64 0, .int .u32 0, .int .i64 0, .int .i64 0, .int .u32 0, .int .i64 0, .int .i64 0, .int .u32 0, .int .i64 0, .int .i64 0, .int .u32 0, .int .i64 0, .int .i64 0, .int .u32 0, .int .i64 0, .int .i64 0, .int .u32 0, .int .i64 0, .int .i64 0, .int .u32 0, .int .i64 0, .int .i64 0, .int .u32 0, .int .i64 0, .int .i64 0, .int .u32 0, .int .i64 0, .int .i64 0, .int .u32 0, .int .i64 0, .int .i64 0, .int .u32 0, .int .i64 0, .int .i64 0, .int .u32 0, .int .i64 0, .int .i64 0, .int .u32 0, .int .i64 0, .int .i64 0, .int .u32 0, .int .i64 0, .int .i64 0, .int .u32 0, .int .i64 0, .int .i64 0, .int .u32 0, .int .i64 0, .int .i64 0, .int .u32 0, .int .i64 0, .int .i64 0, .int .u32 0, .int .i64 0, .int .i64 0, .int .u32 0, .int .i64 0, .int .i64 0, .int .u32 0, .int .i64 0, .int .i64 0, .int .u32 0, .int .i64 0, .int .i64 0, .int .u32 0, .int .i64 0, .int .i64 0, .int .u32 0, .int .i64 0, .int .i64 0, .int .u32 0, .int .i64 0, .int .i64 0, .int .u32 0, .int .i64 0, .int .i64 0, .int .u32 0, .int .i64 0, .int .i64 0, .int .u32 0, .int .i64 0, .int .i64 0, .int .u32 0, .int .i64 0, .int .i64 0, .int .u32 0, .int .i64 0, .int .i64 0, .int .u32 0, .int .i64 0, .int .i64 0, .int .u32 0, .int .i64 0, .int .i64 0, .int .u32 0, .int .i64 0, .int .i64 0, .int .u32 0, .int .i64 0, .int .i64 0, .int .u32 0, .int .i64 0, .int .i64 0, .int .u32 0, .int .i64 0, .int .i64 0, .int .u32 0, .int .i64 0, .int .i64 0, .int .u32 0, .int .i64 0, .int .i64 0, .int .u32 0, .int .i64 0, .int .i64 0, .int .u32 0, .int .i64 0, .int .i64 0, .int .u32 0, .int .i64 0, .int .i64 0, .int .u32 0, .int .i64 0, .int .i64 0, .int .u32 0, .int .i64 0, .int .i64 0, .int .u32 0, .int .i64 0, .int .i64 0, .int .u32 0, .int .i64 0, .int .i64 0, .int .u32 0, .int .i64 0, .int .i64 0, .int .u32 0, .int .i64 0, .int .i64 0, .int .u32 0, .int .i64 0, .int .i64 0, .int .u8 0]], []⟩ 8 (by kernel_rfl) (by kernel_rfl) (by kernel_rfl) (by kernel_rfl)) ?_
  intro W base args ds gs before hval hW _ _
  exact imapGives_contract H enc W base args ds gs before hval hW

theorem imapGives_holds : Rows.ImapGivesSaid :=
  OpenClaim.holds_of_wide 5 Try.f5 rfl rfl rfl rfl rfl rfl rfl ⟨rfl, rfl, rfl, rfl, rfl⟩ rfl rfl rfl rfl rfl (by kernel_rfl) Try.func5 (by kernel_rfl)
    (of_decide_eq_true (by kernel_rfl)) (by unfold Func.isWrapper; first | (rw [if_pos (by decide +kernel)]; kernel_rfl) | (rw [if_neg (by decide +kernel)]; exact ⟨rfl, rfl⟩))
    (fun os started H enc _ => imapGives_lifted os started H enc)

end Go.Proofs.Ytpgibmffgliibaa
