/-
  ImapCodes: the blocks of any map are the document's, or refused, and read one by one make it as it was; whatever octets there are are the document's slots, or refused. For every input.
-/
import Derived.Test.YtpgibmffgliibaaImCO
import Derived.Test.YtpgibmffgliibaaImS
import Derived.Test.YtpgibmffgliibaaVars
import Derived.Deep.CutBlock
namespace Go.Proofs.Ytpgibmffgliibaa
open Go.ChangeShapes Go.WideShapes Go.ChangeAt Go.RowKit
open Im (Sl)

set_option maxRecDepth 100000 in
set_option maxHeartbeats 16000000 in
theorem imapCodes_walk (w : World) (m o : List Sl) (k : Int) (vb : Value) (lb : List UInt8) (gm : Im.Good m) (go : Im.Good o) (hb : Bs w w.heap.size vb lb) :
    Calls Try.prog 6 #[.agg (dcells m o k vb).toArray] w fun e w' => e = .returned (.bool true) ∧ Below w.heap.size w w' := by
  have HG := Lib.hid gm
  have HGO := Lib.hid go
  have HM := Lib.hid gm.1
  have HO := Lib.hid go.1
  obtain ⟨A0, c0, rfl, hc0, hm0, _⟩ := hb.openD
  have HB := Lib.hid hb
  clear gm go hb
  go_enter Try.func6, Try.ntmps6
  go_upto_region 1 with (fail)
  have kq := Blk.new w 53 (dcells m o k (.slice A0 lb.length c0)).toArray
  have c := (Below.refl w.heap.size w).alloc (Nat.le_refl _) (.cells (dcells m o k (.slice A0 lb.length c0)).toArray 53)
  change Blk _ _ _ (dcells m o k (.slice A0 lb.length c0)) at kq
  generalize w.alloc (.cells (dcells m o k (.slice A0 lb.length c0)).toArray 53) = w0 at *
  generalize w.heap.size = gq at kq ⊢
  have hzv := zeroIM
  refine wp_region_vars 14 [.pointer (some ⟨gq, 0, none⟩), .agg (mcells m).toArray, .pointer (some ⟨gq, 120, none⟩), .agg (mcells o).toArray, .pointer (some ⟨gq, 240, none⟩), .int .i64 k, .pointer (some ⟨gq, 241, none⟩), .slice A0 lb.length c0, undef, undef, undef, undef, .int .i64 k, .slice A0 lb.length c0] [⟨8, 10, 3, 20, 28, mcells Im.zero, mcells m⟩, ⟨9, 11, 4, 22, 28, mcells Im.zero, mcells o⟩] (by kernel_rfl) rfl (by kernel_rfl) rfl ?_ ?_ ?_
  · intro xv hxv
    simp only [List.mem_cons, List.not_mem_nil, or_false] at hxv
    rcases hxv with rfl | rfl
    · refine ⟨by kernel_rfl, by kernel_rfl, of_decide_eq_true (by kernel_rfl), (by show (mcells Im.zero).length = (mcells m).length; rw [mcells_len Im.zero, mcells_len m, HM.out]; rfl), by kernel_rfl, ⟨1, by kernel_rfl, by simp, rfl⟩, ?_, ?_⟩
      · intro a x K h
        refine wpOp_plain rfl rfl ?_
        go_simp
        exact h
      · intro a x g K h1 h2 h3 h
        refine wpOp_plain rfl rfl ?_
        refine wp_store_mid 28 (.tmp 3) (.tmp 20) rfl g 0 (mcells m).toArray h1 h2 (by rw [List.size_toArray]; exact h3) (infoM m HM.out) (all_oneCell_toArray mcells_one) ?_
        exact h
    · refine ⟨by kernel_rfl, by kernel_rfl, of_decide_eq_true (by kernel_rfl), (by show (mcells Im.zero).length = (mcells o).length; rw [mcells_len Im.zero, mcells_len o, HO.out]; rfl), by kernel_rfl, ⟨3, by kernel_rfl, by simp, rfl⟩, ?_, ?_⟩
      · intro a x K h
        refine wpOp_plain rfl rfl ?_
        go_simp
        exact h
      · intro a x g K h1 h2 h3 h
        refine wpOp_plain rfl rfl ?_
        refine wp_store_mid 28 (.tmp 4) (.tmp 22) rfl g 0 (mcells o).toArray h1 h2 (by rw [List.size_toArray]; exact h3) (infoM o HO.out) (all_oneCell_toArray mcells_one) ?_
        exact h
  · refine ⟨?_, ?_, ?_, ?_, ?_, ?_, ?_, ?_, ?_, ?_, ?_, ?_, ?_, ?_, trivial⟩
    · intro _ a x hG hd hs K hK
      replace hG : Below (w0).heap.size (w0) x := hG
      replace hK : ∀ (v : Value) w', v = .pointer (some ⟨gq, 0, none⟩) → Below (w0).heap.size (w0) w' → Below x.heap.size x w' → K _ w' := fun v w' e1 e2 e3 => hK v w' (fun _ => e1) e2 e3
      have h1 : a.tmps.getD 1 undef = .pointer (some ⟨gq, 0, none⟩) := hs 1 (by kernel_rfl)
      clear hd hs
      refine wpOp_plain rfl rfl ?_
      go_simp
      exact hK _ _ rfl hG (Below.refl _ _)
    · intro _ a x hG hd hs K hK
      replace hG : Below (w0).heap.size (w0) x := hG
      replace hK : ∀ (v : Value) w', v = .agg (mcells m).toArray → Below (w0).heap.size (w0) w' → Below x.heap.size x w' → K _ w' := fun v w' e1 e2 e3 => hK v w' (fun _ => e1) e2 e3
      have h19 : a.tmps.getD 19 undef = .pointer (some ⟨gq, 0, none⟩) := hd 0 19 (by kernel_rfl) (by simp)
      clear hd hs
      refine wpOp_plain rfl rfl ?_
      refine wp_load_mid 28 (.tmp 19) rfl gq 0 h19 (mcells m) _ ((kq.ext hG).rangeMid 0 _ (dcells_m _ _ _ _)) Try.underlying28 rfl (infoM _ HM.out) ?_
      exact hK _ _ rfl hG (Below.refl _ _)
    · intro _ a x hG hd hs K hK
      replace hG : Below (w0).heap.size (w0) x := hG
      replace hK : ∀ (v : Value) w', v = .pointer (some ⟨gq, 120, none⟩) → Below (w0).heap.size (w0) w' → Below x.heap.size x w' → K _ w' := fun v w' e1 e2 e3 => hK v w' (fun _ => e1) e2 e3
      have h1 : a.tmps.getD 1 undef = .pointer (some ⟨gq, 0, none⟩) := hs 1 (by kernel_rfl)
      clear hd hs
      refine wpOp_plain rfl rfl ?_
      go_simp
      exact hK _ _ rfl hG (Below.refl _ _)
    · intro _ a x hG hd hs K hK
      replace hG : Below (w0).heap.size (w0) x := hG
      replace hK : ∀ (v : Value) w', v = .agg (mcells o).toArray → Below (w0).heap.size (w0) w' → Below x.heap.size x w' → K _ w' := fun v w' e1 e2 e3 => hK v w' (fun _ => e1) e2 e3
      have h21 : a.tmps.getD 21 undef = .pointer (some ⟨gq, 120, none⟩) := hd 2 21 (by kernel_rfl) (by simp)
      clear hd hs
      refine wpOp_plain rfl rfl ?_
      refine wp_load_mid 28 (.tmp 21) rfl gq 120 h21 (mcells o) _ ((kq.ext hG).rangeMid 120 _ (dcells_o _ _ _ _ HM.out)) Try.underlying28 rfl (infoM _ HO.out) ?_
      exact hK _ _ rfl hG (Below.refl _ _)
    · intro _ a x hG hd hs K hK
      replace hG : Below (w0).heap.size (w0) x := hG
      replace hK : ∀ (v : Value) w', v = .pointer (some ⟨gq, 240, none⟩) → Below (w0).heap.size (w0) w' → Below x.heap.size x w' → K _ w' := fun v w' e1 e2 e3 => hK v w' (fun _ => e1) e2 e3
      have h1 : a.tmps.getD 1 undef = .pointer (some ⟨gq, 0, none⟩) := hs 1 (by kernel_rfl)
      clear hd hs
      refine wpOp_plain rfl rfl ?_
      go_simp
      exact hK _ _ rfl hG (Below.refl _ _)
    · intro _ a x hG hd hs K hK
      replace hG : Below (w0).heap.size (w0) x := hG
      replace hK : ∀ (v : Value) w', v = .int .i64 k → Below (w0).heap.size (w0) w' → Below x.heap.size x w' → K _ w' := fun v w' e1 e2 e3 => hK v w' (fun _ => e1) e2 e3
      have h23 : a.tmps.getD 23 undef = .pointer (some ⟨gq, 240, none⟩) := hd 4 23 (by kernel_rfl) (by simp)
      clear hd hs
      refine wpOp_plain rfl rfl ?_
      have x0 := (kq.ext hG).cell 240
      rw [(dcells_at _ _ _ _ HM.out HO.out).1] at x0
      go_simp
      exact hK _ _ rfl hG (Below.refl _ _)
    · intro _ a x hG hd hs K hK
      replace hG : Below (w0).heap.size (w0) x := hG
      replace hK : ∀ (v : Value) w', v = .pointer (some ⟨gq, 241, none⟩) → Below (w0).heap.size (w0) w' → Below x.heap.size x w' → K _ w' := fun v w' e1 e2 e3 => hK v w' (fun _ => e1) e2 e3
      have h1 : a.tmps.getD 1 undef = .pointer (some ⟨gq, 0, none⟩) := hs 1 (by kernel_rfl)
      clear hd hs
      refine wpOp_plain rfl rfl ?_
      go_simp
      exact hK _ _ rfl hG (Below.refl _ _)
    · intro _ a x hG hd hs K hK
      replace hG : Below (w0).heap.size (w0) x := hG
      replace hK : ∀ (v : Value) w', v = .slice A0 lb.length c0 → Below (w0).heap.size (w0) w' → Below x.heap.size x w' → K _ w' := fun v w' e1 e2 e3 => hK v w' (fun _ => e1) e2 e3
      have h25 : a.tmps.getD 25 undef = .pointer (some ⟨gq, 241, none⟩) := hd 6 25 (by kernel_rfl) (by simp)
      clear hd hs
      refine wpOp_plain rfl rfl ?_
      have x0 := (kq.ext hG).cell 241
      rw [(dcells_at _ _ _ _ HM.out HO.out).2] at x0
      go_simp
      exact hK _ _ rfl hG (Below.refl _ _)
    · intro hno
      exact absurd rfl ((hno _ (List.Mem.head _)).1)
    · intro hno
      exact absurd rfl ((hno _ (List.Mem.tail _ (List.Mem.head _))).1)
    · intro hno
      exact absurd rfl ((hno _ (List.Mem.head _)).2)
    · intro hno
      exact absurd rfl ((hno _ (List.Mem.tail _ (List.Mem.head _))).2)
    · intro _ a x hG hd hs K hK
      replace hG : Below (w0).heap.size (w0) x := hG
      replace hK : ∀ (v : Value) w', v = .int .i64 k → Below (w0).heap.size (w0) w' → Below x.heap.size x w' → K _ w' := fun v w' e1 e2 e3 => hK v w' (fun _ => e1) e2 e3
      have h24 : a.tmps.getD 24 undef = .int .i64 k := hd 5 24 (by kernel_rfl) (by simp)
      clear hd hs
      refine wpOp_plain rfl rfl ?_
      go_simp
      exact hK _ _ rfl hG (Below.refl _ _)
    · intro _ a x hG hd hs K hK
      replace hG : Below (w0).heap.size (w0) x := hG
      replace hK : ∀ (v : Value) w', v = .slice A0 lb.length c0 → Below (w0).heap.size (w0) w' → Below x.heap.size x w' → K _ w' := fun v w' e1 e2 e3 => hK v w' (fun _ => e1) e2 e3
      have h26 : a.tmps.getD 26 undef = .slice A0 lb.length c0 := hd 7 26 (by kernel_rfl) (by simp)
      clear hd hs
      refine wpOp_plain rfl rfl ?_
      go_simp
      exact hK _ _ rfl hG (Below.refl _ _)
  · intro x gs hG hgs
    intro v0 hv0 v1 hv1 v2 hv2 v3 hv3 v4 hv4 v5 hv5 v6 hv6 v7 hv7 v8 hv8 v9 hv9 v12 hv12 v13 hv13
    replace hv0 : v0 = .pointer (some ⟨gq, 0, none⟩) := hv0
    subst hv0
    replace hv1 : v1 = .agg (mcells m).toArray := hv1
    subst hv1
    replace hv2 : v2 = .pointer (some ⟨gq, 120, none⟩) := hv2
    subst hv2
    replace hv3 : v3 = .agg (mcells o).toArray := hv3
    subst hv3
    replace hv4 : v4 = .pointer (some ⟨gq, 240, none⟩) := hv4
    subst hv4
    replace hv5 : v5 = .int .i64 k := hv5
    subst hv5
    replace hv6 : v6 = .pointer (some ⟨gq, 241, none⟩) := hv6
    subst hv6
    replace hv7 : v7 = .slice A0 lb.length c0 := hv7
    subst hv7
    replace hv8 : v8 = .pointer (some ⟨gs.getD 0 0, 0, none⟩) := hv8
    subst hv8
    replace hv9 : v9 = .pointer (some ⟨gs.getD 1 0, 0, none⟩) := hv9
    subst hv9
    replace hv12 : v12 = .int .i64 k := hv12
    subst hv12
    replace hv13 : v13 = .slice A0 lb.length c0 := hv13
    subst hv13
    obtain ⟨gl0, gk0⟩ := hgs 0 _ rfl
    replace gl0 : (w0).heap.size ≤ gs.getD 0 0 := gl0
    replace gk0 : Blk x (gs.getD 0 0) 28 (mcells m) := gk0
    obtain ⟨gl1, gk1⟩ := hgs 1 _ rfl
    replace gl1 : (w0).heap.size ≤ gs.getD 1 0 := gl1
    replace gk1 : Blk x (gs.getD 1 0) 28 (mcells o) := gk1
    clear hgs
    generalize gs.getD 0 0 = gv0 at *
    generalize gs.getD 1 0 = gv1 at *
    simp only [Act.put, List.setIfInBounds_toArray, List.set_cons_zero, List.set_cons_succ, REnd]
    try simp only [Exit.then]
    replace c := c.trans (hG.mono c.size)
    have k3 := gk0
    have k4 := gk1
    obtain ⟨w1, rfl⟩ : ∃ w1, w1 = x := ⟨x, rfl⟩
    clear hG gk0 gk1 gl0 gl1 kq hzv
    generalize gv0 = g3 at *
    generalize gv1 = g4 at *
    go_upto_if 29 with (fail)
    go_cut [6] (fun s wx => w1 = wx ∧ ∃ q : List UInt8, s = .slice A0 q.length c0 ∧ q.length ≤ 200 ∧ Hid (Bs w w.heap.size (.slice A0 q.length c0) q))
    case first =>
      by_cases hl : 200 < lb.length
      · have hl' : (200 : Int) < lb.length := by omega
        have hl2 : (200 : Int) ≤ c0 := by omega
        have hl3 : (200 : Nat) ≤ c0 := by omega
        have e200 : (lb.take 200).length = 200 := by rw [List.length_take]; omega
        have HH := Lib.hid (show (lb.take 200).length ≤ 200 ∧ Bs w w.heap.size (.slice A0 (lb.take 200).length c0) (lb.take 200) from ⟨by omega, by rw [e200]; exact HB.out.head (by omega)⟩)
        have HE2 := Lib.hid e200
        clear e200
        go_wp2
        go_meet
        exact ⟨rfl, lb.take 200, by rw [HE2.out], HH.out.1, Lib.hid HH.out.2⟩
      · have hl' : ¬ (200 : Int) < lb.length := by omega
        go_wp2
        go_meet
        exact ⟨rfl, lb, rfl, by omega, HB⟩
    obtain ⟨rfl, q, rfl, hql, HQ⟩ := hcut
    clear HB hc0
    have hql2 : q.length ≤ c0 := by
      obtain ⟨_, _, he, h2, _⟩ := HQ.out
      injection he with _ _ e3
      omega
    have hr := k4.range
    go_wp2_with (refine wpList_load_at 28 (.tmp 4) rfl rfl g4 0 rfl (mcells o) _ hr Try.underlying28 rfl (infoM _ HO.out) ?_)
    clear hr
    refine (decodeI_any o k _ _ q HO.out ((HQ.out.ext (Nat.le_refl _) c).more c.size)).mono ?_
    rintro e w2 ⟨rfl, b2⟩
    replace k3 := k3.ext b2
    replace k4 := k4.ext b2
    replace c := c.trans (b2.mono c.size)
    clear b2
    have HR := Lib.hid (fun W => rdecodeI_any o k W q HGO.out (by omega))
    have HXL := Lib.hid (Im.good_decM HGO.out k q).1
    unfold MapR at HR
    generalize Im.decM o k q = X at *
    generalize Im.decE o k q = E at *
    unfold magg at HR ⊢
    have hzv := zeroIM
    go_upto_region 5 with (with_reducible refine wpList_store_new rfl 28 (.tmp 7) (.tmp 37) rfl (mcells X) rfl rfl ?_ rfl (infoM _ HXL.out) mcells_one ?_)
    · rw [mcells_len, HXL.out]; exact Nat.le_refl 120
    clear hzv
    generalize hW : (w2.alloc (.cells _ 28)).setCells w2.heap.size 0 _ = w2v
    have k7 : Blk w2v w2.heap.size 28 (mcells X) := by rw [← hW]; exact Blk.varM HXL.out
    have bv : Below w2.heap.size w2 w2v := by rw [← hW]; exact below_varM
    clear hW
    replace k3 := k3.ext bv
    replace k4 := k4.ext bv
    replace c := c.trans (bv.mono c.size)
    clear bv
    generalize w2.heap.size = g7 at *
    have hst := run_string_of (P := Try.prog) ((HQ.out.ext (Nat.le_refl _) c).more c.size) 48 9 5 Try.underlying48 Try.underlying5 Try.underlying9
    have hr := k4.range
    go_wp2_with (refine wpList_load_at 28 (.tmp 4) rfl rfl g4 0 rfl (mcells o) _ hr Try.underlying28 rfl (infoM _ HO.out) ?_)
    clear hr hst
    refine (HR.out _).mono ?_
    rintro e w3 ⟨rfl, b3⟩
    clear HR
    replace k3 := k3.ext b3
    replace k4 := k4.ext b3
    replace k7 := k7.ext b3
    replace c := c.trans (b3.mono c.size)
    clear b3
    have hzv := zeroIM
    go_upto_region 6 with (with_reducible refine wpList_store_new rfl 28 (.tmp 9) (.tmp 45) rfl (mcells X) rfl rfl ?_ rfl (infoM _ HXL.out) mcells_one ?_)
    · rw [mcells_len, HXL.out]; exact Nat.le_refl 120
    clear hzv
    generalize hW : (w3.alloc (.cells _ 28)).setCells w3.heap.size 0 _ = w3v
    have k9 : Blk w3v w3.heap.size 28 (mcells X) := by rw [← hW]; exact Blk.varM HXL.out
    have bv : Below w3.heap.size w3 w3v := by rw [← hW]; exact below_varM
    clear hW
    replace k3 := k3.ext bv
    replace k4 := k4.ext bv
    replace k7 := k7.ext bv
    replace c := c.trans (bv.mono c.size)
    clear bv
    generalize w3.heap.size = g9 at *
    cases hmy : Im.mayB m with
    | false =>
      have HMY := Lib.hid hmy
      clear hmy
      have hG0 : Below w3v.heap.size w3v w3v.drew := (Below.refl _ _).drew
      refine wp_region_list 15 [(fun y_ _ => y_ = .agg (mcells X).toArray),
        (fun y_ _ => y_ = .agg (mcells X).toArray),
        (fun y_ _ => y_ = .bool false),
        (fun y_ _ => y_ = .bool false),
        (fun y_ _ => y_ = .int .i64 (E : Int)),
        (fun y_ _ => y_ = .int .i64 (E : Int)),
        (fun y_ _ => y_ = .bool false),
        (fun y_ _ => y_ = .bool false),
        (fun y_ _ => y_ = .bool false),
        (fun y_ _ => y_ = .agg (mcells m).toArray),
        (fun y_ _ => y_ = .bool false),
        (fun y_ _ => y_ = .agg (mcells m).toArray),
        (fun y_ _ => y_ = .bool false),
        (fun y_ _ => y_ = .bool false),
        (fun y_ _ => y_ = .bool false)]
        (fun x => Below w3v.heap.size w3v x) (by kernel_rfl) rfl (by kernel_rfl) ?_ ?_ ?_ ?_
      · exact hG0
      · exact ⟨stab_eq _, stab_eq _, stab_eq _, stab_eq _, stab_eq _, stab_eq _, stab_eq _, stab_eq _, stab_eq _, stab_eq _, stab_eq _, stab_eq _, stab_eq _, stab_eq _, stab_eq _, trivial⟩
      · refine ⟨?_, ?_, ?_, ?_, ?_, ?_, ?_, ?_, ?_, ?_, ?_, ?_, ?_, ?_, ?_, trivial⟩
        · intro a x hG hd hs K hK
          have h7 : a.tmps.getD 7 undef = .pointer (some ⟨g7, 0, none⟩) := hs 7 (by kernel_rfl)
          clear hd hs
          refine wpOp_plain rfl rfl ?_
          refine wp_load_mid 28 (.tmp 7) rfl g7 0 h7 (mcells X) _ (k7.ext hG).range Try.underlying28 rfl (infoM _ HXL.out) ?_
          exact hK _ _ rfl hG (Below.refl _ _)
        · intro a x hG hd hs K hK
          have h9 : a.tmps.getD 9 undef = .pointer (some ⟨g9, 0, none⟩) := hs 9 (by kernel_rfl)
          clear hd hs
          refine wpOp_plain rfl rfl ?_
          refine wp_load_mid 28 (.tmp 9) rfl g9 0 h9 (mcells X) _ (k9.ext hG).range Try.underlying28 rfl (infoM _ HXL.out) ?_
          exact hK _ _ rfl hG (Below.refl _ _)
        · intro a x hG hd hs K hK
          have h47 : a.tmps.getD 47 undef = .agg (mcells X).toArray := hd 0 47 (by kernel_rfl)
          have h48 : a.tmps.getD 48 undef = .agg (mcells X).toArray := hd 1 48 (by kernel_rfl)
          clear hd hs
          refine wpOp_plain rfl rfl ?_
          refine wp_binop .neq 28 28 (.tmp 47) (.tmp 48) rfl h47 h48 eqGuardM (run_eql_im X X HXL.out HXL.out true (by simp) _).2 ?_
          exact hK _ _ rfl hG (Below.refl _ _)
        · intro a x hG hd hs K hK
          have h49 : a.tmps.getD 49 undef = .bool false := hd 2 49 (by kernel_rfl)
          clear hd hs
          refine wpOp_plain rfl rfl ?_
          go_simp
          exact hK _ _ rfl hG (Below.refl _ _)
        · intro a x hG hd hs K hK
          have h8 : a.tmps.getD 8 undef = .int .i64 (E : Int) := hs 8 (by kernel_rfl)
          have h50 : a.tmps.getD 50 undef = .bool false := hd 3 50 (by kernel_rfl)
          clear hd hs
          refine wpOp_yes rfl rfl rfl h50 ?_
          go_simp
          exact hK _ _ rfl hG (Below.refl _ _)
        · intro a x hG hd hs K hK
          have h10 : a.tmps.getD 10 undef = .int .i64 (E : Int) := hs 10 (by kernel_rfl)
          have h50 : a.tmps.getD 50 undef = .bool false := hd 3 50 (by kernel_rfl)
          clear hd hs
          refine wpOp_yes rfl rfl rfl h50 ?_
          go_simp
          exact hK _ _ rfl hG (Below.refl _ _)
        · intro a x hG hd hs K hK
          have h51 : a.tmps.getD 51 undef = .int .i64 (E : Int) := hd 4 51 (by kernel_rfl)
          have h52 : a.tmps.getD 52 undef = .int .i64 (E : Int) := hd 5 52 (by kernel_rfl)
          have h50 : a.tmps.getD 50 undef = .bool false := hd 3 50 (by kernel_rfl)
          clear hd hs
          refine wpOp_yes rfl rfl rfl h50 ?_
          go_simp
          exact hK _ _ rfl hG (Below.refl _ _)
        · intro a x hG hd hs K hK
          have h50 : a.tmps.getD 50 undef = .bool false := hd 3 50 (by kernel_rfl)
          have h53 : a.tmps.getD 53 undef = .bool false := hd 6 53 (by kernel_rfl)
          clear hd hs
          refine wpOp_plain rfl rfl ?_
          go_simp
          exact hK _ _ rfl hG (Below.refl _ _)
        · intro a x hG hd hs K hK
          have h54 : a.tmps.getD 54 undef = .bool false := hd 7 54 (by kernel_rfl)
          clear hd hs
          refine wpOp_plain rfl rfl ?_
          go_simp
          exact hK _ _ rfl hG (Below.refl _ _)
        · intro a x hG hd hs K hK
          have h3 : a.tmps.getD 3 undef = .pointer (some ⟨g3, 0, none⟩) := hs 3 (by kernel_rfl)
          have h55 : a.tmps.getD 55 undef = .bool false := hd 8 55 (by kernel_rfl)
          clear hd hs
          refine wpOp_yes rfl rfl rfl h55 ?_
          refine wp_load_mid 28 (.tmp 3) rfl g3 0 h3 (mcells m) _ (k3.ext hG).range Try.underlying28 rfl (infoM _ HM.out) ?_
          exact hK _ _ rfl hG (Below.refl _ _)
        · intro a x hG hd hs K hK
          have h56 : a.tmps.getD 56 undef = .agg (mcells m).toArray := hd 9 56 (by kernel_rfl)
          have h55 : a.tmps.getD 55 undef = .bool false := hd 8 55 (by kernel_rfl)
          clear hd hs
          refine wpOp_yes rfl rfl rfl h55 ?_
          go_simp
          refine (mayM_any m _ HM.out).mono ?_
          rintro e w' ⟨rfl, hb⟩
          rw [HMY.out]
          exact hK _ _ rfl (hG.trans (hb.mono hG.size)) hb
        · intro a x hG hd hs K hK
          have h3 : a.tmps.getD 3 undef = .pointer (some ⟨g3, 0, none⟩) := hs 3 (by kernel_rfl)
          have h55 : a.tmps.getD 55 undef = .bool false := hd 8 55 (by kernel_rfl)
          clear hd hs
          refine wpOp_yes rfl rfl rfl h55 ?_
          refine wp_load_mid 28 (.tmp 3) rfl g3 0 h3 (mcells m) _ (k3.ext hG).range Try.underlying28 rfl (infoM _ HM.out) ?_
          exact hK _ _ rfl hG (Below.refl _ _)
        · intro a x hG hd hs K hK
          have h58 : a.tmps.getD 58 undef = .agg (mcells m).toArray := hd 11 58 (by kernel_rfl)
          have h55 : a.tmps.getD 55 undef = .bool false := hd 8 55 (by kernel_rfl)
          clear hd hs
          refine wpOp_yes rfl rfl rfl h55 ?_
          go_simp
          refine (rmayM_any m _ HM.out).mono ?_
          rintro e w' ⟨rfl, hb⟩
          rw [HMY.out]
          exact hK _ _ rfl (hG.trans (hb.mono hG.size)) hb
        · intro a x hG hd hs K hK
          have h57 : a.tmps.getD 57 undef = .bool false := hd 10 57 (by kernel_rfl)
          have h59 : a.tmps.getD 59 undef = .bool false := hd 12 59 (by kernel_rfl)
          have h55 : a.tmps.getD 55 undef = .bool false := hd 8 55 (by kernel_rfl)
          clear hd hs
          refine wpOp_yes rfl rfl rfl h55 ?_
          go_simp
          exact hK _ _ rfl hG (Below.refl _ _)
        · intro a x hG hd hs K hK
          have h55 : a.tmps.getD 55 undef = .bool false := hd 8 55 (by kernel_rfl)
          have h60 : a.tmps.getD 60 undef = .bool false := hd 13 60 (by kernel_rfl)
          clear hd hs
          refine wpOp_plain rfl rfl ?_
          go_simp
          exact hK _ _ rfl hG (Below.refl _ _)
      · intro x hG
        rintro _ rfl _ rfl _ rfl _ rfl _ rfl _ rfl _ rfl _ rfl _ rfl _ rfl _ rfl _ rfl _ rfl _ rfl _ rfl
        simp only [Act.put, List.setIfInBounds_toArray, List.set_cons_zero, List.set_cons_succ, REnd]
        try simp only [Exit.then]
        replace k3 := k3.ext hG
        replace k4 := k4.ext hG
        replace k7 := k7.ext hG
        replace k9 := k9.ext hG
        replace c := c.trans (hG.mono c.size)
        clear hG
        obtain ⟨w4, rfl⟩ : ∃ w4, w4 = x := ⟨x, rfl⟩
        clear hG0
        have hr := k3.range
        go_wp2_with (refine wpList_load_at 28 (.tmp 3) rfl rfl g3 0 rfl (mcells m) _ hr Try.underlying28 rfl (infoM _ HM.out) ?_)
        clear hr
        refine (encodeI_no m k _ HM.out HMY.out).mono ?_
        rintro e w5 ⟨rfl, b5⟩
        replace k3 := k3.ext b5
        replace c := c.trans (b5.mono c.size)
        clear b5
        have hr := k3.range
        go_wp2_with (refine wpList_load_at 28 (.tmp 3) rfl rfl g3 0 rfl (mcells m) _ hr Try.underlying28 rfl (infoM _ HM.out) ?_)
        clear hr
        refine (rmayM_any m _ HM.out).mono ?_
        rintro e w6 ⟨rfl, b6⟩
        rw [HMY.out]
        replace k3 := k3.ext b6
        replace c := c.trans (b6.mono c.size)
        clear b6
        go_wp2_with fail
        refine (awakeM_any _).mono ?_
        rintro e w9 ⟨rfl, b9⟩
        go_wp2
        go_ret
        exact ⟨rfl, c.trans (b9.mono c.size)⟩
    | true =>
      have HMY := Lib.hid hmy
      clear hmy
      have hG0 : Below w3v.heap.size w3v w3v.drew := (Below.refl _ _).drew
      refine wp_region_list 15 [(fun y_ _ => y_ = .agg (mcells X).toArray),
        (fun y_ _ => y_ = .agg (mcells X).toArray),
        (fun y_ _ => y_ = .bool false),
        (fun y_ _ => y_ = .bool false),
        (fun y_ _ => y_ = .int .i64 (E : Int)),
        (fun y_ _ => y_ = .int .i64 (E : Int)),
        (fun y_ _ => y_ = .bool false),
        (fun y_ _ => y_ = .bool false),
        (fun y_ _ => y_ = .bool false),
        (fun y_ _ => y_ = .agg (mcells m).toArray),
        (fun y_ _ => y_ = .bool true),
        (fun y_ _ => y_ = .agg (mcells m).toArray),
        (fun y_ _ => y_ = .bool true),
        (fun y_ _ => y_ = .bool false),
        (fun y_ _ => y_ = .bool false)]
        (fun x => Below w3v.heap.size w3v x) (by kernel_rfl) rfl (by kernel_rfl) ?_ ?_ ?_ ?_
      · exact hG0
      · exact ⟨stab_eq _, stab_eq _, stab_eq _, stab_eq _, stab_eq _, stab_eq _, stab_eq _, stab_eq _, stab_eq _, stab_eq _, stab_eq _, stab_eq _, stab_eq _, stab_eq _, stab_eq _, trivial⟩
      · refine ⟨?_, ?_, ?_, ?_, ?_, ?_, ?_, ?_, ?_, ?_, ?_, ?_, ?_, ?_, ?_, trivial⟩
        · intro a x hG hd hs K hK
          have h7 : a.tmps.getD 7 undef = .pointer (some ⟨g7, 0, none⟩) := hs 7 (by kernel_rfl)
          clear hd hs
          refine wpOp_plain rfl rfl ?_
          refine wp_load_mid 28 (.tmp 7) rfl g7 0 h7 (mcells X) _ (k7.ext hG).range Try.underlying28 rfl (infoM _ HXL.out) ?_
          exact hK _ _ rfl hG (Below.refl _ _)
        · intro a x hG hd hs K hK
          have h9 : a.tmps.getD 9 undef = .pointer (some ⟨g9, 0, none⟩) := hs 9 (by kernel_rfl)
          clear hd hs
          refine wpOp_plain rfl rfl ?_
          refine wp_load_mid 28 (.tmp 9) rfl g9 0 h9 (mcells X) _ (k9.ext hG).range Try.underlying28 rfl (infoM _ HXL.out) ?_
          exact hK _ _ rfl hG (Below.refl _ _)
        · intro a x hG hd hs K hK
          have h47 : a.tmps.getD 47 undef = .agg (mcells X).toArray := hd 0 47 (by kernel_rfl)
          have h48 : a.tmps.getD 48 undef = .agg (mcells X).toArray := hd 1 48 (by kernel_rfl)
          clear hd hs
          refine wpOp_plain rfl rfl ?_
          refine wp_binop .neq 28 28 (.tmp 47) (.tmp 48) rfl h47 h48 eqGuardM (run_eql_im X X HXL.out HXL.out true (by simp) _).2 ?_
          exact hK _ _ rfl hG (Below.refl _ _)
        · intro a x hG hd hs K hK
          have h49 : a.tmps.getD 49 undef = .bool false := hd 2 49 (by kernel_rfl)
          clear hd hs
          refine wpOp_plain rfl rfl ?_
          go_simp
          exact hK _ _ rfl hG (Below.refl _ _)
        · intro a x hG hd hs K hK
          have h8 : a.tmps.getD 8 undef = .int .i64 (E : Int) := hs 8 (by kernel_rfl)
          have h50 : a.tmps.getD 50 undef = .bool false := hd 3 50 (by kernel_rfl)
          clear hd hs
          refine wpOp_yes rfl rfl rfl h50 ?_
          go_simp
          exact hK _ _ rfl hG (Below.refl _ _)
        · intro a x hG hd hs K hK
          have h10 : a.tmps.getD 10 undef = .int .i64 (E : Int) := hs 10 (by kernel_rfl)
          have h50 : a.tmps.getD 50 undef = .bool false := hd 3 50 (by kernel_rfl)
          clear hd hs
          refine wpOp_yes rfl rfl rfl h50 ?_
          go_simp
          exact hK _ _ rfl hG (Below.refl _ _)
        · intro a x hG hd hs K hK
          have h51 : a.tmps.getD 51 undef = .int .i64 (E : Int) := hd 4 51 (by kernel_rfl)
          have h52 : a.tmps.getD 52 undef = .int .i64 (E : Int) := hd 5 52 (by kernel_rfl)
          have h50 : a.tmps.getD 50 undef = .bool false := hd 3 50 (by kernel_rfl)
          clear hd hs
          refine wpOp_yes rfl rfl rfl h50 ?_
          go_simp
          exact hK _ _ rfl hG (Below.refl _ _)
        · intro a x hG hd hs K hK
          have h50 : a.tmps.getD 50 undef = .bool false := hd 3 50 (by kernel_rfl)
          have h53 : a.tmps.getD 53 undef = .bool false := hd 6 53 (by kernel_rfl)
          clear hd hs
          refine wpOp_plain rfl rfl ?_
          go_simp
          exact hK _ _ rfl hG (Below.refl _ _)
        · intro a x hG hd hs K hK
          have h54 : a.tmps.getD 54 undef = .bool false := hd 7 54 (by kernel_rfl)
          clear hd hs
          refine wpOp_plain rfl rfl ?_
          go_simp
          exact hK _ _ rfl hG (Below.refl _ _)
        · intro a x hG hd hs K hK
          have h3 : a.tmps.getD 3 undef = .pointer (some ⟨g3, 0, none⟩) := hs 3 (by kernel_rfl)
          have h55 : a.tmps.getD 55 undef = .bool false := hd 8 55 (by kernel_rfl)
          clear hd hs
          refine wpOp_yes rfl rfl rfl h55 ?_
          refine wp_load_mid 28 (.tmp 3) rfl g3 0 h3 (mcells m) _ (k3.ext hG).range Try.underlying28 rfl (infoM _ HM.out) ?_
          exact hK _ _ rfl hG (Below.refl _ _)
        · intro a x hG hd hs K hK
          have h56 : a.tmps.getD 56 undef = .agg (mcells m).toArray := hd 9 56 (by kernel_rfl)
          have h55 : a.tmps.getD 55 undef = .bool false := hd 8 55 (by kernel_rfl)
          clear hd hs
          refine wpOp_yes rfl rfl rfl h55 ?_
          go_simp
          refine (mayM_any m _ HM.out).mono ?_
          rintro e w' ⟨rfl, hb⟩
          rw [HMY.out]
          exact hK _ _ rfl (hG.trans (hb.mono hG.size)) hb
        · intro a x hG hd hs K hK
          have h3 : a.tmps.getD 3 undef = .pointer (some ⟨g3, 0, none⟩) := hs 3 (by kernel_rfl)
          have h55 : a.tmps.getD 55 undef = .bool false := hd 8 55 (by kernel_rfl)
          clear hd hs
          refine wpOp_yes rfl rfl rfl h55 ?_
          refine wp_load_mid 28 (.tmp 3) rfl g3 0 h3 (mcells m) _ (k3.ext hG).range Try.underlying28 rfl (infoM _ HM.out) ?_
          exact hK _ _ rfl hG (Below.refl _ _)
        · intro a x hG hd hs K hK
          have h58 : a.tmps.getD 58 undef = .agg (mcells m).toArray := hd 11 58 (by kernel_rfl)
          have h55 : a.tmps.getD 55 undef = .bool false := hd 8 55 (by kernel_rfl)
          clear hd hs
          refine wpOp_yes rfl rfl rfl h55 ?_
          go_simp
          refine (rmayM_any m _ HM.out).mono ?_
          rintro e w' ⟨rfl, hb⟩
          rw [HMY.out]
          exact hK _ _ rfl (hG.trans (hb.mono hG.size)) hb
        · intro a x hG hd hs K hK
          have h57 : a.tmps.getD 57 undef = .bool true := hd 10 57 (by kernel_rfl)
          have h59 : a.tmps.getD 59 undef = .bool true := hd 12 59 (by kernel_rfl)
          have h55 : a.tmps.getD 55 undef = .bool false := hd 8 55 (by kernel_rfl)
          clear hd hs
          refine wpOp_yes rfl rfl rfl h55 ?_
          go_simp
          exact hK _ _ rfl hG (Below.refl _ _)
        · intro a x hG hd hs K hK
          have h55 : a.tmps.getD 55 undef = .bool false := hd 8 55 (by kernel_rfl)
          have h60 : a.tmps.getD 60 undef = .bool false := hd 13 60 (by kernel_rfl)
          clear hd hs
          refine wpOp_plain rfl rfl ?_
          go_simp
          exact hK _ _ rfl hG (Below.refl _ _)
      · intro x hG
        rintro _ rfl _ rfl _ rfl _ rfl _ rfl _ rfl _ rfl _ rfl _ rfl _ rfl _ rfl _ rfl _ rfl _ rfl _ rfl
        simp only [Act.put, List.setIfInBounds_toArray, List.set_cons_zero, List.set_cons_succ, REnd]
        try simp only [Exit.then]
        replace k3 := k3.ext hG
        replace k4 := k4.ext hG
        replace k7 := k7.ext hG
        replace k9 := k9.ext hG
        replace c := c.trans (hG.mono c.size)
        clear hG
        obtain ⟨w4, rfl⟩ : ∃ w4, w4 = x := ⟨x, rfl⟩
        clear hG0
        have hr := k3.range
        go_wp2_with (refine wpList_load_at 28 (.tmp 3) rfl rfl g3 0 rfl (mcells m) _ hr Try.underlying28 rfl (infoM _ HM.out) ?_)
        clear hr
        cases hkb : Im.kB k with
        | false =>
          have HKB := Lib.hid hkb
          have hkk : ¬ (0 ≤ k ∧ k ≤ 3) := of_decide_eq_false hkb
          clear hkb
          refine (encodeI_far m k _ HM.out HMY.out HKB.out).mono ?_
          rintro e w5 ⟨rfl, b5⟩
          replace k3 := k3.ext b5
          replace k4 := k4.ext b5
          replace k7 := k7.ext b5
          replace k9 := k9.ext b5
          replace c := c.trans (b5.mono c.size)
          clear b5
          have hr := k3.range
          go_wp2_with (refine wpList_load_at 28 (.tmp 3) rfl rfl g3 0 rfl (mcells m) _ hr Try.underlying28 rfl (infoM _ HM.out) ?_)
          clear hr
          refine (rmayM_any m _ HM.out).mono ?_
          rintro e w6 ⟨rfl, b6⟩
          rw [HMY.out]
          replace k3 := k3.ext b6
          replace k4 := k4.ext b6
          replace k7 := k7.ext b6
          replace k9 := k9.ext b6
          replace c := c.trans (b6.mono c.size)
          clear b6
          obtain ⟨w7, hw7⟩ : ∃ w7, w7 = w6 := ⟨_, rfl⟩
          rw [← hw7] at k3 k4 k7 k9 c ⊢
          clear hw7
          by_cases h0 : 0 ≤ k
          · have h4 : 3 < k := by omega
            clear hkk
            clear k4 k7 k9
            have HZL := Lib.hid (show Im.zero.length = 40 from rfl)
            have hzv := zeroIM
            go_upto_region 17 with (with_reducible refine wpList_store_new rfl 28 (.tmp 13) (.tmp 104) rfl (mcells Im.zero) rfl rfl ?_ rfl (infoM _ rfl) mcells_one ?_)
            · rw [mcells_len]; exact Nat.le_refl 120
            clear hzv
            generalize hW : (w7.alloc (.cells _ 28)).setCells w7.heap.size 0 _ = w7v
            have k13 : Blk w7v w7.heap.size 28 (mcells Im.zero) := by rw [← hW]; exact Blk.varM HZL.out
            have hg13 : w.heap.size ≤ w7.heap.size := c.size
            have hn13 : g3 ≠ w7.heap.size := by have := k3.lt; omega
            have bv : Below w7.heap.size w7 w7v := by rw [← hW]; exact below_varM
            clear hW
            replace k3 := k3.ext bv
            replace c := c.trans (bv.mono c.size)
            clear bv
            generalize w7.heap.size = g13 at *
            go_wp2
            go_loopw [14] (fun i wr => ∃ j : Nat, j ≤ 4 ∧ i = .int .i64 j ∧ Blk wr g13 28 (mcells (Im.backAt m j)) ∧ Blk wr g3 28 (mcells m) ∧ Below w.heap.size w wr) (fun i _ => 4 - (intOf i).toNat)
            case atStart => exact ⟨0, by omega, rfl, by rw [Im.backAt_zero]; exact k13, k3, c⟩
            case round =>
              obtain ⟨j, hj, rfl, l13, l3, lc⟩ := hrel
              clear k13 k3 c
              by_cases hlt : j < 4
              · have HBS := Lib.hid (Im.back_step HG.out HMY.out j hlt)
                have HBL := Lib.hid (Im.backAt_len HM.out j (by omega))
                have HCL := Lib.hid (Im.backAt_len HM.out (j + 1) (by omega))
                have hr := l3.range
                go_wp2_with (refine wpList_load_at 28 (.tmp 3) rfl rfl g3 0 rfl (mcells m) _ hr Try.underlying28 rfl (infoM _ HM.out) ?_)
                clear hr
                refine (encodeI_yes m j _ HG.out HMY.out hlt).mono ?_
                rintro e wa ⟨u1, rfl, hu1, ba⟩
                replace l13 := l13.ext ba
                replace l3 := l3.ext ba
                replace lc := lc.trans (ba.mono lc.size)
                clear ba
                have HU1 := Lib.hid hu1
                clear hu1
                have HDC := Lib.hid (fun W v h => decodeI_any (Im.backAt m j) (j : Int) W v (Im.imE m j) HBL.out h)
                rw [HBS.out.1, HBS.out.2] at HDC
                generalize Im.backAt m j = Bk at *
                generalize hBn : Im.backAt m (j + 1) = Bn at *
                have HBN := Lib.hid hBn
                clear hBn
                have hr := l13.range
                go_wp2_with (refine wpList_load_at 28 (.tmp 13) rfl rfl g13 0 rfl (mcells Bk) _ hr Try.underlying28 rfl (infoM _ HBL.out) ?_)
                clear hr
                refine (HDC.out _ _ HU1.out).mono ?_
                rintro e wb ⟨rfl, bb⟩
                replace l13 := l13.ext bb
                replace l3 := l3.ext bb
                replace lc := lc.trans (bb.mono lc.size)
                clear bb
                clear HDC HU1
                rw [show (((0 : Nat)) : Int) = 0 from rfl]
                unfold magg
                have hzv := zeroIM
                go_upto_region 22 with (with_reducible refine wpList_store_new rfl 28 (.tmp 17) (.tmp 120) rfl (mcells Bn) rfl rfl ?_ rfl (infoM _ HCL.out) mcells_one ?_)
                · rw [mcells_len, HCL.out]; exact Nat.le_refl 120
                clear hzv
                generalize hW : (wb.alloc (.cells _ 28)).setCells wb.heap.size 0 _ = wbv
                have l17 : Blk wbv wb.heap.size 28 (mcells Bn) := by rw [← hW]; exact Blk.varM HCL.out
                have bv : Below wb.heap.size wb wbv := by rw [← hW]; exact below_varM
                clear hW
                replace l13 := l13.ext bv
                replace l3 := l3.ext bv
                replace lc := lc.trans (bv.mono lc.size)
                clear bv
                generalize wb.heap.size = g17 at *
                have hr := l17.range
                have HLE := Lib.hid (show 0 + (mcells Bn).toArray.size ≤ (mcells Bk).length by rw [List.size_toArray, mcells_len, mcells_len, HCL.out, HBL.out]; decide)
                go_upto_region 19 with (first | refine wpList_load_at 28 (.tmp 17) rfl rfl g17 0 rfl (mcells Bn) _ hr Try.underlying28 rfl (infoM _ HCL.out) ?_ | refine wpList_store_mid rfl 28 (.tmp 13) (.tmp 128) rfl g13 0 (mcells Bn).toArray rfl rfl (l13.there 0 _ HLE.out) (infoM _ HCL.out) (all_oneCell_toArray mcells_one) ?_)
                have hz := l13.setCells (mcells Bn) 0 (by rw [mcells_len, mcells_len, HCL.out, HBL.out]; decide)
                rw [spl_all _ _ (by rw [mcells_len, mcells_len, HCL.out, HBL.out])] at hz
                have z3 := l3.grown (grown_setCells (g := g13) (mcells Bn) _ 0) (fun e => by injection e with e; exact hn13 e)
                have zc := below_setCells (o := 0) (vs := mcells Bn) lc hg13
                generalize World.setCells _ g13 0 _ = wd at *
                clear hr l13 l3 l17 lc
                go_wp2
                go_roundw
                case rel => exact ⟨j + 1, by omega, by go_num, by rw [HBN.out]; exact hz, z3, zc⟩
                case measure => simp [intOf]; omega
              · obtain rfl : j = 4 := by omega
                rw [Im.backAt_four HM.out] at l13
                rw [show (((4 : Nat)) : Int) = 4 from rfl]
                have r13 := l13.range
                have r3 := l3.range
                have c := lc
                clear lc
                go_wp2_with (first | refine wpList_load_at 28 (.tmp 13) rfl rfl g13 0 rfl (mcells m) _ r13 Try.underlying28 rfl (infoM _ HM.out) ?_ | refine wpList_load_at 28 (.tmp 3) rfl rfl g3 0 rfl (mcells m) _ r3 Try.underlying28 rfl (infoM _ HM.out) ?_ | refine wpList_binop .eql 28 28 (.tmp 129) (.tmp 130) rfl rfl rfl rfl eqGuardM (run_eql_im m m HM.out HM.out true (by simp) _).1 ?_)
                refine (awakeM_any _).mono ?_
                rintro e w9 ⟨rfl, b9⟩
                go_wp2
                go_ret
                exact ⟨rfl, c.trans (b9.mono c.size)⟩
          · clear hkk
            clear k4 k7 k9
            have HZL := Lib.hid (show Im.zero.length = 40 from rfl)
            have hzv := zeroIM
            go_upto_region 17 with (with_reducible refine wpList_store_new rfl 28 (.tmp 13) (.tmp 104) rfl (mcells Im.zero) rfl rfl ?_ rfl (infoM _ rfl) mcells_one ?_)
            · rw [mcells_len]; exact Nat.le_refl 120
            clear hzv
            generalize hW : (w7.alloc (.cells _ 28)).setCells w7.heap.size 0 _ = w7v
            have k13 : Blk w7v w7.heap.size 28 (mcells Im.zero) := by rw [← hW]; exact Blk.varM HZL.out
            have hg13 : w.heap.size ≤ w7.heap.size := c.size
            have hn13 : g3 ≠ w7.heap.size := by have := k3.lt; omega
            have bv : Below w7.heap.size w7 w7v := by rw [← hW]; exact below_varM
            clear hW
            replace k3 := k3.ext bv
            replace c := c.trans (bv.mono c.size)
            clear bv
            generalize w7.heap.size = g13 at *
            go_wp2
            go_loopw [14] (fun i wr => ∃ j : Nat, j ≤ 4 ∧ i = .int .i64 j ∧ Blk wr g13 28 (mcells (Im.backAt m j)) ∧ Blk wr g3 28 (mcells m) ∧ Below w.heap.size w wr) (fun i _ => 4 - (intOf i).toNat)
            case atStart => exact ⟨0, by omega, rfl, by rw [Im.backAt_zero]; exact k13, k3, c⟩
            case round =>
              obtain ⟨j, hj, rfl, l13, l3, lc⟩ := hrel
              clear k13 k3 c
              by_cases hlt : j < 4
              · have HBS := Lib.hid (Im.back_step HG.out HMY.out j hlt)
                have HBL := Lib.hid (Im.backAt_len HM.out j (by omega))
                have HCL := Lib.hid (Im.backAt_len HM.out (j + 1) (by omega))
                have hr := l3.range
                go_wp2_with (refine wpList_load_at 28 (.tmp 3) rfl rfl g3 0 rfl (mcells m) _ hr Try.underlying28 rfl (infoM _ HM.out) ?_)
                clear hr
                refine (encodeI_yes m j _ HG.out HMY.out hlt).mono ?_
                rintro e wa ⟨u1, rfl, hu1, ba⟩
                replace l13 := l13.ext ba
                replace l3 := l3.ext ba
                replace lc := lc.trans (ba.mono lc.size)
                clear ba
                have HU1 := Lib.hid hu1
                clear hu1
                have HDC := Lib.hid (fun W v h => decodeI_any (Im.backAt m j) (j : Int) W v (Im.imE m j) HBL.out h)
                rw [HBS.out.1, HBS.out.2] at HDC
                generalize Im.backAt m j = Bk at *
                generalize hBn : Im.backAt m (j + 1) = Bn at *
                have HBN := Lib.hid hBn
                clear hBn
                have hr := l13.range
                go_wp2_with (refine wpList_load_at 28 (.tmp 13) rfl rfl g13 0 rfl (mcells Bk) _ hr Try.underlying28 rfl (infoM _ HBL.out) ?_)
                clear hr
                refine (HDC.out _ _ HU1.out).mono ?_
                rintro e wb ⟨rfl, bb⟩
                replace l13 := l13.ext bb
                replace l3 := l3.ext bb
                replace lc := lc.trans (bb.mono lc.size)
                clear bb
                clear HDC HU1
                rw [show (((0 : Nat)) : Int) = 0 from rfl]
                unfold magg
                have hzv := zeroIM
                go_upto_region 22 with (with_reducible refine wpList_store_new rfl 28 (.tmp 17) (.tmp 120) rfl (mcells Bn) rfl rfl ?_ rfl (infoM _ HCL.out) mcells_one ?_)
                · rw [mcells_len, HCL.out]; exact Nat.le_refl 120
                clear hzv
                generalize hW : (wb.alloc (.cells _ 28)).setCells wb.heap.size 0 _ = wbv
                have l17 : Blk wbv wb.heap.size 28 (mcells Bn) := by rw [← hW]; exact Blk.varM HCL.out
                have bv : Below wb.heap.size wb wbv := by rw [← hW]; exact below_varM
                clear hW
                replace l13 := l13.ext bv
                replace l3 := l3.ext bv
                replace lc := lc.trans (bv.mono lc.size)
                clear bv
                generalize wb.heap.size = g17 at *
                have hr := l17.range
                have HLE := Lib.hid (show 0 + (mcells Bn).toArray.size ≤ (mcells Bk).length by rw [List.size_toArray, mcells_len, mcells_len, HCL.out, HBL.out]; decide)
                go_upto_region 19 with (first | refine wpList_load_at 28 (.tmp 17) rfl rfl g17 0 rfl (mcells Bn) _ hr Try.underlying28 rfl (infoM _ HCL.out) ?_ | refine wpList_store_mid rfl 28 (.tmp 13) (.tmp 128) rfl g13 0 (mcells Bn).toArray rfl rfl (l13.there 0 _ HLE.out) (infoM _ HCL.out) (all_oneCell_toArray mcells_one) ?_)
                have hz := l13.setCells (mcells Bn) 0 (by rw [mcells_len, mcells_len, HCL.out, HBL.out]; decide)
                rw [spl_all _ _ (by rw [mcells_len, mcells_len, HCL.out, HBL.out])] at hz
                have z3 := l3.grown (grown_setCells (g := g13) (mcells Bn) _ 0) (fun e => by injection e with e; exact hn13 e)
                have zc := below_setCells (o := 0) (vs := mcells Bn) lc hg13
                generalize World.setCells _ g13 0 _ = wd at *
                clear hr l13 l3 l17 lc
                go_wp2
                go_roundw
                case rel => exact ⟨j + 1, by omega, by go_num, by rw [HBN.out]; exact hz, z3, zc⟩
                case measure => simp [intOf]; omega
              · obtain rfl : j = 4 := by omega
                rw [Im.backAt_four HM.out] at l13
                rw [show (((4 : Nat)) : Int) = 4 from rfl]
                have r13 := l13.range
                have r3 := l3.range
                have c := lc
                clear lc
                go_wp2_with (first | refine wpList_load_at 28 (.tmp 13) rfl rfl g13 0 rfl (mcells m) _ r13 Try.underlying28 rfl (infoM _ HM.out) ?_ | refine wpList_load_at 28 (.tmp 3) rfl rfl g3 0 rfl (mcells m) _ r3 Try.underlying28 rfl (infoM _ HM.out) ?_ | refine wpList_binop .eql 28 28 (.tmp 129) (.tmp 130) rfl rfl rfl rfl eqGuardM (run_eql_im m m HM.out HM.out true (by simp) _).1 ?_)
                refine (awakeM_any _).mono ?_
                rintro e w9 ⟨rfl, b9⟩
                go_wp2
                go_ret
                exact ⟨rfl, c.trans (b9.mono c.size)⟩
        | true =>
          have hkk : 0 ≤ k ∧ k ≤ 3 := of_decide_eq_true hkb
          obtain ⟨n, rfl⟩ := Int.eq_ofNat_of_zero_le hkk.1
          have hn : n < 4 := by omega
          have hn0 : (0 : Int) ≤ (n : Int) := by omega
          have hn3 : (n : Int) ≤ 3 := by omega
          clear hkb hkk
          refine (encodeI_yes m n _ HG.out HMY.out hn).mono ?_
          rintro e w5 ⟨u5, rfl, hu5, b5⟩
          replace k3 := k3.ext b5
          replace k4 := k4.ext b5
          replace k7 := k7.ext b5
          replace k9 := k9.ext b5
          replace c := c.trans (b5.mono c.size)
          clear b5
          have HU5 := Lib.hid hu5
          clear hu5
          have hr := k3.range
          go_wp2_with (refine wpList_load_at 28 (.tmp 3) rfl rfl g3 0 rfl (mcells m) _ hr Try.underlying28 rfl (infoM _ HM.out) ?_)
          clear hr
          refine (rmayM_any m _ HM.out).mono ?_
          rintro e w6 ⟨rfl, b6⟩
          rw [HMY.out]
          have HU6 := Lib.hid ((HU5.out.ext (Nat.le_refl _) b6).more b6.size)
          replace k3 := k3.ext b6
          replace k4 := k4.ext b6
          replace k7 := k7.ext b6
          replace k9 := k9.ext b6
          replace c := c.trans (b6.mono c.size)
          clear b6
          clear HU5
          go_upto_region 14 with (fail)
          obtain ⟨w7, hw7⟩ : ∃ w7, w7 = w6 := ⟨_, rfl⟩
          rw [← hw7] at k3 k4 k7 k9 c HU6 ⊢
          clear hw7
          have hG0 : Below w7.heap.size w7 w7.drew := (Below.refl _ _).drew
          refine wp_region_list 10 [(fun y_ _ => y_ = u5),
            (fun y_ _ => y_ = .string ⟨(Im.imE m n).toArray⟩),
            (fun y_ _ => y_ = .agg (mcells m).toArray),
            (fun y_ _ => y_ = .int .i64 (n : Int)),
            (fun y_ _ => y_ = .string ⟨(Im.imE m n).toArray⟩),
            (fun y_ _ => y_ = .bool false),
            (fun y_ _ => y_ = .bool false),
            (fun y_ _ => y_ = .int .i64 0),
            (fun y_ _ => y_ = .bool false),
            (fun y_ _ => y_ = .bool false)]
            (fun x => Below w7.heap.size w7 x) (by kernel_rfl) rfl (by kernel_rfl) ?_ ?_ ?_ ?_
          · exact hG0
          · exact ⟨stab_eq _, stab_eq _, stab_eq _, stab_eq _, stab_eq _, stab_eq _, stab_eq _, stab_eq _, stab_eq _, stab_eq _, trivial⟩
          · refine ⟨?_, ?_, ?_, ?_, ?_, ?_, ?_, ?_, ?_, ?_, trivial⟩
            · intro a x hG hd hs K hK
              have h11 : a.tmps.getD 11 undef = u5 := hs 11 (by kernel_rfl)
              clear hd hs
              refine wpOp_plain rfl rfl ?_
              go_simp
              exact hK _ _ rfl hG (Below.refl _ _)
            · intro a x hG hd hs K hK
              have h94 : a.tmps.getD 94 undef = u5 := hd 0 94 (by kernel_rfl)
              clear hd hs
              refine wpOp_plain rfl rfl ?_
              have hst := run_string_of (P := Try.prog) ((HU6.out.ext (Nat.le_refl _) hG).more hG.size) 48 9 5 Try.underlying48 Try.underlying5 Try.underlying9
              go_simp
              exact hK _ _ rfl hG (Below.refl _ _)
            · intro a x hG hd hs K hK
              have h3 : a.tmps.getD 3 undef = .pointer (some ⟨g3, 0, none⟩) := hs 3 (by kernel_rfl)
              clear hd hs
              refine wpOp_plain rfl rfl ?_
              refine wp_load_mid 28 (.tmp 3) rfl g3 0 h3 (mcells m) _ (k3.ext hG).range Try.underlying28 rfl (infoM _ HM.out) ?_
              exact hK _ _ rfl hG (Below.refl _ _)
            · intro a x hG hd hs K hK
              have h5 : a.tmps.getD 5 undef = .int .i64 (n : Int) := hs 5 (by kernel_rfl)
              clear hd hs
              refine wpOp_plain rfl rfl ?_
              go_simp
              exact hK _ _ rfl hG (Below.refl _ _)
            · intro a x hG hd hs K hK
              have h96 : a.tmps.getD 96 undef = .agg (mcells m).toArray := hd 2 96 (by kernel_rfl)
              have h97 : a.tmps.getD 97 undef = .int .i64 (n : Int) := hd 3 97 (by kernel_rfl)
              clear hd hs
              refine wpOp_plain rfl rfl ?_
              go_simp
              refine (rencodeI_any m n _ HG.out HMY.out hn).mono ?_
              rintro e w' ⟨rfl, hb⟩
              exact hK _ _ rfl (hG.trans (hb.mono hG.size)) hb
            · intro a x hG hd hs K hK
              have h95 : a.tmps.getD 95 undef = .string ⟨(Im.imE m n).toArray⟩ := hd 1 95 (by kernel_rfl)
              have h98 : a.tmps.getD 98 undef = .string ⟨(Im.imE m n).toArray⟩ := hd 4 98 (by kernel_rfl)
              clear hd hs
              refine wpOp_plain rfl rfl ?_
              go_simp
              exact hK _ _ rfl hG (Below.refl _ _)
            · intro a x hG hd hs K hK
              have h99 : a.tmps.getD 99 undef = .bool false := hd 5 99 (by kernel_rfl)
              clear hd hs
              refine wpOp_plain rfl rfl ?_
              go_simp
              exact hK _ _ rfl hG (Below.refl _ _)
            · intro a x hG hd hs K hK
              have h12 : a.tmps.getD 12 undef = .int .i64 0 := hs 12 (by kernel_rfl)
              have h100 : a.tmps.getD 100 undef = .bool false := hd 6 100 (by kernel_rfl)
              clear hd hs
              refine wpOp_yes rfl rfl rfl h100 ?_
              go_simp
              exact hK _ _ rfl hG (Below.refl _ _)
            · intro a x hG hd hs K hK
              have h101 : a.tmps.getD 101 undef = .int .i64 0 := hd 7 101 (by kernel_rfl)
              have h100 : a.tmps.getD 100 undef = .bool false := hd 6 100 (by kernel_rfl)
              clear hd hs
              refine wpOp_yes rfl rfl rfl h100 ?_
              go_simp
              exact hK _ _ rfl hG (Below.refl _ _)
            · intro a x hG hd hs K hK
              have h100 : a.tmps.getD 100 undef = .bool false := hd 6 100 (by kernel_rfl)
              have h102 : a.tmps.getD 102 undef = .bool false := hd 8 102 (by kernel_rfl)
              clear hd hs
              refine wpOp_plain rfl rfl ?_
              go_simp
              exact hK _ _ rfl hG (Below.refl _ _)
          · intro x hG
            rintro _ rfl _ rfl _ rfl _ rfl _ rfl _ rfl _ rfl _ rfl _ rfl _ rfl
            simp only [Act.put, List.setIfInBounds_toArray, List.set_cons_zero, List.set_cons_succ, REnd]
            try simp only [Exit.then]
            replace k3 := k3.ext hG
            replace k4 := k4.ext hG
            replace k7 := k7.ext hG
            replace k9 := k9.ext hG
            replace c := c.trans (hG.mono c.size)
            clear hG
            obtain ⟨w8, rfl⟩ : ∃ w8, w8 = x := ⟨x, rfl⟩
            clear hG0
            clear k4 k7 k9
            have HZL := Lib.hid (show Im.zero.length = 40 from rfl)
            have hzv := zeroIM
            go_upto_region 17 with (with_reducible refine wpList_store_new rfl 28 (.tmp 13) (.tmp 104) rfl (mcells Im.zero) rfl rfl ?_ rfl (infoM _ rfl) mcells_one ?_)
            · rw [mcells_len]; exact Nat.le_refl 120
            clear hzv
            generalize hW : (w8.alloc (.cells _ 28)).setCells w8.heap.size 0 _ = w8v
            have k13 : Blk w8v w8.heap.size 28 (mcells Im.zero) := by rw [← hW]; exact Blk.varM HZL.out
            have hg13 : w.heap.size ≤ w8.heap.size := c.size
            have hn13 : g3 ≠ w8.heap.size := by have := k3.lt; omega
            have bv : Below w8.heap.size w8 w8v := by rw [← hW]; exact below_varM
            clear hW
            replace k3 := k3.ext bv
            replace c := c.trans (bv.mono c.size)
            clear bv
            generalize w8.heap.size = g13 at *
            go_wp2
            go_loopw [14] (fun i wr => ∃ j : Nat, j ≤ 4 ∧ i = .int .i64 j ∧ Blk wr g13 28 (mcells (Im.backAt m j)) ∧ Blk wr g3 28 (mcells m) ∧ Below w.heap.size w wr) (fun i _ => 4 - (intOf i).toNat)
            case atStart => exact ⟨0, by omega, rfl, by rw [Im.backAt_zero]; exact k13, k3, c⟩
            case round =>
              obtain ⟨j, hj, rfl, l13, l3, lc⟩ := hrel
              clear k13 k3 c
              by_cases hlt : j < 4
              · have HBS := Lib.hid (Im.back_step HG.out HMY.out j hlt)
                have HBL := Lib.hid (Im.backAt_len HM.out j (by omega))
                have HCL := Lib.hid (Im.backAt_len HM.out (j + 1) (by omega))
                have hr := l3.range
                go_wp2_with (refine wpList_load_at 28 (.tmp 3) rfl rfl g3 0 rfl (mcells m) _ hr Try.underlying28 rfl (infoM _ HM.out) ?_)
                clear hr
                refine (encodeI_yes m j _ HG.out HMY.out hlt).mono ?_
                rintro e wa ⟨u1, rfl, hu1, ba⟩
                replace l13 := l13.ext ba
                replace l3 := l3.ext ba
                replace lc := lc.trans (ba.mono lc.size)
                clear ba
                have HU1 := Lib.hid hu1
                clear hu1
                have HDC := Lib.hid (fun W v h => decodeI_any (Im.backAt m j) (j : Int) W v (Im.imE m j) HBL.out h)
                rw [HBS.out.1, HBS.out.2] at HDC
                generalize Im.backAt m j = Bk at *
                generalize hBn : Im.backAt m (j + 1) = Bn at *
                have HBN := Lib.hid hBn
                clear hBn
                have hr := l13.range
                go_wp2_with (refine wpList_load_at 28 (.tmp 13) rfl rfl g13 0 rfl (mcells Bk) _ hr Try.underlying28 rfl (infoM _ HBL.out) ?_)
                clear hr
                refine (HDC.out _ _ HU1.out).mono ?_
                rintro e wb ⟨rfl, bb⟩
                replace l13 := l13.ext bb
                replace l3 := l3.ext bb
                replace lc := lc.trans (bb.mono lc.size)
                clear bb
                clear HDC HU1
                rw [show (((0 : Nat)) : Int) = 0 from rfl]
                unfold magg
                have hzv := zeroIM
                go_upto_region 22 with (with_reducible refine wpList_store_new rfl 28 (.tmp 17) (.tmp 120) rfl (mcells Bn) rfl rfl ?_ rfl (infoM _ HCL.out) mcells_one ?_)
                · rw [mcells_len, HCL.out]; exact Nat.le_refl 120
                clear hzv
                generalize hW : (wb.alloc (.cells _ 28)).setCells wb.heap.size 0 _ = wbv
                have l17 : Blk wbv wb.heap.size 28 (mcells Bn) := by rw [← hW]; exact Blk.varM HCL.out
                have bv : Below wb.heap.size wb wbv := by rw [← hW]; exact below_varM
                clear hW
                replace l13 := l13.ext bv
                replace l3 := l3.ext bv
                replace lc := lc.trans (bv.mono lc.size)
                clear bv
                generalize wb.heap.size = g17 at *
                have hr := l17.range
                have HLE := Lib.hid (show 0 + (mcells Bn).toArray.size ≤ (mcells Bk).length by rw [List.size_toArray, mcells_len, mcells_len, HCL.out, HBL.out]; decide)
                go_upto_region 19 with (first | refine wpList_load_at 28 (.tmp 17) rfl rfl g17 0 rfl (mcells Bn) _ hr Try.underlying28 rfl (infoM _ HCL.out) ?_ | refine wpList_store_mid rfl 28 (.tmp 13) (.tmp 128) rfl g13 0 (mcells Bn).toArray rfl rfl (l13.there 0 _ HLE.out) (infoM _ HCL.out) (all_oneCell_toArray mcells_one) ?_)
                have hz := l13.setCells (mcells Bn) 0 (by rw [mcells_len, mcells_len, HCL.out, HBL.out]; decide)
                rw [spl_all _ _ (by rw [mcells_len, mcells_len, HCL.out, HBL.out])] at hz
                have z3 := l3.grown (grown_setCells (g := g13) (mcells Bn) _ 0) (fun e => by injection e with e; exact hn13 e)
                have zc := below_setCells (o := 0) (vs := mcells Bn) lc hg13
                generalize World.setCells _ g13 0 _ = wd at *
                clear hr l13 l3 l17 lc
                go_wp2
                go_roundw
                case rel => exact ⟨j + 1, by omega, by go_num, by rw [HBN.out]; exact hz, z3, zc⟩
                case measure => simp [intOf]; omega
              · obtain rfl : j = 4 := by omega
                rw [Im.backAt_four HM.out] at l13
                rw [show (((4 : Nat)) : Int) = 4 from rfl]
                have r13 := l13.range
                have r3 := l3.range
                have c := lc
                clear lc
                go_wp2_with (first | refine wpList_load_at 28 (.tmp 13) rfl rfl g13 0 rfl (mcells m) _ r13 Try.underlying28 rfl (infoM _ HM.out) ?_ | refine wpList_load_at 28 (.tmp 3) rfl rfl g3 0 rfl (mcells m) _ r3 Try.underlying28 rfl (infoM _ HM.out) ?_ | refine wpList_binop .eql 28 28 (.tmp 129) (.tmp 130) rfl rfl rfl rfl eqGuardM (run_eql_im m m HM.out HM.out true (by simp) _).1 ?_)
                refine (awakeM_any _).mono ?_
                rintro e w9 ⟨rfl, b9⟩
                go_wp2
                go_ret
                exact ⟨rfl, c.trans (b9.mono c.size)⟩

/-- What the walk gives, for every argument and every world that holds the table. -/
theorem imapCodes_contract (H : Type) (enc : TypeId × Value → H) (W : World) (base : Nat) (args : Array Value) (ds gs : List (DataW H)) (before : List MemPlace)
    (hval : ∀ (j : Nat) t v, Try.f6.params[j]? = some t → args[j]? = some v → Value.okWide Try.prog W .any base t v)
    (hW : DataW.Whole enc Try.prog Try.f6.params.toList Rows.imapCodesSpec.vars false W args.toList ds gs before) :
    Calls Try.prog 6 args W fun e W' => ∃ v, e = .returned v ∧ Rows.imapCodesSpec.post enc Try.prog Try.f6 false true false false W args v W' := by
  have hW' := hW
  obtain ⟨p, q, hA0, hV, hps, hfz, hnd⟩ := hW
  have hA : DataW.TrodAll enc Try.prog W 0 (fun _ => true) true Try.f6.params.toList args.toList ds p := hA0
  rw [Try.params6] at hA hval
  obtain ⟨v0, vs0, d0, ds0, p0, q0, hargs, rfl, rfl, h0, r0⟩ := trodAll_cons hA
  obtain ⟨rfl, rfl, rfl⟩ := trodAll_nil r0
  obtain rfl : args = #[v0] := by cases args; simp_all
  obtain ⟨rfl, rfl⟩ := trodVars_none hV
  obtain ⟨M0, O0, n0, vb0, l0, rfl, gm0, go0, wk0, b0⟩ := codes_of_trod (hval 0 53 v0 rfl rfl) h0
  clear hA0
  refine (imapCodes_walk W M0 O0 n0 vb0 l0 gm0 go0 b0).mono fun e W' ⟨he, hb⟩ => ?_
  subst he
  exact ⟨_, rfl, law_post laidOut (by rw [Try.params6]; decide +kernel) rfl Try.underlying4 rfl rfl hW' hb⟩

set_option maxRecDepth 100000 in
theorem imapCodes_lifted (os : Os) (started : os.Started) (H : Type) (enc : TypeId × Value → H) :
    ReturnsInHanded {} Try.checked os 6 .any (Rows.imapCodesSpec.pre6 enc Try.prog Try.f6 Rows.imapCodesRow.domain false) (Rows.imapCodesSpec.post enc Try.prog Try.f6 false true false false) := by
  refine returnsInHanded_of_change (C := Try.checked) own started (by kernel_rfl) Try.func6
    (ChangeSpec.witness6 (enc := enc) (C := Try.checked) false ⟨#[], #[.agg #[.int .i64 0, .int .u32 0, .int .i64 0, .int .i64 0, .int .u32 0, .int .i64 0, .int .i64 0, .int .u32 0, .int .i64 0, .int .i64 0, .int .u32 0, .int .i64 0, .int .i64 0, .int .u32 0, .int .i64 0, .int .i64 0, .int .u32 0, .int .i64 0, .int .i64 0, .int .u32 0, .int .i64 0, .int .i64 0, .int .u32 0, .int .i64 0, .int .i64 0, .int .u32 0, .int .i64 0, .int .i64 0, .int .u32 0, .int .i64 0, .int .i64 0, .int .u32 0, .int .i64 0, .int .i64 0, .int .u32 0, .int .i64 0, .int .i64 0, .int .u32 0, .int .i64 0, .int .i64 0, .int .u32 0, .int .i64 0, .int .i64 0, .int .u32 0, .int .i64 0, .int .i64 0, .int .u32 0, .int .i64 0, .int .i64 0, .int .u32 0, .int .i64 0, .int .i64 0, .int .u32 0, .int .i64 0, .int .i64 0, .int .u32 0, .int .i64 0, .int .i64 0, .int .u32 0, .int .i64 0, .int .i64 0, .int .u32 0, .int .i64 0, .int .i64 0, .int .u32 0, .int .i64 0, .int .i64 0, .int .u32 0, .int .i64 0, .int .i64 0, .int .u32 0, .int .i64 0, .int .i64 0, .int .u32 0, .int .i64 0, .int .i64 0, .int .u32 0, .int .i64 0, .int .i64 0, .int .u32 0, .int .i64 0, .int .i64 0, .int .u32 0, .int .i64 0, .int .i64 0, .int .u32 0, .int .i64 0, .int .i64 0, .int .u32 0, .int .i64 0, .int .i64 0, .int .u32 0, .int .i64 0, .int .i64 0, .int .u32 0, .int .i64 0, .int .i64 0, .int .u32 0, .int .i64 0, .int .i64 0, .int .u32 0, .int .i64 0, .int .i64 0, .int .u32 0, .int .i64 0, .int .i64 0, .int .u32 0, .int .i64 0, .int .i64 0, .int .u32 0, .int .i64 0, .int .i64 0, .int .u32 0, .int .i64 0, .int .i64 0, .int .u32 0, .int .i64 0, .int .i64 0, .int .u32 0, .int .i64 0, .int .i64 0, .int .u32 0, .int .i64 0, .int .i64 0, .int .u32 0, .int .i64 0, .int .i64 0, .int .u32 0, .int .i64 0, .int .i64 0, .int .u32 0, .int .i64 0, .int .i64 0, .int .u32 0, .int .i64 0, .int .i64 0, .int .u32 0, .int .i64 0, .int .i64 0, .int .u32 0, .int .i64 0, .int .i64 0, .int .u32 0, .int .i64 0, .int .i64 0, .int .u32 0, .int .i64 0, .int .i64 0, .int .u32 0, .int .i64 0, .int .i64 0, .int .u32 0, .int .i64 0, .int .i64 0, .int .u32 0, .int .i64 0, .int .i64 0, .int .u32 0, .int .i64 0, .int .i64 0, .int .u32 0, .int .i64 0, .int .i64 0, .int .u32 0, .int .i64 0, .int .i64 0, .int .u32 0, .int .i64 0, .int .i64 0, .int .u32 0, .int .i64 0, .int .i64 0, .int .u32 0, .int .i64 0, .int .i64 0, .int .u32 0, .int .i64 0, .int .i64 0, .int .u32 0, .int .i64 0, .int .i64 0, .int .u32 0, .int .i64 0, .int .i64 0, .int .u32 0, .int .i64 0, .int .i64 0, .int .u32 0, .int .i64 0, .int .i64 0, .int .u32 0, .int .i64 0, .int .i64 0, .int .u32 0, .int .i64 0, .int .i64 0, .int .u32 0, .int .i64 0, .int .i64 0, .int .u32 0, .int .i64 0, .int .i64 0, .int .u32 0, .int .i64 0, .int .i64 0, .int .u32 0, .int .i64 0, .int .i64 0, .int .u32 0, .int .i64 0, .int .i64 0, .int .u32 0, .int .i64 0, .int .i64 0, .int .u32 0, .int .i64 0, .int .i64 0, .int .u32 0, .int .i64 0, .int .i64 0, .int .u32 0, .int .i64 0, .int .i64 0, .int .u32 0, .int .i64 0, .int .i64 0, .int .u32 0, .int .i64 0, .int .i64 0, .int .u32 0, .int .i64 0, .int .i64 0, .int .u32 0, .int .i64 0, .int .i64 0, .int .u32 0, .int .i64 0, .int .i64 0, .int .u32 0, .int .i64 0, .int .i64 0, .slice none 0 0]], []⟩ 8 (by kernel_rfl) (by kernel_rfl) (by kernel_rfl) (by kernel_rfl)) ?_
  intro W base args ds gs before hval hW _ _
  exact imapCodes_contract H enc W base args ds gs before hval hW

theorem imapCodes_holds : Rows.ImapCodesSaid :=
  OpenClaim.holds_of_wide 6 Try.f6 rfl rfl rfl rfl rfl rfl rfl ⟨rfl, rfl, rfl, rfl, rfl⟩ rfl rfl rfl rfl rfl (by kernel_rfl) Try.func6 (by kernel_rfl)
    (of_decide_eq_true (by kernel_rfl)) (by unfold Func.isWrapper; first | (rw [if_pos (by decide +kernel)]; kernel_rfl) | (rw [if_neg (by decide +kernel)]; exact ⟨rfl, rfl⟩))
    (fun os started H enc _ => imapCodes_lifted os started H enc)

end Go.Proofs.Ytpgibmffgliibaa
