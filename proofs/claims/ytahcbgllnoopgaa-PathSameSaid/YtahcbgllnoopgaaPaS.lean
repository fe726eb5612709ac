/-
  Same of the reference; Under of package path. By an AI agent.
-/
import Derived.Test.YtahcbgllnoopgaaPaB
namespace Go.Proofs.Ytahcbgllnoopgaa
open Go.RowKit Go.ChangeShapes Go.WideShapes Go.ChangeAt

/-- append in a plain region, behind a guard that is met. -/
theorem wpList_append_want {P : Program} {ops : Array Oper} {Q : Exit → Act → World → Prop} {rest : List Oper} {o : Oper} {a : Act} {w w' : World} {v u v' : Value} (hw : Region.wanted o (yielded ops a.tmps) = true) (s x : Operand) (t : TypeId) (ho : o.op = .call { callee := .builtin .append, args := #[s, x], argTypes := #[t, t] })
    (hs : a.eval s = v) (hx : a.eval x = u) (hrun : (Builtin.append_ #[t, t] o.type #[v, u]).run P w = .ok v' w') (h : wpList P ops Q rest (a.put o.dst v') w') : Hid (wpList P ops Q (o :: rest) a w) := by
  show wpList P ops Q (o :: rest) a w
  refine wpList_step fun K hK => ?_
  rw [if_pos hw]
  unfold Oper.wp execOp
  simp only [ho, resolve, invoke, builtin, Sem.run_bind, Sem.run_pure, Result.andThen_ok, List.map_toArray, List.map_cons, List.map_nil, hs, hx, hrun]
  exact hK _ _ h

theorem under_q (l m : List (List UInt8)) (h : l.length = m.length) : Pa.under (l ++ [[113]]) m = decide (l = m) := by
  unfold Pa.under
  rw [Bool.eq_iff_iff, decide_eq_true_iff, decide_eq_true_iff, ← h, List.take_left, List.length_append, List.length_singleton]
  exact ⟨fun h => h.2, fun h => ⟨by omega, h⟩⟩

set_option maxRecDepth 100000 in
set_option maxHeartbeats 4000000 in
theorem sameR_any (v u : Value) (l m : List (List UInt8)) (w : World) (hl : Strs w w.heap.size v l) (hm : Strs w w.heap.size u m) (hll : l.length ≤ 1000000) :
    Calls Try.prog 12 #[v, u] w fun e w' => e = .returned (.bool (decide (l = m))) ∧ Below w.heap.size w w' := by
  obtain ⟨A, c, rfl, hlc, hcm, _⟩ := hl.open_
  obtain ⟨A2, c2, rfl, hlc2, hcm2, _⟩ := hm.open_
  by_cases hle : l.length = m.length
  rotate_left
  · have hg : ((l.length : Int) == (m.length : Int)) = false := by rw [beq_eq_false_iff_ne]; omega
    have HD := Lib.hid (show decide (l = m) = false from decide_eq_false (fun h => hle (by rw [h])))
    clear hle hl hm
    go_enter Try.func12, Try.ntmps12
    go_wp2
    go_ret
    exact ⟨by rw [HD.out]; rfl, Below.refl _ _⟩
  have hg : ((l.length : Int) == (m.length : Int)) = true := by rw [beq_iff_eq]; omega
  have HLE := Lib.hid hle
  clear hle
  by_cases h0 : l.length = 0
  · obtain rfl := List.length_eq_zero_iff.1 h0
    obtain rfl := List.length_eq_zero_iff.1 HLE.out.symm
    clear hl hm
    go_enter Try.func12, Try.ntmps12
    go_wp2
    go_ret
    exact ⟨rfl, Below.refl _ _⟩
  have hg0 : ((l.length : Int) == 0) = false := by rw [beq_eq_false_iff_ne]; omega
  clear h0
  have HUQ := Lib.hid (under_q l m HLE.out)
  have HL := Lib.hid hl
  have HM := Lib.hid hm
  clear hl hm
  go_enter Try.func12, Try.ntmps12
  go_wp2_with (at_builtin; refine stop_ ?_)
  have hown0 := (Blk.new w 9 #[]).own (base := w.heap.size) (Nat.le_refl _) 0 0 1 rfl (Nat.le_refl _) (by simp [maxLen])
  rw [Nat.zero_mul, List.take_zero] at hown0
  have hB0 := (Below.refl w.heap.size w).alloc (Nat.le_refl _) (.cells #[] 9)
  obtain ⟨v1, wa, hruna, howna, hgra, _⟩ := run_append_rds (P := Try.prog) (ty := 23) Try.underlying23 infoStr rfl (by decide) hown0 (Rds.ext HL.out (Nat.le_refl _) hB0) (strs_one _) (by rw [maxLen_eq]; omega) (by omega) hB0.size
  have hBa := hB0.grown hgra hB0.size (fun j e => (hown0.lt j e).1)
  rw [List.nil_append, Nat.zero_add] at howna
  refine wpList_append_want rfl _ _ _ rfl rfl rfl hruna ?_
  obtain ⟨A3, c3, rfl⟩ := own_slice howna
  clear hruna hgra hown0 hB0
  go_wp2_with (at_builtin; refine stop_ ?_)
  have hown1 := howna.alloc (.cells #[.string ⟨#[113]⟩] 9)
  have hB1 := hBa.alloc hBa.size (.cells #[.string ⟨#[113]⟩] 9)
  have hr1 := (Blk.new wa 9 #[.string ⟨#[113]⟩]).rds 0 1 1 1 (by simp) (by omega) (by simp [maxLen])
  obtain ⟨v2, wb, hrunb, hownb, hgrb, _⟩ := run_append_rds (P := Try.prog) (ty := 23) Try.underlying23 infoStr rfl (by decide) hown1 hr1 (by simp [Value.oneCell']) (by rw [maxLen_eq]; omega) (by omega) hB1.size
  have hBb := hB1.grown hgrb hB1.size (fun j e => (hown1.lt j e).1)
  refine wpList_append_want rfl _ _ _ rfl rfl rfl hrunb ?_
  obtain ⟨A4, c4, rfl⟩ := own_slice hownb
  have hS : Strs wb wb.heap.size (.slice A4 (l.length + 1) c4) (l ++ [[113]]) := by
    have : strs l ++ [Value.string ⟨#[113]⟩] = strs (l ++ [[113]]) := by rw [strs_app]; rfl
    have h2 := hownb
    simp only [List.drop_zero] at h2
    rw [show List.take (1 * 1) [Value.string ⟨#[113]⟩] = [Value.string ⟨#[113]⟩] from rfl, this] at h2
    exact Strs.of_own h2
  have hM : Strs wb wb.heap.size (.slice A2 m.length c2) m := Rds.more (Rds.ext HM.out (Nat.le_refl _) hBb) hBb.size
  clear hrunb hgrb hown1 hB1 hr1 howna hBa
  go_wp2_with fail
  refine (underR_any _ _ _ m wb hS hM).mono ?_
  rintro e wc ⟨rfl, bc⟩
  rw [HUQ.out]
  have d := hBb.trans (bc.mono hBb.size)
  go_wp2
  go_ret
  exact ⟨rfl, d⟩

/-! ### slices.Equal, Under of package path -/
set_option maxRecDepth 100000 in
set_option maxHeartbeats 4000000 in
theorem equal_any (v u : Value) (l m : List (List UInt8)) (w : World) (hl : Strs w w.heap.size v l) (hm : Strs w w.heap.size u m) (hle : l.length = m.length) :
    Calls Try.prog 25 #[v, u] w fun e w' => e = .returned (.bool (decide (l = m))) ∧ Below w.heap.size w w' := by
  obtain ⟨A, c, rfl, hlc, hcm, hE⟩ := hl.open_
  obtain ⟨A2, c2, rfl, hlc2, hcm2, hE2⟩ := hm.open_
  have HE := Lib.hid hE
  have HE2 := Lib.hid hE2
  clear hE hE2 hl hm
  rw [← hle] at hlc2 ⊢
  have HLE := Lib.hid hle
  clear hle
  go_enter Try.func25, Try.ntmps25
  go_wp2
  go_loopw [5, 13] (fun _ i wr => ∃ k : Nat, k ≤ l.length ∧ i = .int .i64 k ∧ Hid (l.take k = m.take k) ∧ Below w.heap.size w wr) (fun _ i _ => l.length - (intOf i).toNat)
  case atStart => exact ⟨0, Nat.zero_le _, rfl, Lib.hid (by simp), Below.refl _ _⟩
  case round =>
    obtain ⟨k, hk, rfl, HT, hbr⟩ := hrel
    by_cases hlt : k < l.length
    · have hlt2 : k < m.length := by have := HLE.out; omega
      obtain ⟨b, off, rfl, hbB, h0⟩ := (HE.out.below hbr) k hlt
      obtain ⟨b2, off2, rfl, hbB2, i0⟩ := (HE2.out.below hbr) k hlt2
      have hbl : b < wr.heap.size := Nat.lt_of_lt_of_le hbB hbr.size
      have hbl2 : b2 < wr.heap.size := Nat.lt_of_lt_of_le hbB2 hbr.size
      have HY := Lib.hid (take_step' hlt hlt2 HT.out)
      have HN : Hid (l.getD k [] ≠ m.getD k [] → decide (l = m) = false) := Lib.hid (fun h => decide_eq_false (fun e => h (by rw [e])))
      clear hlt2
      generalize l.getD k [] = X at *
      generalize m.getD k [] = Y at *
      have hcmp := ba_beq X Y
      generalize (⟨X.toArray⟩ : ByteArray) = SX at *
      generalize (⟨Y.toArray⟩ : ByteArray) = SY at *
      obtain ⟨dq, hdq⟩ : ∃ dq, decide (X = Y) = dq := ⟨_, rfl⟩
      rw [hdq] at hcmp
      have hne : (SX.toList != SY.toList) = !dq := by rw [bne, hcmp]
      have HDQ := Lib.hid hdq
      clear hdq
      go_upto_region 6 with fail
      have hG0 : Below wr.heap.size wr wr.drew := (Below.refl _ _).drew
      refine wp_region_list 9 [(fun y_ _ => y_ = .slice (some ⟨b, off, none⟩) l.length c),
        (fun y_ _ => y_ = .int .i64 ((k : Nat) : Int)),
        (fun y_ _ => y_ = .pointer (some ⟨b, off + k, none⟩)),
        (fun y_ _ => y_ = .string SX),
        (fun y_ _ => y_ = .slice (some ⟨b2, off2, none⟩) l.length c2),
        (fun y_ _ => y_ = .int .i64 ((k : Nat) : Int)),
        (fun y_ _ => y_ = .pointer (some ⟨b2, off2 + k, none⟩)),
        (fun y_ _ => y_ = .string SY),
        (fun y_ _ => y_ = .bool (!dq))]
        (fun q => Below wr.heap.size wr q) (by kernel_rfl) rfl (by kernel_rfl) ?_ ?_ ?_ ?_
      · exact hG0
      · exact ⟨stab_eq _, stab_eq _, stab_eq _, stab_eq _, stab_eq _, stab_eq _, stab_eq _, stab_eq _, stab_eq _, trivial⟩
      · refine ⟨?_, ?_, ?_, ?_, ?_, ?_, ?_, ?_, ?_, trivial⟩
        · intro a x hG hd hs K hK
          have h0 : a.tmps.getD 0 undef = .slice (some ⟨b, off, none⟩) l.length c := hs 0 (by kernel_rfl)
          clear hd hs
          refine wpOp_plain rfl rfl ?_
          go_simp
          exact hK _ _ rfl hG (Below.refl _ _)
        · intro a x hG hd hs K hK
          have h5 : a.tmps.getD 5 undef = .int .i64 ((k : Nat) : Int) := hs 5 (by kernel_rfl)
          clear hd hs
          refine wpOp_plain rfl rfl ?_
          go_simp
          exact hK _ _ rfl hG (Below.refl _ _)
        · intro a x hG hd hs K hK
          have h16 : a.tmps.getD 16 undef = .slice (some ⟨b, off, none⟩) l.length c := hd 0 16 (by kernel_rfl)
          have h17 : a.tmps.getD 17 undef = .int .i64 ((k : Nat) : Int) := hd 1 17 (by kernel_rfl)
          clear hd hs
          refine wpOp_plain rfl rfl ?_
          go_simp
          exact hK _ _ rfl hG (Below.refl _ _)
        · intro a x hG hd hs K hK
          have h18 : a.tmps.getD 18 undef = .pointer (some ⟨b, off + k, none⟩) := hd 2 18 (by kernel_rfl)
          clear hd hs
          refine wpOp_plain rfl rfl ?_
          have hc := (hG.cell (p := ⟨b, off + k, none⟩) hbl).trans h0
          go_simp
          exact hK _ _ rfl hG (Below.refl _ _)
        · intro a x hG hd hs K hK
          have h1 : a.tmps.getD 1 undef = .slice (some ⟨b2, off2, none⟩) l.length c2 := hs 1 (by kernel_rfl)
          clear hd hs
          refine wpOp_plain rfl rfl ?_
          go_simp
          exact hK _ _ rfl hG (Below.refl _ _)
        · intro a x hG hd hs K hK
          have h5 : a.tmps.getD 5 undef = .int .i64 ((k : Nat) : Int) := hs 5 (by kernel_rfl)
          clear hd hs
          refine wpOp_plain rfl rfl ?_
          go_simp
          exact hK _ _ rfl hG (Below.refl _ _)
        · intro a x hG hd hs K hK
          have h20 : a.tmps.getD 20 undef = .slice (some ⟨b2, off2, none⟩) l.length c2 := hd 4 20 (by kernel_rfl)
          have h21 : a.tmps.getD 21 undef = .int .i64 ((k : Nat) : Int) := hd 5 21 (by kernel_rfl)
          clear hd hs
          refine wpOp_plain rfl rfl ?_
          go_simp
          exact hK _ _ rfl hG (Below.refl _ _)
        · intro a x hG hd hs K hK
          have h22 : a.tmps.getD 22 undef = .pointer (some ⟨b2, off2 + k, none⟩) := hd 6 22 (by kernel_rfl)
          clear hd hs
          refine wpOp_plain rfl rfl ?_
          have hc := (hG.cell (p := ⟨b2, off2 + k, none⟩) hbl2).trans i0
          go_simp
          exact hK _ _ rfl hG (Below.refl _ _)
        · intro a x hG hd hs K hK
          have h19 : a.tmps.getD 19 undef = .string SX := hd 3 19 (by kernel_rfl)
          have h23 : a.tmps.getD 23 undef = .string SY := hd 7 23 (by kernel_rfl)
          clear hd hs
          refine wpOp_plain rfl rfl ?_
          have h9 := hne
          go_simp
          exact hK _ _ rfl hG (Below.refl _ _)
      · intro x hG
        rintro _ rfl _ rfl _ rfl _ rfl _ rfl _ rfl _ rfl _ rfl _ rfl
        simp only [Act.put, List.setIfInBounds_toArray, List.set_cons_zero, List.set_cons_succ, REnd]
        try simp only [Exit.then]
        have b9 := hbr.trans (hG.mono hbr.size)
        cases dq with
        | true =>
          have H := Lib.hid (HY.out (of_decide_eq_true HDQ.out))
          go_wp2
          go_roundw
          case rel => exact ⟨k + 1, by omega, by go_num, H, b9⟩
          case measure => simp [intOf]; omega
        | false =>
          have H := Lib.hid (HN.out (of_decide_eq_false HDQ.out))
          go_wp2
          go_ret
          exact ⟨by rw [H.out]; rfl, b9⟩
    · obtain rfl : k = l.length := by omega
      have HD := Lib.hid (show decide (l = m) = true from decide_eq_true (by have h1 := HT.out; have h2 := HLE.out; rw [List.take_length] at h1; rw [h2, List.take_length] at h1; exact h1))
      go_wp2
      go_ret
      exact ⟨by rw [HD.out]; rfl, hbr⟩

set_option maxRecDepth 100000 in
set_option maxHeartbeats 4000000 in
theorem under_any (v u : Value) (l m : List (List UInt8)) (w : World) (hl : Strs w w.heap.size v l) (hm : Strs w w.heap.size u m) :
    Calls Try.prog 14 #[v, u] w fun e w' => e = .returned (.bool (Pa.under l m)) ∧ Below w.heap.size w w' := by
  obtain ⟨A, c, rfl, hlc, hcm, _⟩ := hl.open_
  obtain ⟨A2, c2, rfl, hlc2, hcm2, _⟩ := hm.open_
  by_cases hg : m.length < l.length
  · have hg' : (m.length : Int) < (l.length : Int) := by omega
    have hhd := fun W => run_headS A l.length c m.length (by omega) (m.length : Int) rfl W
    have hh := Strs.head hl (show m.length ≤ l.length by omega)
    have hlen : (l.take m.length).length = m.length := by rw [List.length_take]; omega
    have HU := Lib.hid (show Pa.under l m = decide (l.take m.length = m) by
      unfold Pa.under
      rw [Bool.eq_iff_iff, decide_eq_true_iff, decide_eq_true_iff]
      exact ⟨fun h => h.2, fun h => ⟨hg, h⟩⟩)
    have HL := Lib.hid hlen
    have HH := Lib.hid hh
    have HM := Lib.hid hm
    clear hlen hh hm hl
    go_enter Try.func14, Try.ntmps14
    go_wp2_with fail
    refine (equal_any _ _ (l.take m.length) m w HH.out HM.out HL.out).mono ?_
    rintro e w1 ⟨rfl, b1⟩
    rw [← HU.out]
    go_wp2
    go_ret
    exact ⟨rfl, b1⟩
  · have hg' : ¬ (m.length : Int) < (l.length : Int) := by omega
    have HU := Lib.hid (show Pa.under l m = false by unfold Pa.under; rw [decide_eq_false_iff_not]; exact fun h => hg h.1)
    clear hl hm
    go_enter Try.func14, Try.ntmps14
    go_wp2
    go_ret
    exact ⟨by rw [HU.out]; rfl, Below.refl _ _⟩
end Go.Proofs.Ytahcbgllnoopgaa
