/-
  The iterator over the pieces of a path (package path): its contract. By an AI agent.
-/
import Derived.Test.YtahcbgllnoopgaaPaB
import Derived.Test.YtahcbgllnoopgaaRound
import Derived.Lib.Bytealg
import Derived.Lib.Strings
namespace Go.Proofs.Ytahcbgllnoopgaa
open Go.RowKit Go.ChangeShapes Go.WideShapes Go.ChangeAt

/-! ### The library's text that is called (its walks as on the kit's shelf) -/
set_option maxHeartbeats 1000000 in
set_option maxRecDepth 100000 in
theorem indexByte_any (s : ByteArray) (c : Int) (w : World) :
    Calls Try.prog 52 #[.string s, .int .u8 c] w fun e w' => e = .returned (.int .i64 (Lib.indexByte s.data.toList c.toNat.toUInt8)) ∧ w' = w := by
  go_enter Try.func52, Try.ntmps52
  go_wp2
  rw [run_callFunc_extern Try.func56 (by kernel_rfl) (by kernel_rfl) (by kernel_rfl) (e := Extern.BytealgIndexByte.indexByte) (by kernel_rfl), Lib.run_indexByteString]
  simp only [Result.andThen]
  rw [Oper.upon_value]
  go_wp2
  go_ret
  exact ⟨rfl, rfl⟩
set_option maxHeartbeats 2000000 in
set_option maxRecDepth 100000 in
theorem index_one (s : ByteArray) (c : UInt8) (w : World) :
    Calls Try.prog 48 #[.string s, .string ⟨#[c]⟩] w fun e w' => e = .returned (.int .i64 (Lib.indexByte s.data.toList c)) ∧ w' = w := by
  go_enter Try.func48, Try.ntmps48
  go_wp2_with (go_at_call 52; refine (indexByte_any _ _ _).mono ?_; rintro e w' ⟨rfl, rfl⟩)
  · have h : ([c] == s.toList) = true := by assumption
    go_ret
    refine ⟨?_, rfl⟩
    have e : s.data.toList = [c] := by rw [← Lib.toList_data]; exact (beq_iff_eq.1 h).symm
    rw [e]
    simp [Lib.indexByte]
  · go_ret
    exact ⟨rfl, rfl⟩

/-- Where rest is at its first slash. -/
def cutAt (r : List UInt8) : List UInt8 × List UInt8 × Bool := if Lib.indexByte r 47 = -1 then (r, [], false) else (r.take (Lib.indexByte r 47).toNat, r.drop ((Lib.indexByte r 47).toNat + 1), true)
theorem cutAt_cut (r : List UInt8) : Pa.cut r = (cutAt r).1 :: (if (cutAt r).2.2 then Pa.cut (cutAt r).2.1 else []) := by
  unfold cutAt
  rcases Pa.cut_idx r with ⟨h1, h2⟩ | ⟨i, hi, h1, h2⟩
  · rw [if_pos h1, h2]; rfl
  · rw [h1, if_neg (by omega), h2]
    simp
theorem cutAt_len (r : List UInt8) : (cutAt r).1.length ≤ r.length ∧ (cutAt r).2.1.length ≤ r.length ∧ ((cutAt r).2.2 = true → (cutAt r).2.1.length < r.length) := by
  unfold cutAt
  rcases Pa.cut_idx r with ⟨h1, h2⟩ | ⟨i, hi, h1, h2⟩
  · rw [if_pos h1]
    simp
  · rw [h1, if_neg (by omega)]
    simp
    omega

set_option maxHeartbeats 2000000 in
set_option maxRecDepth 100000 in
theorem cutL_any (r : List UInt8) (w : World) (hr : r.length ≤ 1000000) :
    Calls Try.prog 44 #[.string ⟨r.toArray⟩, .string ⟨#[47]⟩] w fun e w' => e = .returned (.tuple #[.string ⟨(cutAt r).1.toArray⟩, .string ⟨(cutAt r).2.1.toArray⟩, .bool (cutAt r).2.2]) ∧ Below w.heap.size w w' := by
  have hsz := ba_size r
  have HI := Lib.hid (index_one ⟨r.toArray⟩ 47)
  have HC := Lib.hid (show cutAt r = if Lib.indexByte r 47 = -1 then (r, [], false) else (r.take (Lib.indexByte r 47).toNat, r.drop ((Lib.indexByte r 47).toNat + 1), true) from rfl)
  have hd : (⟨r.toArray⟩ : ByteArray).data.toList = r := rfl
  rw [hd] at HI
  clear hd
  rcases Pa.cut_idx r with ⟨h1, _⟩ | ⟨i, hi, h1, _⟩
  · rw [h1, if_pos rfl] at HC
    rw [h1] at HI
    clear h1
    go_enter Try.func44, Try.ntmps44
    go_wp2_with fail
    refine (HI.out w).mono ?_
    rintro e w1 ⟨rfl, rfl⟩
    go_wp2
    go_ret3
    exact ⟨by rw [HC.out]; rfl, Below.refl _ _⟩
  · rw [h1, if_neg (by omega), Int.toNat_natCast] at HC
    rw [h1] at HI
    have ht : ∀ W, (Instr.slice 9 (.string ⟨r.toArray⟩) none (some (.int .i64 (i : Int))) none).run Try.prog W = .ok (.string ⟨(r.take i).toArray⟩) W := fun W => by
      have := run_slice_string_h (P := Try.prog) W 9 (⟨r.toArray⟩ : ByteArray) Try.underlying9 .i64 (i : Int) (by omega) (by rw [ba_size]; omega)
      rw [this, Int.toNat_natCast, ba_take]
    have hdr : ∀ W, (Instr.slice 9 (.string ⟨r.toArray⟩) (some (.int .i64 ((i : Int) + 1))) none none).run Try.prog W = .ok (.string ⟨(r.drop (i + 1)).toArray⟩) W := fun W => by
      have := run_slice_string_l (P := Try.prog) W 9 (⟨r.toArray⟩ : ByteArray) Try.underlying9 .i64 ((i : Int) + 1) (by omega) (by rw [ba_size]; omega)
      rw [this, show ((i : Int) + 1).toNat = i + 1 by omega, ba_size, ba_extract, List.take_length]
    clear h1
    obtain ⟨S, hS⟩ : ∃ S, (⟨r.toArray⟩ : ByteArray) = S := ⟨_, rfl⟩
    rw [hS] at hsz HI ht hdr ⊢
    clear hS
    have hge : (0 : Int) ≤ (i : Int) := by omega
    go_enter Try.func44, Try.ntmps44
    go_wp2_with fail
    refine (HI.out w).mono ?_
    rintro e w1 ⟨rfl, rfl⟩
    go_upto_region 3 with fail
    have hG0 : Below w1.heap.size w1 w1.drew := (Below.refl _ _).drew
    refine wp_region_list 12 [(fun y_ _ => y_ = .string S),
      (fun y_ _ => y_ = .int .i64 (i : Int)),
      (fun y_ _ => y_ = .string ⟨(r.take i).toArray⟩),
      (fun y_ _ => y_ = .string S),
      (fun y_ _ => y_ = .int .i64 (i : Int)),
      (fun y_ _ => y_ = .string ⟨#[47]⟩),
      (fun y_ _ => y_ = .int .i64 1),
      (fun y_ _ => y_ = .int .i64 ((i : Int) + 1)),
      (fun y_ _ => y_ = .string ⟨(r.drop (i + 1)).toArray⟩),
      (fun y_ _ => y_ = .string ⟨(r.take i).toArray⟩),
      (fun y_ _ => y_ = .string ⟨(r.drop (i + 1)).toArray⟩),
      (fun y_ _ => y_ = .bool true)]
      (fun q => Below w1.heap.size w1 q) (by kernel_rfl) rfl (by kernel_rfl) ?_ ?_ ?_ ?_
    · exact hG0
    · exact ⟨stab_eq _, stab_eq _, stab_eq _, stab_eq _, stab_eq _, stab_eq _, stab_eq _, stab_eq _, stab_eq _, stab_eq _, stab_eq _, stab_eq _, trivial⟩
    · refine ⟨?_, ?_, ?_, ?_, ?_, ?_, ?_, ?_, ?_, ?_, ?_, ?_, trivial⟩
      · intro a x hG hd hs K hK
        have h0 : a.tmps.getD 0 undef = .string S := hs 0 (by kernel_rfl)
        clear hd hs
        refine wpOp_plain rfl rfl ?_
        go_simp
        exact hK _ _ rfl hG (Below.refl _ _)
      · intro a x hG hd hs K hK
        have h7 : a.tmps.getD 7 undef = .int .i64 (i : Int) := hs 7 (by kernel_rfl)
        clear hd hs
        refine wpOp_plain rfl rfl ?_
        go_simp
        exact hK _ _ rfl hG (Below.refl _ _)
      · intro a x hG hd hs K hK
        have h13 : a.tmps.getD 13 undef = .string S := hd 0 13 (by kernel_rfl)
        have h14 : a.tmps.getD 14 undef = .int .i64 (i : Int) := hd 1 14 (by kernel_rfl)
        clear hd hs
        refine wpOp_plain rfl rfl ?_
        have hr := ht x
        go_simp
        exact hK _ _ rfl hG (Below.refl _ _)
      · intro a x hG hd hs K hK
        have h0 : a.tmps.getD 0 undef = .string S := hs 0 (by kernel_rfl)
        clear hd hs
        refine wpOp_plain rfl rfl ?_
        go_simp
        exact hK _ _ rfl hG (Below.refl _ _)
      · intro a x hG hd hs K hK
        have h7 : a.tmps.getD 7 undef = .int .i64 (i : Int) := hs 7 (by kernel_rfl)
        clear hd hs
        refine wpOp_plain rfl rfl ?_
        go_simp
        exact hK _ _ rfl hG (Below.refl _ _)
      · intro a x hG hd hs K hK
        have h1 : a.tmps.getD 1 undef = .string ⟨#[47]⟩ := hs 1 (by kernel_rfl)
        clear hd hs
        refine wpOp_plain rfl rfl ?_
        go_simp
        exact hK _ _ rfl hG (Below.refl _ _)
      · intro a x hG hd hs K hK
        have h18 : a.tmps.getD 18 undef = .string ⟨#[47]⟩ := hd 5 18 (by kernel_rfl)
        clear hd hs
        refine wpOp_plain rfl rfl ?_
        have hr : ((⟨#[47]⟩ : ByteArray)).size = 1 := rfl
        go_simp
        exact hK _ _ rfl hG (Below.refl _ _)
      · intro a x hG hd hs K hK
        have h17 : a.tmps.getD 17 undef = .int .i64 (i : Int) := hd 4 17 (by kernel_rfl)
        have h19 : a.tmps.getD 19 undef = .int .i64 1 := hd 6 19 (by kernel_rfl)
        clear hd hs
        refine wpOp_plain rfl rfl ?_
        have hwr : IntKind.i64.wrap ((i : Int) + 1) = (i : Int) + 1 := IntWalk.i64_in _ (by omega)
        go_simp
        exact hK _ _ rfl hG (Below.refl _ _)
      · intro a x hG hd hs K hK
        have h16 : a.tmps.getD 16 undef = .string S := hd 3 16 (by kernel_rfl)
        have h20 : a.tmps.getD 20 undef = .int .i64 ((i : Int) + 1) := hd 7 20 (by kernel_rfl)
        clear hd hs
        refine wpOp_plain rfl rfl ?_
        have hr := hdr x
        go_simp
        exact hK _ _ rfl hG (Below.refl _ _)
      · intro a x hG hd hs K hK
        have h15 : a.tmps.getD 15 undef = .string ⟨(r.take i).toArray⟩ := hd 2 15 (by kernel_rfl)
        clear hd hs
        refine wpOp_plain rfl rfl ?_
        go_simp
        exact hK _ _ rfl hG (Below.refl _ _)
      · intro a x hG hd hs K hK
        have h21 : a.tmps.getD 21 undef = .string ⟨(r.drop (i + 1)).toArray⟩ := hd 8 21 (by kernel_rfl)
        clear hd hs
        refine wpOp_plain rfl rfl ?_
        go_simp
        exact hK _ _ rfl hG (Below.refl _ _)
      · intro a x hG hd hs K hK
        clear hd hs
        refine wpOp_plain rfl rfl ?_
        go_simp
        exact hK _ _ rfl hG (Below.refl _ _)
    · intro x hG
      rintro _ rfl _ rfl _ rfl _ rfl _ rfl _ rfl _ rfl _ rfl _ rfl _ rfl _ rfl _ rfl
      simp only [Act.put, List.setIfInBounds_toArray, List.set_cons_zero, List.set_cons_succ, REnd]
      try simp only [Exit.then]
      go_wp2
      go_ret3
      exact ⟨by rw [HC.out]; rfl, hG⟩
theorem cutS_any (r : List UInt8) (w : World) (hr : r.length ≤ 1000000) :
    Calls Try.prog 35 #[.string ⟨r.toArray⟩, .string ⟨#[47]⟩] w fun e w' => e = .returned (.tuple #[.string ⟨(cutAt r).1.toArray⟩, .string ⟨(cutAt r).2.1.toArray⟩, .bool (cutAt r).2.2]) ∧ Below w.heap.size w w' := by
  have HC := Lib.hid (cutL_any r)
  generalize cutAt r = q at *
  obtain ⟨x, y, z⟩ := q
  dsimp only at HC ⊢
  generalize (⟨r.toArray⟩ : ByteArray) = S at *
  generalize (⟨x.toArray⟩ : ByteArray) = X at *
  generalize (⟨y.toArray⟩ : ByteArray) = Y at *
  go_enter Try.func35, Try.ntmps35
  go_wp2_with fail
  refine (HC.out w hr).mono ?_
  rintro e w1 ⟨rfl, b1⟩
  go_wp2
  go_ret3
  exact ⟨rfl, b1⟩
/-- A slash ahead. -/
def preB (b : List UInt8) : Bool := decide (b.head? = some 47)
theorem pre_take (b : List UInt8) : preB b = ((b.take 1) == [47]) := by
  unfold preB
  cases b with
  | nil => rfl
  | cons c s =>
    show decide (some c = some 47) = ([c] == [47])
    rw [Bool.eq_iff_iff, decide_eq_true_iff, beq_iff_eq]
    simp
theorem hasPre_any (b : List UInt8) (w : World) :
    Calls Try.prog 19 #[.string ⟨b.toArray⟩, .string ⟨#[47]⟩] w fun e w' => e = .returned (.bool (preB b)) ∧ w' = w := by
  have hsz := ba_size b
  have hx : ((⟨b.toArray⟩ : ByteArray).extract 0 1).toList = b.take 1 := by rw [ba_take, ba_toList]
  have HP := Lib.hid (pre_take b)
  have HN : Hid (b = [] → preB b = false) := Lib.hid (fun h => by rw [h]; rfl)
  generalize (⟨b.toArray⟩ : ByteArray) = S at *
  by_cases h0 : 1 ≤ b.length
  · have h1 : 1 ≤ S.size := by omega
    have hb : ((S.extract 0 1).toList == [47]) = preB b := by rw [hx, HP.out]
    generalize preB b = pb at *
    clear hx HP h0 hsz
    go_enter Try.func19, Try.ntmps19
    go_wp2
    all_goals
      go_ret
      exact ⟨rfl, rfl⟩
  · have h1 : ¬ 1 ≤ S.size := by omega
    have HX := Lib.hid (HN.out (List.length_eq_zero_iff.1 (by omega)))
    go_enter Try.func19, Try.ntmps19
    go_wp2
    go_ret
    exact ⟨by rw [HX.out]; rfl, rfl⟩
theorem cutPre_any (b : List UInt8) (w : World) :
    Calls Try.prog 34 #[.string ⟨b.toArray⟩, .string ⟨#[47]⟩] w fun e w' => e = .returned (.tuple #[.string ⟨(if preB b then b.drop 1 else b).toArray⟩, .bool (preB b)]) ∧ w' = w := by
  have hsz := ba_size b
  have hx : ((⟨b.toArray⟩ : ByteArray).extract 0 1).toList = b.take 1 := by rw [ba_take, ba_toList]
  have HP := Lib.hid (pre_take b)
  have HN : Hid (b = [] → preB b = false) := Lib.hid (fun h => by rw [h]; rfl)
  have HS : Hid ((⟨b.toArray⟩ : ByteArray).extract 1 b.length = ⟨(b.drop 1).toArray⟩) := Lib.hid (by rw [ba_extract, List.take_length])
  obtain ⟨S, hS⟩ : ∃ S, (⟨b.toArray⟩ : ByteArray) = S := ⟨_, rfl⟩
  rw [hS] at hsz hx HS ⊢
  by_cases h0 : 1 ≤ b.length
  · have h1 : 1 ≤ S.size := by omega
    have hb : ((S.extract 0 1).toList == [47]) = preB b := by rw [hx, HP.out]
    cases hpb : preB b with
    | true =>
      rw [hpb] at hb
      rw [if_pos rfl]
      generalize (⟨(b.drop 1).toArray⟩ : ByteArray) = D at *
      clear hx HP h0 hpb hS HN
      go_enter Try.func34, Try.ntmps34
      go_wp2
      go_ret2
      exact ⟨by rw [← HS.out]; rfl, rfl⟩
    | false =>
      rw [hpb] at hb
      rw [if_neg (by decide), hS]
      clear hx HP h0 hpb hS HN
      go_enter Try.func34, Try.ntmps34
      go_wp2
      go_ret2
      exact ⟨rfl, rfl⟩
  · have h1 : ¬ 1 ≤ S.size := by omega
    rw [HN.out (List.length_eq_zero_iff.1 (by omega)), if_neg (by decide), hS]
    clear hx HP h0 hS HN
    go_enter Try.func34, Try.ntmps34
    go_wp2
    go_ret2
    exact ⟨rfl, rfl⟩

/-! ### The iterator -/
attribute [local go_sem] Oper.semAt_some
abbrev Piece := { x : Pa.N // x.length < 1099511627776 }
def encP (x : Piece) : Array Value := #[.string ⟨x.1.toArray⟩]
def cMeas (t3 t4 : Value) : Nat := match t4 with | .bool true => strLen t3 + 1 | _ => 0
theorem cMeas_t (r : List UInt8) : cMeas (.string ⟨r.toArray⟩) (.bool true) = r.length + 1 := by show r.toArray.size + 1 = _; simp
theorem cMeas_f (t : Value) : cMeas t (.bool false) = 0 := rfl
theorem comps_pre (b : List UInt8) : Pa.comps b = if preB b then Pa.cut (if preB b then b.drop 1 else b) else [] := by
  unfold Pa.comps preB
  by_cases h : b.head? = some 47 <;> simp [h]

set_option maxRecDepth 100000 in
set_option maxHeartbeats 2000000 in
theorem comps1_in (n : Nat) (hn : 1 ≤ n) (l Bx n₀ : Nat) (b : List UInt8) (hbl : b.length ≤ 1000000) (J Jx : List Piece → World → Prop)
    (hY : ∀ pre (x : Piece) W, J pre W → pre.length < (Pa.comps b).length → YieldAt Fence.wide (n - 1) Try.prog l (encP x) W fun e W' =>
      (e = .returned (.bool true) ∧ J (pre ++ [x]) W' ∧ Below n₀ W W') ∨ (e = .returned (.bool false) ∧ Jx (pre ++ [x]) W'))
    (W : World) (hn₀ : n₀ ≤ W.heap.size) (hJ : AbidesFrom W.heap.size J) (hBx : W.cell? ⟨Bx, 0, none⟩ = some (.string ⟨b.toArray⟩)) (h0 : J [] W) :
    CallsIn Fence.wide n Try.prog 33 #[.func (.yield l) #[] #[], .pointer (some ⟨Bx, 0, none⟩)] W fun e W' => (∃ v, e = .returned v) ∧
      ((∃ ys : List Piece, ys.map (·.1) = Pa.comps b ∧ J ys W') ∨ (∃ pre : List Piece, (∃ k, k ≤ (Pa.comps b).length ∧ pre.map (·.1) = (Pa.comps b).take k) ∧ Jx pre W')) := by
  have HCM := Lib.hid (comps_pre b)
  have HPRE := Lib.hid (cutPre_any b W)
  have hdl : (if preB b then b.drop 1 else b).length ≤ b.length := by split <;> simp
  generalize (if preB b then b.drop 1 else b) = r0 at *
  generalize preB b = m0 at *
  generalize (⟨b.toArray⟩ : ByteArray) = SB at *
  have hJ0 := h0
  refine callsIn_of_wp Try.func33 rfl trivial ?_ rfl
  simp only [Try.ntmps33, List.size_toArray, List.length_cons, List.length_nil, Nat.reduceAdd, Nat.reduceSub, Array.replicate_succ, Array.replicate_zero, List.push_toArray, List.append_toArray, List.nil_append, List.cons_append]
  gi_wp2_with fail
  refine ⟨trivial, ?_⟩
  refine (callsIn_wide.2 HPRE.out).mono ?_
  rintro e w1 ⟨rfl, rfl⟩
  gi_wp2
  gi_loopw [3, 4] (fun t3 t4 wr => ∃ (ys : List Piece) (r : List UInt8) (m : Bool), t3 = .string ⟨r.toArray⟩ ∧ t4 = .bool m ∧ r.length ≤ b.length ∧ Hid (ys.map (·.1) ++ (if m then Pa.cut r else []) = Pa.comps b) ∧ J ys wr ∧ Below n₀ w1 wr)
    (fun t3 t4 _ => cMeas t3 t4)
  case atStart => exact ⟨[], r0, m0, rfl, rfl, hdl, Lib.hid (by rw [HCM.out]; rfl), h0, Below.refl _ _⟩
  case round =>
    obtain ⟨ys, r, m, rfl, rfl, hrl, HYS, hJs, hnx⟩ := hrel
    clear h0 hJ0
    cases m with
    | true =>
      have HCUT := Lib.hid (cutS_any r)
      have HCC := Lib.hid (cutAt_cut r)
      have HCL := Lib.hid (cutAt_len r)
      have hml := cMeas_t r
      have HN0 := Lib.hid (Pa.cut_ne r)
      generalize cutAt r = q at *
      obtain ⟨pc, r2, m2⟩ := q
      dsimp only at HCUT HCC HCL
      have hpl : pc.length < 1099511627776 := by have := HCL.out.1; omega
      gi_wp2_with fail
      refine ⟨trivial, ?_⟩
      refine (callsIn_wide.2 (HCUT.out wr (by omega))).mono ?_
      rintro e W1 ⟨rfl, hb1⟩
      have hJ1 : J ys W1 := hJ _ _ _ none hJs (grown_of_below hb1 none) (fun r e => by cases e)
      have hYS2 : ys.map (·.1) ++ Pa.cut r = Pa.comps b := by have h := HYS.out; simpa using h
      rw [HCC.out] at hYS2
      obtain ⟨fn, tmps, assign, body, hy, hR⟩ := hY ys ⟨pc, hpl⟩ W1 hJ1 (by rw [← hYS2]; simp)
      unfold encP at hy
      dsimp only at hy
      have hn1 : n₀ ≤ wr.heap.size := Nat.le_trans hn₀ hnx.size
      have hk2 : (ys ++ [(⟨pc, hpl⟩ : Piece)]).map (·.1) ++ (if m2 then Pa.cut r2 else []) = Pa.comps b := by rw [← hYS2, List.map_append, List.append_assoc]; rfl
      have HK2 := Lib.hid hk2
      have HR := Lib.hid hR
      clear hk2 hYS2 hR
      have hr2 := HCL.out.2
      gi_wp2
      refine HR.out.mono ?_
      rintro e W3 (⟨rfl, hJ3, hk3⟩ | ⟨rfl, hJx3⟩)
      · gi_wp2
        go_roundw
        case rel => exact ⟨_, r2, m2, rfl, rfl, by omega, HK2, hJ3, (hnx.trans (hb1.mono hn1)).trans hk3⟩
        case measure =>
          rw [hml]
          cases m2 with
          | true => rw [cMeas_t]; have := hr2.2 rfl; omega
          | false => rw [cMeas_f]; omega
      · gi_wp2
        refine bodyPost_ret (results_none rfl _ _ _) rfl ?_
        refine ⟨⟨_, rfl⟩, .inr ⟨_, ⟨(ys ++ [(⟨pc, hpl⟩ : Piece)]).length, ?_, ?_⟩, hJx3⟩⟩
        · rw [← HK2.out]; simp
        · rw [← HK2.out, List.take_left' (by simp)]
    | false =>
      have hY : ys.map (·.1) = Pa.comps b := by have h := HYS.out; simpa using h
      gi_wp2
      go_end0
      exact ⟨⟨_, rfl⟩, .inl ⟨_, hY, hJs⟩⟩

set_option maxHeartbeats 1000000 in
/-- components(s): the path is boxed; the function value holds the box. -/
theorem comps_any (S : ByteArray) (w : World) :
    Calls Try.prog 22 #[.string S] w fun e w' => e = .returned (.func (.func 33) #[] #[.pointer (some ⟨w.heap.size, 0, none⟩)]) ∧ w' = w.alloc (.cells #[.string S] 9) := by
  go_enter Try.func22, Try.ntmps22
  go_wp2
  go_ret
  exact ⟨rfl, rfl⟩
theorem comps_stops (n : Nat) (hn : 1 ≤ n) (Bx n₀ : Nat) (b : List UInt8) (hbl : b.length ≤ 1000000) (w : World) (hBx : Bx < w.heap.size) (hn₀ : n₀ ≤ w.heap.size) (hc : w.cell? ⟨Bx, 0, none⟩ = some (.string ⟨b.toArray⟩)) :
    SeqStopsK Fence.wide n Try.prog 33 #[.pointer (some ⟨Bx, 0, none⟩)] encP (Below n₀) (fun ys => ys.map (·.1) = Pa.comps b) (fun pre => ∃ k, k ≤ (Pa.comps b).length ∧ pre.map (·.1) = (Pa.comps b).take k) (Pa.comps b).length w := fun l J Jx W hW hJ _ hY h0 =>
  comps1_in n hn l Bx n₀ b hbl J Jx hY W (Nat.le_trans hn₀ hW.size) hJ ((hW.cell (p := ⟨Bx, 0, none⟩) hBx).trans hc) h0
end Go.Proofs.Ytahcbgllnoopgaa
