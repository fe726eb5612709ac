/-
  The reference of paths: Cut, Parse, Parent. By an AI agent.
-/
import Derived.Test.YtahcbgllnoopgaaPaS
namespace Go.Proofs.Ytahcbgllnoopgaa
open Go.RowKit Go.ChangeShapes Go.WideShapes Go.ChangeAt

theorem run_idx {b : List UInt8} {S : ByteArray} (hS : (⟨b.toArray⟩ : ByteArray) = S) (j : Nat) (hj : j < b.length) (z : Int) (hz : z = j) (W : World) : (Instr.index 9 (.string S) (.int .i64 z)).run Try.prog W = .ok (.int .u8 ((b.getD j 0).toNat : Int)) W := by
  subst hz
  subst hS
  rw [run_index_string W _ _ _ _ Try.underlying9]
  have h1 : ((j : Int) < ((⟨b.toArray⟩ : ByteArray).size : Int)) := by rw [ba_size]; omega
  rw [dif_pos ⟨Int.natCast_nonneg _, h1⟩]
  have : b.getD j 0 = b[j] := by simp [List.getD, hj]
  rw [this]
  rfl
theorem run_sub {b : List UInt8} {S : ByteArray} (hS : (⟨b.toArray⟩ : ByteArray) = S) (i j : Nat) (hij : i ≤ j) (hj : j ≤ b.length) (x y : Int) (hx : x = i) (hy : y = j) (W : World) :
    (Instr.slice 9 (.string S) (some (.int .i64 x)) (some (.int .i64 y)) none).run Try.prog W = .ok (.string ⟨((b.drop i).take (j - i)).toArray⟩) W := by
  subst hx
  subst hy
  subst hS
  have := run_slice_string (P := Try.prog) W 9 (⟨b.toArray⟩ : ByteArray) .i64 .i64 (i : Int) (j : Int) Try.underlying9 (by omega) (by omega) (by rw [ba_size]; omega)
  rw [this, Int.toNat_natCast, Int.toNat_natCast, ba_extract, List.drop_take]
/-- A row of the call's own that is not empty: its block; and a store into it. -/
theorem own_open {w : World} {base n : Nat} {e : TypeId} {v : Value} {xs : List Value} (h : w.ownsRow base e 1 v n xs) (h0 : 0 < n) :
    ∃ g cap, v = .slice (some ⟨g, 0, none⟩) n cap ∧ base ≤ g ∧ g < w.heap.size ∧ (∀ i, i < n → w.cell? ⟨g, i, none⟩ = xs[i]?) ∧ (∀ i, w.frozen? ⟨g, i, none⟩ = false) ∧ n ≤ cap ∧ cap ≤ maxLen ∧
      ∀ i u, (w.setCell ⟨g, i, none⟩ u).ownsRow base e 1 v n (xs.set i u) := by
  obtain ⟨h1, h2⟩ := h
  rcases h2 with ⟨_, h2⟩ | ⟨g, cap, cur, rfl, hb, hh, hn, hm, hs, ht⟩
  · omega
  · have hk : Blk w g e cur.toList := hh
    refine ⟨g, cap, rfl, hb, hk.lt, fun i hi => ?_, fun i => hk.frozen i, hn, hm, fun i u => ?_⟩
    · rw [hk.cell i, ← ht, Nat.mul_one, List.getElem?_take, if_pos hi]
    · have := (hk.set_ i u).own hb n cap 1 (by rw [List.length_set, Array.length_toList, hs]) hn hm
      rw [Nat.mul_one, List.take_set] at this
      rw [← ht, Nat.mul_one]
      exact this

theorem strs_set (l : List (List UInt8)) (z y : List UInt8) : (strs (l ++ [z])).set l.length (.string ⟨y.toArray⟩) = strs (l ++ [y]) := by
  unfold strs
  simp

set_option maxRecDepth 100000 in
set_option maxHeartbeats 4000000 in
theorem cutR_any (b : List UInt8) (w : World) (hbl : b.length ≤ 1000000) :
    Calls Try.prog 23 #[.string ⟨b.toArray⟩] w fun e w' => ∃ u, e = .returned u ∧ Strs w' w'.heap.size u (Pa.cut b) ∧ Below w.heap.size w w' := by
  have hsz := ba_size b
  obtain ⟨S, hS⟩ : ∃ S, (⟨b.toArray⟩ : ByteArray) = S := ⟨_, rfl⟩
  rw [hS] at hsz ⊢
  have HS := Lib.hid hS
  clear hS
  have hown0 : (w.alloc (.cells #[.string ⟨#[]⟩] 9)).ownsRow w.heap.size 9 1 (.slice (some ⟨w.heap.size, 0, none⟩) 1 1) 1 (strs [[]]) := (Blk.new w 9 #[.string ⟨#[]⟩]).own (base := w.heap.size) (Nat.le_refl _) 1 1 1 rfl (Nat.le_refl _) (by simp [maxLen])
  have hB0 := (Below.refl w.heap.size w).alloc (Nat.le_refl _) (.cells #[.string ⟨#[]⟩] 9)
  go_enter Try.func23, Try.ntmps23
  go_wp2
  go_loopw [3, 4] (fun vl i wr => ∃ (k : Nat) (l0 : List (List UInt8)) (z : List UInt8), Hid (Pa.cut (b.take k) = l0 ++ [z]) ∧ k ≤ b.length ∧ l0.length ≤ k ∧ z.length ≤ k ∧ i = .int .i64 k ∧ wr.ownsRow w.heap.size 9 1 vl (l0.length + 1) (strs (l0 ++ [z])) ∧ Below w.heap.size w wr) (fun _ i _ => b.length - (intOf i).toNat)
  case atStart => exact ⟨0, [], [], Lib.hid rfl, Nat.zero_le _, Nat.le_refl _, Nat.le_refl _, rfl, hown0, hB0⟩
  case round =>
    obtain ⟨k, l0, z, HC, hk, hl0, hz, rfl, hown, hbr⟩ := hrel
    clear hown0 hB0
    obtain ⟨g, cap, rfl, hgb, hgl, hcel, hfr, hn, hm, hset⟩ := own_open hown (Nat.succ_pos _)
    by_cases hlt : k < b.length
    · have HTK := Lib.hid (show Pa.cut (b.take (k + 1)) = Pa.snoc (l0 ++ [z]) (b.getD k 0) by
        rw [List.take_succ_eq_append_getElem hlt, Pa.cut_snoc, HC.out]
        simp [List.getD, hlt])
      have hi0 := run_idx HS.out k hlt (k : Int) rfl
      have hsub := run_sub HS.out k (k + 1) (by omega) (by omega) (k : Int) ((k : Int) + 1) rfl (by omega)
      rw [show (b.drop k).take (k + 1 - k) = [b.getD k 0] by rw [show k + 1 - k = 1 by omega, List.drop_eq_getElem_cons hlt, List.take_succ_cons, List.take_zero]; simp [List.getD, hlt]] at hsub
      generalize b.getD k 0 = c at *
      by_cases h47 : c = 47
      · have H := Lib.hid (show Pa.cut (b.take (k + 1)) = (l0 ++ [z]) ++ [[]] by rw [HTK.out]; unfold Pa.snoc; rw [if_pos h47])
        subst h47
        have hcc : (((47 : UInt8).toNat : Int) == 47) = true := rfl
        clear hcel hfr hset
        go_wp2_with (at_builtin; refine stop_ ?_)
        refine wpList_append_elem rfl _ _ rfl rfl rfl (by simp) Try.underlying23 infoStr rfl (by decide) hown rfl (by simp [Value.oneCell']) (by rw [maxLen_eq]; omega) (by omega) hbr.size ?_
        rintro v2 wb hownb hgrb
        have hBb := hbr.grown hgrb hbr.size (fun j e => (hown.lt j e).1)
        obtain ⟨A2, c2, rfl⟩ := own_slice hownb
        clear hgrb hown hsub hi0
        go_wp2
        go_roundw
        case rel =>
          refine ⟨k + 1, l0 ++ [z], [], H, by omega, by rw [List.length_append, List.length_singleton]; omega, Nat.zero_le _, by go_num, ?_, hBb⟩
          rw [List.length_append, List.length_singleton, strs_app (l0 ++ [z])]
          exact hownb
        case measure => simp [intOf]; omega
      · have H := Lib.hid (show Pa.cut (b.take (k + 1)) = l0 ++ [z ++ [c]] by rw [HTK.out]; unfold Pa.snoc; rw [if_neg h47]; simp)
        have hcc : ((c.toNat : Int) == 47) = false := by
          rw [beq_eq_false_iff_ne]
          intro h
          apply h47
          apply UInt8.toNat_inj.1
          show c.toNat = 47
          omega
        have hcl : c.toNat < 256 := UInt8.toNat_lt _
        have hcz := hcel l0.length (by omega)
        rw [show (strs (l0 ++ [z]))[l0.length]? = some (.string ⟨z.toArray⟩) by unfold strs; simp] at hcz
        have hfz := hfr l0.length
        have HQ := Lib.hid (ba_append z [c])
        have HSS := Lib.hid (show (⟨[c].toArray⟩ : ByteArray).size = 1 from rfl)
        generalize (⟨[c].toArray⟩ : ByteArray) = SC at *
        clear h47 hcel hfr hset HTK
        go_upto_region 7 with fail
        have hG0 : Below wr.heap.size wr wr.drew := (Below.refl _ _).drew
        refine wp_region_then 14 13 [(fun y_ _ => y_ = .slice (some ⟨g, 0, none⟩) (l0.length + 1) cap),
          (fun y_ _ => y_ = .slice (some ⟨g, 0, none⟩) (l0.length + 1) cap),
          (fun y_ _ => y_ = .int .i64 ((l0.length + 1 : Nat) : Int)),
          (fun y_ _ => y_ = .int .i64 ((l0.length : Nat) : Int)),
          (fun y_ _ => y_ = .pointer (some ⟨g, l0.length, none⟩)),
          (fun y_ _ => y_ = .string ⟨z.toArray⟩),
          (fun y_ _ => y_ = .string S),
          (fun y_ _ => y_ = .int .i64 ((k : Nat) : Int)),
          (fun y_ _ => y_ = .int .i64 ((k : Nat) : Int)),
          (fun y_ _ => y_ = .int .i64 ((k : Int) + 1)),
          (fun y_ _ => y_ = .string SC),
          (fun y_ _ => y_ = .string ⟨(z ++ [c]).toArray⟩),
          (fun y_ _ => y_ = .pointer (some ⟨g, l0.length, none⟩))]
          (fun q => Below wr.heap.size wr q) (by kernel_rfl) rfl (by decide) (by kernel_rfl) (by kernel_rfl) ?_ ?_ ?_ ?_
        · exact hG0
        · exact ⟨stab_eq _, stab_eq _, stab_eq _, stab_eq _, stab_eq _, stab_eq _, stab_eq _, stab_eq _, stab_eq _, stab_eq _, stab_eq _, stab_eq _, stab_eq _, trivial⟩
        · refine ⟨?_, ?_, ?_, ?_, ?_, ?_, ?_, ?_, ?_, ?_, ?_, ?_, ?_, trivial⟩
          · intro a x hG hd hs K hK
            have h3 : a.tmps.getD 3 undef = .slice (some ⟨g, 0, none⟩) (l0.length + 1) cap := hs 3 (by kernel_rfl)
            clear hd hs
            refine wpOp_plain rfl rfl ?_
            go_simp
            exact hK _ _ rfl hG (Below.refl _ _)
          · intro a x hG hd hs K hK
            have h3 : a.tmps.getD 3 undef = .slice (some ⟨g, 0, none⟩) (l0.length + 1) cap := hs 3 (by kernel_rfl)
            clear hd hs
            refine wpOp_plain rfl rfl ?_
            go_simp
            exact hK _ _ rfl hG (Below.refl _ _)
          · intro a x hG hd hs K hK
            have h20 : a.tmps.getD 20 undef = .slice (some ⟨g, 0, none⟩) (l0.length + 1) cap := hd 1 20 (by kernel_rfl)
            clear hd hs
            refine wpOp_plain rfl rfl ?_
            go_simp
            exact hK _ _ rfl hG (Below.refl _ _)
          · intro a x hG hd hs K hK
            have h21 : a.tmps.getD 21 undef = .int .i64 ((l0.length + 1 : Nat) : Int) := hd 2 21 (by kernel_rfl)
            clear hd hs
            refine wpOp_plain rfl rfl ?_
            have hwr : IntKind.i64.wrap ((l0.length : Nat) : Int) = ((l0.length : Nat) : Int) := IntWalk.i64_in _ (by omega)
            go_simp
            exact hK _ _ rfl hG (Below.refl _ _)
          · intro a x hG hd hs K hK
            have h19 : a.tmps.getD 19 undef = .slice (some ⟨g, 0, none⟩) (l0.length + 1) cap := hd 0 19 (by kernel_rfl)
            have h22 : a.tmps.getD 22 undef = .int .i64 ((l0.length : Nat) : Int) := hd 3 22 (by kernel_rfl)
            clear hd hs
            refine wpOp_plain rfl rfl ?_
            have h9 : (l0.length : Int) < (l0.length : Int) + 1 := by omega
            go_simp
            exact hK _ _ rfl hG (Below.refl _ _)
          · intro a x hG hd hs K hK
            have h23 : a.tmps.getD 23 undef = .pointer (some ⟨g, l0.length, none⟩) := hd 4 23 (by kernel_rfl)
            clear hd hs
            refine wpOp_plain rfl rfl ?_
            have hc := (hG.cell (p := ⟨g, l0.length, none⟩) hgl).trans hcz
            go_simp
            exact hK _ _ rfl hG (Below.refl _ _)
          · intro a x hG hd hs K hK
            have h0 : a.tmps.getD 0 undef = .string S := hs 0 (by kernel_rfl)
            clear hd hs
            refine wpOp_plain rfl rfl ?_
            go_simp
            exact hK _ _ rfl hG (Below.refl _ _)
          · intro a x hG hd hs K hK
            have h4 : a.tmps.getD 4 undef = .int .i64 ((k : Nat) : Int) := hs 4 (by kernel_rfl)
            clear hd hs
            refine wpOp_plain rfl rfl ?_
            go_simp
            exact hK _ _ rfl hG (Below.refl _ _)
          · intro a x hG hd hs K hK
            have h4 : a.tmps.getD 4 undef = .int .i64 ((k : Nat) : Int) := hs 4 (by kernel_rfl)
            clear hd hs
            refine wpOp_plain rfl rfl ?_
            go_simp
            exact hK _ _ rfl hG (Below.refl _ _)
          · intro a x hG hd hs K hK
            have h27 : a.tmps.getD 27 undef = .int .i64 ((k : Nat) : Int) := hd 8 27 (by kernel_rfl)
            clear hd hs
            refine wpOp_plain rfl rfl ?_
            have hwr : IntKind.i64.wrap ((k : Int) + 1) = (k : Int) + 1 := IntWalk.i64_in _ (by omega)
            go_simp
            exact hK _ _ rfl hG (Below.refl _ _)
          · intro a x hG hd hs K hK
            have h25 : a.tmps.getD 25 undef = .string S := hd 6 25 (by kernel_rfl)
            have h26 : a.tmps.getD 26 undef = .int .i64 ((k : Nat) : Int) := hd 7 26 (by kernel_rfl)
            have h28 : a.tmps.getD 28 undef = .int .i64 ((k : Int) + 1) := hd 9 28 (by kernel_rfl)
            clear hd hs
            refine wpOp_plain rfl rfl ?_
            have hr := hsub x
            go_simp
            exact hK _ _ rfl hG (Below.refl _ _)
          · intro a x hG hd hs K hK
            have h24 : a.tmps.getD 24 undef = .string ⟨z.toArray⟩ := hd 5 24 (by kernel_rfl)
            have h29 : a.tmps.getD 29 undef = .string SC := hd 10 29 (by kernel_rfl)
            clear hd hs
            refine wpOp_plain rfl rfl ?_
            have hq := HQ.out
            have hno : ¬ 9223372036854775807 < z.length + SC.size := by rw [HSS.out]; omega
            go_simp
            exact hK _ _ rfl hG (Below.refl _ _)
          · intro a x hG hd hs K hK
            have h19 : a.tmps.getD 19 undef = .slice (some ⟨g, 0, none⟩) (l0.length + 1) cap := hd 0 19 (by kernel_rfl)
            have h22 : a.tmps.getD 22 undef = .int .i64 ((l0.length : Nat) : Int) := hd 3 22 (by kernel_rfl)
            clear hd hs
            refine wpOp_plain rfl rfl ?_
            have h9 : (l0.length : Int) < (l0.length : Int) + 1 := by omega
            go_simp
            exact hK _ _ rfl hG (Below.refl _ _)
        · intro x hG
          rintro _ rfl _ rfl _ rfl _ rfl _ rfl _ rfl _ rfl _ rfl _ rfl _ rfl _ rfl _ rfl _ rfl
          simp only [Act.put, List.setIfInBounds_toArray, List.set_cons_zero, List.set_cons_succ, List.take_zero, REnd]
          rw [show List.range' 13 (14 - 13) = [13] from rfl, wpOps_cons]
          have cS := (hG.cell (p := ⟨g, l0.length, none⟩) hgl).trans hcz
          have fS : x.frozen? ⟨g, l0.length, none⟩ = false := by rw [World.frozen?_of_block (a := ⟨g, l0.length, none⟩) (hG.block g hgl)]; exact hfz
          have hownx := own_ext hown hG
          obtain ⟨_, _, he9, _, _, _, _, _, _, hsetx⟩ := own_open hownx (Nat.succ_pos _)
          injection he9 with e1 e2 e3
          injection e1 with e1
          injection e1 with e1
          subst e1 e3
          have hownz := hsetx l0.length (.string ⟨(z ++ [c]).toArray⟩)
          rw [strs_set] at hownz
          have hbl2 := (hbr.trans (hG.mono hbr.size)).setCell (p := ⟨g, l0.length, none⟩) hgb (.string ⟨(z ++ [c]).toArray⟩)
          have HOW := Lib.hid hownz
          clear hownz hsetx hownx hG hG0 hsub hi0 hown hcz
          refine wpOp_plain rfl rfl ?_
          go_simp
          unfold wpOps
          try simp only [Exit.then]
          clear cS fS
          generalize x.setCell ⟨g, l0.length, none⟩ (.string ⟨(z ++ [c]).toArray⟩) = wz at *
          go_wp2
          go_roundw
          case rel => exact ⟨k + 1, l0, z ++ [c], H, by omega, by omega, by rw [List.length_append, List.length_singleton]; omega, by go_num, HOW.out, hbl2⟩
          case measure => simp [intOf]; omega
    · obtain rfl : k = b.length := by omega
      have hS2 := Strs.of_own hown
      have HC2 := HC.out
      rw [List.take_length] at HC2
      have HF := Lib.hid HC2
      clear hcel hfr hset HC2 hown
      go_wp2
      go_ret
      exact ⟨_, rfl, by rw [HF.out]; exact hS2, hbr⟩

theorem ps_next {L : List Pa.N} {k : Nat} {ns : List Pa.N} (hk : k < L.length) (h : Pa.ps (L.take k) = (ns, 0)) : Pa.ps (L.take (k + 1)) = Pa.step (ns, 0) (L.getD k []) := by
  rw [List.take_succ_eq_append_getElem hk, Pa.ps_snoc, h]
  simp [List.getD, hk]
theorem ps_stop {L : List Pa.N} {k : Nat} {n : Nat} (h : Pa.ps (L.take k) = ([], n)) (hn : n ≠ 0) : Pa.ps L = ([], n) := by
  rw [Pa.ps_take_bad L k (by rw [h]; exact hn), h]
theorem step_skip (ns : List Pa.N) (c : Pa.N) (h : c = [] ∨ c = [46]) : Pa.step (ns, 0) c = (ns, 0) := by unfold Pa.step; rw [if_neg (by simp), if_pos h]
theorem step_up (ns : List Pa.N) : Pa.step (ns, 0) [46, 46] = (ns.dropLast, 0) := by unfold Pa.step; rw [if_neg (by simp), if_neg (by simp), if_pos rfl]
theorem step_name (ns : List Pa.N) (c : Pa.N) (h0 : c ≠ []) (h1 : c ≠ [46]) (h2 : c ≠ [46, 46]) : Pa.step (ns, 0) c = if Tl.isN c then (if 8 ≤ ns.length then ([], 16) else (ns ++ [c], 0)) else ([], 11) := by
  unfold Pa.step
  rw [if_neg (by simp), if_neg (by simp [h0, h1]), if_neg h2]

set_option maxRecDepth 100000 in
set_option maxHeartbeats 4000000 in
theorem parseR_any (b : List UInt8) (w : World) (hbl : b.length ≤ 1000000) :
    Calls Try.prog 9 #[.string ⟨b.toArray⟩] w fun e w' => ∃ u, e = .returned (.tuple #[u, .int .i64 ((Pa.parse b).2 : Nat)]) ∧ Strs w' w'.heap.size u (Pa.parse b).1 ∧ Below w.heap.size w w' := by
  have hsz := ba_size b
  have HCU := Lib.hid (cutR_any b)
  have HP := Lib.hid (show Pa.parse b = if b.head? = some 47 then (if 200 < b.length then ([], 16) else Pa.ps (Pa.cut b)) else ([], 11) from rfl)
  obtain ⟨S, hS⟩ : ∃ S, (⟨b.toArray⟩ : ByteArray) = S := ⟨_, rfl⟩
  rw [hS] at hsz HCU ⊢
  have HS := Lib.hid hS
  clear hS
  go_enter Try.func9, Try.ntmps9
  by_cases h0 : b.length = 0
  · obtain rfl := List.length_eq_zero_iff.1 h0
    have hz : ((([] : List UInt8).length : Int) == 0) = true := rfl
    clear h0
    go_wp2
    go_ret2
    exact ⟨.slice none 0 0, by rw [HP.out]; rfl, Strs.nil_ _ _, Below.refl _ _⟩
  have hz : ((b.length : Int) == 0) = false := by rw [beq_eq_false_iff_ne]; omega
  have hi0 := run_idx HS.out 0 (by omega) (0 : Int) rfl
  by_cases h47 : b.head? = some 47
  rotate_left
  · have hne : (((b.getD 0 0).toNat : Int) != 47) = true := by
      rw [bne_iff_ne]
      intro h
      apply h47
      cases b with
      | nil => exact absurd rfl h0
      | cons c s =>
        show some c = some 47
        congr 1
        apply UInt8.toNat_inj.1
        show c.toNat = 47
        have : ((c.toNat : Nat) : Int) = 47 := h
        omega
    have HX := Lib.hid (show Pa.parse b = ([], 11) by rw [HP.out, if_neg h47])
    generalize b.getD 0 0 = c at *
    clear h47 HP h0
    go_wp2
    go_ret2
    exact ⟨.slice none 0 0, by rw [HX.out]; rfl, by rw [HX.out]; exact Strs.nil_ _ _, Below.refl _ _⟩
  have hne : (((b.getD 0 0).toNat : Int) != 47) = false := by
    cases b with
    | nil => exact absurd rfl h0
    | cons c s =>
      injection h47 with h47
      subst h47
      rfl
  rw [if_pos h47] at HP
  generalize b.getD 0 0 = c at *
  clear h47 h0
  by_cases h200 : 200 < b.length
  · have h2 : (200 : Int) < (b.length : Int) := by omega
    have HX := Lib.hid (show Pa.parse b = ([], 16) by rw [HP.out, if_pos h200])
    clear HP h200
    go_wp2
    go_ret2
    exact ⟨.slice none 0 0, by rw [HX.out]; rfl, by rw [HX.out]; exact Strs.nil_ _ _, Below.refl _ _⟩
  have h2 : ¬ (200 : Int) < (b.length : Int) := by omega
  rw [if_neg h200] at HP
  clear h200
  have HLL := Lib.hid (Pa.cut_len b)
  have HLE := Lib.hid (Pa.cut_each b)
  go_wp2_with fail
  refine (HCU.out w hbl).mono ?_
  rintro e w1 ⟨u1, rfl, hL, b1⟩
  obtain ⟨A, c4, rfl, hlc, hcm, hE⟩ := hL.open_
  have HE := Lib.hid hE
  clear hE hL
  generalize Pa.cut b = L at *
  go_wp2
  go_loopw [5, 6] (fun vo i wr => ∃ (k : Nat) (ns : List Pa.N), k ≤ L.length ∧ i = .int .i64 k ∧ Hid (Pa.ps (L.take k) = (ns, 0)) ∧ ns.length ≤ 8 ∧ wr.ownsRow w1.heap.size 9 1 vo ns.length (strs ns) ∧ Below w1.heap.size w1 wr) (fun _ i _ => L.length - (intOf i).toNat)
  case atStart => exact ⟨0, [], Nat.zero_le _, rfl, Lib.hid rfl, Nat.zero_le _, World.ownsRow_nil _ _ _ _, Below.refl _ _⟩
  case round =>
    obtain ⟨k, ns, hk, rfl, HPS, hn8, hown, hbr⟩ := hrel
    obtain ⟨A5, c5, rfl⟩ := own_slice hown
    by_cases hlt : k < L.length
    · obtain ⟨ba, off, rfl, hbB, h0⟩ := (HE.out.below hbr) k hlt
      have HNX := Lib.hid (ps_next hlt HPS.out)
      have hcl : (L.getD k []).length < 1099511627776 := by
        have := HLE.out (L.getD k []) (by simp only [List.getD, List.getElem?_eq_getElem hlt, Option.getD_some]; exact List.getElem_mem hlt)
        omega
      have hbal : ba < wr.heap.size := Nat.lt_of_lt_of_le hbB hbr.size
      generalize L.getD k [] = pc at *
      have q0 := ba_eq pc []
      have q1 := ba_eq pc [46]
      have q2 := ba_eq pc [46, 46]
      have HISR := Lib.hid (isR_any pc)
      obtain ⟨SC, hSC⟩ : ∃ SC, (⟨pc.toArray⟩ : ByteArray) = SC := ⟨_, rfl⟩
      rw [hSC] at h0 q0 q1 q2 HISR
      have HSC := Lib.hid hSC
      clear hSC
      by_cases e0 : pc = []
      · rw [beq_iff_eq.2 e0] at q0
        rw [step_skip ns pc (.inl e0)] at HNX
        clear e0 q1 q2
        go_wp2
        go_roundw
        case rel => exact ⟨k + 1, ns, by omega, by go_num, HNX, hn8, hown, hbr⟩
        case measure => simp [intOf]; omega
      rw [beq_eq_false_iff_ne.2 e0] at q0
      by_cases e1 : pc = [46]
      · rw [beq_iff_eq.2 e1] at q1
        rw [step_skip ns pc (.inr e1)] at HNX
        clear e0 e1 q2
        go_wp2
        go_roundw
        case rel => exact ⟨k + 1, ns, by omega, by go_num, HNX, hn8, hown, hbr⟩
        case measure => simp [intOf]; omega
      rw [beq_eq_false_iff_ne.2 e1] at q1
      by_cases e2 : pc = [46, 46]
      · rw [beq_iff_eq.2 e2] at q2
        rw [e2, step_up] at HNX
        clear e0 e1 e2 HISR HSC
        by_cases en : 0 < ns.length
        · have hhd := fun W => run_headS A5 ns.length c5 (ns.length - 1) (by have := hown; obtain ⟨_, _, h, _, _, _, _, h7, _⟩ := own_open this en; injection h with _ _ h; omega) ((ns.length : Int) - 1) (by omega) W
          have hsh := own_short hown (k := ns.length - 1) (by omega) en
          rw [strs_take, ← List.dropLast_eq_take] at hsh
          have hdl : ns.dropLast.length = ns.length - 1 := List.length_dropLast
          rw [← hdl] at hhd hsh
          have HDL := Lib.hid hdl
          clear hdl hown
          generalize ns.dropLast = ms at *
          go_wp2
          go_roundw
          case rel => exact ⟨k + 1, ms, by omega, by go_num, HNX, by rw [HDL.out]; omega, hsh, hbr⟩
          case measure => simp [intOf]; omega
        · obtain rfl : ns = [] := List.length_eq_zero_iff.1 (by omega)
          clear en
          go_wp2
          go_roundw
          case rel => exact ⟨k + 1, [], by omega, by go_num, HNX, by simp, hown, hbr⟩
          case measure => simp [intOf]; omega
      rw [beq_eq_false_iff_ne.2 e2] at q2
      rw [step_name ns pc e0 e1 e2] at HNX
      clear e0 e1 e2
      go_wp2_with fail
      refine (HISR.out wr hcl).mono ?_
      rintro e w2 ⟨rfl, b2⟩
      have h0' := (b2.cell (p := ⟨ba, off + k, none⟩) hbal).trans h0
      have d2 := hbr.trans (b2.mono hbr.size)
      have hown2 := own_ext hown b2
      clear h0 hown HISR
      cases hn : Tl.isN pc with
      | false =>
        rw [hn, if_neg (by decide)] at HNX
        have HX := Lib.hid (show Pa.parse b = ([], 11) by rw [HP.out]; exact ps_stop HNX.out (by decide))
        clear hn HNX
        go_wp2
        go_ret2
        exact ⟨.slice none 0 0, by rw [HX.out]; rfl, by rw [HX.out]; exact Strs.nil_ _ _, b1.trans (d2.mono b1.size)⟩
      | true =>
        rw [hn, if_pos rfl] at HNX
        clear hn
        by_cases h8 : 8 ≤ ns.length
        · have h8' : (8 : Int) ≤ (ns.length : Int) := by omega
          rw [if_pos h8] at HNX
          have HX := Lib.hid (show Pa.parse b = ([], 16) by rw [HP.out]; exact ps_stop HNX.out (by decide))
          clear h8 HNX
          go_wp2
          go_ret2
          exact ⟨.slice none 0 0, by rw [HX.out]; rfl, by rw [HX.out]; exact Strs.nil_ _ _, b1.trans (d2.mono b1.size)⟩
        · have h8' : ¬ (8 : Int) ≤ (ns.length : Int) := by omega
          rw [if_neg h8] at HNX
          have hn7 : ns.length < 8 := by omega
          clear h8
          go_wp2_with (at_builtin; refine stop_ ?_)
          refine wpList_append_elem rfl _ _ rfl rfl rfl (by simp) Try.underlying23 infoStr rfl (by decide) hown2 rfl (by simp [Value.oneCell']) (by rw [maxLen_eq]; omega) (by omega) d2.size ?_
          rintro v2 wb hownb hgrb
          have hBb := d2.grown hgrb d2.size (fun j e => (hown2.lt j e).1)
          obtain ⟨A6, c6, rfl⟩ := own_slice hownb
          clear hgrb hown2
          go_wp2
          go_roundw
          case rel =>
            refine ⟨k + 1, ns ++ [pc], by omega, by go_num, HNX, by rw [List.length_append, List.length_singleton]; omega, ?_, hBb⟩
            rw [List.length_append, List.length_singleton, strs_app]
            rw [← HSC.out] at hownb
            exact hownb
          case measure => simp [intOf]; omega
    · obtain rfl : k = L.length := by omega
      have HX : Hid (Pa.parse b = (ns, 0)) := Lib.hid (by rw [HP.out, ← HPS.out, List.take_length])
      have HSN := Lib.hid (Strs.of_own hown)
      clear hown
      go_wp2
      go_ret2
      exact ⟨.slice A5 ns.length c5, by rw [HX.out]; rfl, by rw [HX.out]; exact HSN.out, b1.trans (hbr.mono b1.size)⟩

theorem parent_no (b : List UInt8) (h : (Pa.parse b).2 ≠ 0) : Pa.parent b = ([], [], (Pa.parse b).2) := by unfold Pa.parent; rw [if_pos h]

set_option maxRecDepth 100000 in
set_option maxHeartbeats 4000000 in
theorem parentR_any (b : List UInt8) (w : World) (hbl : b.length ≤ 1000000) :
    Calls Try.prog 11 #[.string ⟨b.toArray⟩] w fun e w' => ∃ u, e = .returned (.tuple #[u, .string ⟨(Pa.parent b).2.1.toArray⟩, .int .i64 ((Pa.parent b).2.2 : Nat)]) ∧ Strs w' w'.heap.size u (Pa.parent b).1 ∧ Below w.heap.size w w' := by
  have HPR := Lib.hid (parseR_any b)
  have HNO := Lib.hid (parent_no b)
  have HP := Lib.hid (show (Pa.parse b).2 = 0 → Pa.parent b = if (Pa.parse b).1 = [] then ([], [], 1) else ((Pa.parse b).1.dropLast, (Pa.parse b).1.getLastD [], 0) from fun h => by unfold Pa.parent; rw [if_neg (by rw [h]; simp)])
  have hg8 := (Pa.good_parse b).1
  generalize Pa.parse b = PR at *
  obtain ⟨ns, er⟩ := PR
  dsimp only at HPR HNO HP hg8
  generalize (⟨b.toArray⟩ : ByteArray) = S at *
  go_enter Try.func11, Try.ntmps11
  go_wp2_with fail
  refine (HPR.out w hbl).mono ?_
  rintro e w1 ⟨u1, rfl, hs1, b1⟩
  obtain ⟨A, c, rfl, hlc, hcm, hE⟩ := hs1.open_
  by_cases he : er = 0
  rotate_left
  · have hne : ((er : Int) != 0) = true := by rw [bne_iff_ne]; omega
    have HX := Lib.hid (HNO.out he)
    clear he hE hs1
    go_wp2
    go_ret3
    exact ⟨.slice none 0 0, by rw [HX.out]; rfl, by rw [HX.out]; exact Strs.nil_ _ _, b1⟩
  subst he
  by_cases hn : ns = []
  · subst hn
    have HX := Lib.hid (HP.out rfl)
    rw [if_pos rfl] at HX
    clear hE hs1
    go_wp2
    go_ret3
    exact ⟨.slice none 0 0, by rw [HX.out]; rfl, by rw [HX.out]; exact Strs.nil_ _ _, b1⟩
  have HX := Lib.hid (HP.out rfl)
  rw [if_neg hn] at HX
  have hpos : 0 < ns.length := List.length_pos_iff.2 hn
  have hz : ((ns.length : Int) == 0) = false := by rw [beq_eq_false_iff_ne]; omega
  obtain ⟨bb, off, rfl, hbB, h0⟩ := hE (ns.length - 1) (by omega)
  have hgl : ns.getD (ns.length - 1) [] = ns.getLastD [] := by
    rw [List.getLastD_eq_getLast?, List.getLast?_eq_getElem?, List.getD_eq_getElem?_getD]
  rw [hgl] at h0
  have hhd := fun W => run_headS (some ⟨bb, off, none⟩) ns.length c (ns.length - 1) (by omega) ((ns.length - 1 : Nat) : Int) rfl W
  have hh := Strs.head hs1 (show ns.length - 1 ≤ ns.length by omega)
  rw [← List.dropLast_eq_take] at hh
  generalize ns.getLastD [] = la at *
  have HH := Lib.hid hh
  have HDL := Lib.hid (show ns.dropLast.length = ns.length - 1 from List.length_dropLast)
  generalize ns.dropLast = ms at *
  obtain ⟨n1, hn1⟩ : ∃ n1, ns.length = n1 + 1 := ⟨ns.length - 1, by omega⟩
  rw [hn1, Nat.add_sub_cancel] at HH hhd h0
  have hz2 : (((n1 + 1 : Nat) : Int) == 0) = false := by rw [beq_eq_false_iff_ne]; omega
  rw [hn1] at hg8 ⊢
  clear hn1 hh hgl hn hz hpos hE hs1 hlc
  have hbw : bb < w1.heap.size := hbB
  go_upto_region 6 with fail
  have hG0 : Below w1.heap.size w1 w1.drew := (Below.refl _ _).drew
  refine wp_region_list 14 [(fun y_ _ => y_ = .slice (some ⟨bb, off, none⟩) (n1 + 1) c),
    (fun y_ _ => y_ = .slice (some ⟨bb, off, none⟩) (n1 + 1) c),
    (fun y_ _ => y_ = .int .i64 ((n1 + 1 : Nat) : Int)),
    (fun y_ _ => y_ = .int .i64 ((n1 : Nat) : Int)),
    (fun y_ _ => y_ = .slice (some ⟨bb, off, none⟩) n1 c),
    (fun y_ _ => y_ = .slice (some ⟨bb, off, none⟩) (n1 + 1) c),
    (fun y_ _ => y_ = .slice (some ⟨bb, off, none⟩) (n1 + 1) c),
    (fun y_ _ => y_ = .int .i64 ((n1 + 1 : Nat) : Int)),
    (fun y_ _ => y_ = .int .i64 ((n1 : Nat) : Int)),
    (fun y_ _ => y_ = .pointer (some ⟨bb, off + n1, none⟩)),
    (fun y_ _ => y_ = .string ⟨la.toArray⟩),
    (fun y_ _ => y_ = .slice (some ⟨bb, off, none⟩) n1 c),
    (fun y_ _ => y_ = .string ⟨la.toArray⟩),
    (fun y_ _ => y_ = .int .i64 0)]
    (fun q => Below w1.heap.size w1 q) (by kernel_rfl) rfl (by kernel_rfl) ?_ ?_ ?_ ?_
  · exact hG0
  · exact ⟨stab_eq _, stab_eq _, stab_eq _, stab_eq _, stab_eq _, stab_eq _, stab_eq _, stab_eq _, stab_eq _, stab_eq _, stab_eq _, stab_eq _, stab_eq _, stab_eq _, trivial⟩
  · refine ⟨?_, ?_, ?_, ?_, ?_, ?_, ?_, ?_, ?_, ?_, ?_, ?_, ?_, ?_, trivial⟩
    · intro a x hG hd hs K hK
      have h5 : a.tmps.getD 5 undef = .slice (some ⟨bb, off, none⟩) (n1 + 1) c := hs 5 (by kernel_rfl)
      clear hd hs
      refine wpOp_plain rfl rfl ?_
      go_simp
      exact hK _ _ rfl hG (Below.refl _ _)
    · intro a x hG hd hs K hK
      have h5 : a.tmps.getD 5 undef = .slice (some ⟨bb, off, none⟩) (n1 + 1) c := hs 5 (by kernel_rfl)
      clear hd hs
      refine wpOp_plain rfl rfl ?_
      go_simp
      exact hK _ _ rfl hG (Below.refl _ _)
    · intro a x hG hd hs K hK
      have h19 : a.tmps.getD 19 undef = .slice (some ⟨bb, off, none⟩) (n1 + 1) c := hd 1 19 (by kernel_rfl)
      clear hd hs
      refine wpOp_plain rfl rfl ?_
      go_simp
      exact hK _ _ rfl hG (Below.refl _ _)
    · intro a x hG hd hs K hK
      have h20 : a.tmps.getD 20 undef = .int .i64 ((n1 + 1 : Nat) : Int) := hd 2 20 (by kernel_rfl)
      clear hd hs
      refine wpOp_plain rfl rfl ?_
      have hwr : IntKind.i64.wrap ((n1 : Nat) : Int) = ((n1 : Nat) : Int) := IntWalk.i64_in _ (by omega)
      go_simp
      exact hK _ _ rfl hG (Below.refl _ _)
    · intro a x hG hd hs K hK
      have h18 : a.tmps.getD 18 undef = .slice (some ⟨bb, off, none⟩) (n1 + 1) c := hd 0 18 (by kernel_rfl)
      have h21 : a.tmps.getD 21 undef = .int .i64 ((n1 : Nat) : Int) := hd 3 21 (by kernel_rfl)
      clear hd hs
      refine wpOp_plain rfl rfl ?_
      have hr := hhd x
      go_simp
      exact hK _ _ rfl hG (Below.refl _ _)
    · intro a x hG hd hs K hK
      have h5 : a.tmps.getD 5 undef = .slice (some ⟨bb, off, none⟩) (n1 + 1) c := hs 5 (by kernel_rfl)
      clear hd hs
      refine wpOp_plain rfl rfl ?_
      go_simp
      exact hK _ _ rfl hG (Below.refl _ _)
    · intro a x hG hd hs K hK
      have h5 : a.tmps.getD 5 undef = .slice (some ⟨bb, off, none⟩) (n1 + 1) c := hs 5 (by kernel_rfl)
      clear hd hs
      refine wpOp_plain rfl rfl ?_
      go_simp
      exact hK _ _ rfl hG (Below.refl _ _)
    · intro a x hG hd hs K hK
      have h24 : a.tmps.getD 24 undef = .slice (some ⟨bb, off, none⟩) (n1 + 1) c := hd 6 24 (by kernel_rfl)
      clear hd hs
      refine wpOp_plain rfl rfl ?_
      go_simp
      exact hK _ _ rfl hG (Below.refl _ _)
    · intro a x hG hd hs K hK
      have h25 : a.tmps.getD 25 undef = .int .i64 ((n1 + 1 : Nat) : Int) := hd 7 25 (by kernel_rfl)
      clear hd hs
      refine wpOp_plain rfl rfl ?_
      have hwr : IntKind.i64.wrap ((n1 : Nat) : Int) = ((n1 : Nat) : Int) := IntWalk.i64_in _ (by omega)
      go_simp
      exact hK _ _ rfl hG (Below.refl _ _)
    · intro a x hG hd hs K hK
      have h23 : a.tmps.getD 23 undef = .slice (some ⟨bb, off, none⟩) (n1 + 1) c := hd 5 23 (by kernel_rfl)
      have h26 : a.tmps.getD 26 undef = .int .i64 ((n1 : Nat) : Int) := hd 8 26 (by kernel_rfl)
      clear hd hs
      refine wpOp_plain rfl rfl ?_
      have h9 : (n1 : Int) < (n1 : Int) + 1 := by omega
      go_simp
      exact hK _ _ rfl hG (Below.refl _ _)
    · intro a x hG hd hs K hK
      have h27 : a.tmps.getD 27 undef = .pointer (some ⟨bb, off + n1, none⟩) := hd 9 27 (by kernel_rfl)
      clear hd hs
      refine wpOp_plain rfl rfl ?_
      have hc := (hG.cell (p := ⟨bb, off + n1, none⟩) hbw).trans h0
      go_simp
      exact hK _ _ rfl hG (Below.refl _ _)
    · intro a x hG hd hs K hK
      have h22 : a.tmps.getD 22 undef = .slice (some ⟨bb, off, none⟩) n1 c := hd 4 22 (by kernel_rfl)
      clear hd hs
      refine wpOp_plain rfl rfl ?_
      go_simp
      exact hK _ _ rfl hG (Below.refl _ _)
    · intro a x hG hd hs K hK
      have h28 : a.tmps.getD 28 undef = .string ⟨la.toArray⟩ := hd 10 28 (by kernel_rfl)
      clear hd hs
      refine wpOp_plain rfl rfl ?_
      go_simp
      exact hK _ _ rfl hG (Below.refl _ _)
    · intro a x hG hd hs K hK
      clear hd hs
      refine wpOp_plain rfl rfl ?_
      go_simp
      exact hK _ _ rfl hG (Below.refl _ _)
  · intro x hG
    rintro _ rfl _ rfl _ rfl _ rfl _ rfl _ rfl _ rfl _ rfl _ rfl _ rfl _ rfl _ rfl _ rfl _ rfl
    simp only [Act.put, List.setIfInBounds_toArray, List.set_cons_zero, List.set_cons_succ, REnd]
    try simp only [Exit.then]
    have hb2 := b1.trans (hG.mono b1.size)
    have hS2 := (Rds.ext HH.out (Nat.le_refl _) hG).more hG.size
    clear hhd h0
    go_wp2
    go_ret3
    exact ⟨.slice (some ⟨bb, off, none⟩) n1 c, by rw [HX.out]; rfl, by rw [HX.out]; exact hS2, hb2⟩
end Go.Proofs.Ytahcbgllnoopgaa
