/-
  The walks of label.Super and label.Label: the sealed block of the record, or refused. By an AI agent.
-/
import Derived.Test.YtmcgadhahhfflaaDoorLabelW
import Derived.Shelf.Abstract
namespace Go.Proofs.YtmcgadhahhfflaaDoor
open Go.RowKit

theorem numL_eq (wd z : Int) (v : Nat) (hz : z = v) (w : World) (hv : v < 9223372036854775808) :
    Calls Tryd.prog 23 #[.int .i64 wd, .int .i64 z] w fun e w' => e = .returned (.agg #[.int .i64 wd, .int .u64 (v : Int)]) ∧ Below w.heap.size w w' := by
  subst hz; exact numL_any wd v w hv
theorem zip_lt {L : List (Int × Nat)} (h : ∀ x ∈ L, Pk.chk x = 0) : ∀ x ∈ L, x.2 < 18446744073709551616 := by
  intro x hx
  have h1 := Pk.chk_zero (h x hx)
  have h2 : 256 ^ x.1.toNat ≤ 256 ^ 8 := Nat.pow_le_pow_right (by omega) (by omega)
  omega

set_option maxRecDepth 100000 in
set_option maxHeartbeats 4000000 in
theorem super1_any (g d l vo s : Nat) (w : World) (hk : Blk w g 23 [.int .i64 (d : Int), .int .i64 (l : Int), .int .i64 (vo : Int), .int .i64 (s : Int)]) (hH : Halves w) (hgeo : Lb.geoB d l vo s = true) :
    Calls Tryd.prog 21 #[.pointer (some ⟨g, 0, none⟩)] w fun e w' => ∃ u, e = .returned (.tuple #[u, .int .i64 0]) ∧ Bs w' w'.heap.size u (Lb.supE d l vo s) ∧ Below w.heap.size w w' := by
  have hbd : d ≤ 256 ∧ l ≤ 256 ∧ vo ≤ 8 ∧ s ≤ 256 := by
    unfold Lb.geoB at hgeo
    rw [decide_eq_true_iff] at hgeo
    omega
  have HC := Lib.hid (Lb.sup_chk d l vo s hgeo)
  clear hgeo
  go_enter Tryd.func21, Tryd.ntmps21
  go_wp2_with fail
  have hG0 : Below w.heap.size w w.drew := (Below.refl _ _).drew
  refine wp_region_list 19 [(fun v _ => v = .agg #[.int .i64 4, .int .u64 ((1751218541 : Nat) : Int)]),
    (fun v _ => v = .pointer (some ⟨g, 0, none⟩)),
    (fun v _ => v = .int .i64 ((d : Nat) : Int)),
    (fun v _ => v = .agg #[.int .i64 2, .int .u64 ((d : Nat) : Int)]),
    (fun v _ => v = .pointer (some ⟨g, 1, none⟩)),
    (fun v _ => v = .int .i64 ((l : Nat) : Int)),
    (fun v _ => v = .agg #[.int .i64 2, .int .u64 ((l : Nat) : Int)]),
    (fun v _ => v = .pointer (some ⟨g, 2, none⟩)),
    (fun v _ => v = .int .i64 ((vo : Nat) : Int)),
    (fun v _ => v = .agg #[.int .i64 1, .int .u64 ((vo : Nat) : Int)]),
    (fun v _ => v = .pointer (some ⟨g, 3, none⟩)),
    (fun v _ => v = .int .i64 ((s : Nat) : Int)),
    (fun v _ => v = .agg #[.int .i64 2, .int .u64 ((s : Nat) : Int)]),
    (fun u x => Nums x x.heap.size u (Lb.supW.zip (Lb.supV d l vo s))),
    (fun u x => ∃ q, u = .tuple #[q, .int .i64 0] ∧ Bs x x.heap.size q (Lb.supE d l vo s)),
    (fun u x => Bs x x.heap.size u (Lb.supE d l vo s)),
    (fun v _ => v = .int .i64 0),
    (fun u x => Bs x x.heap.size u (Lb.supE d l vo s)),
    (fun v _ => v = .int .i64 0)]
    (fun x => Below w.heap.size w x) (by kernel_rfl) rfl (by kernel_rfl) ?_ ?_ ?_ ?_
  · exact hG0
  · exact ⟨stab_eq _, stab_eq _, stab_eq _, stab_eq _, stab_eq _, stab_eq _, stab_eq _, stab_eq _, stab_eq _, stab_eq _, stab_eq _, stab_eq _, stab_eq _, fun _ _ _ h hb => Rds.more (Rds.ext h (Nat.le_refl _) hb) hb.size, fun _ _ _ ⟨q, h1, h2⟩ hb => ⟨q, h1, (h2.ext (Nat.le_refl _) hb).more hb.size⟩, stab_bs _, stab_eq _, stab_bs _, stab_eq _, trivial⟩
  · refine ⟨?_, ?_, ?_, ?_, ?_, ?_, ?_, ?_, ?_, ?_, ?_, ?_, ?_, ?_, ?_, ?_, ?_, ?_, ?_, trivial⟩
    · intro a x hG hd hs K hK
      clear hd hs
      refine wpOp_plain rfl rfl ?_
      go_simp
      refine (numL_eq 4 _ 1751218541 rfl _ (by omega)).mono ?_
      rintro e w' ⟨rfl, hb⟩
      exact hK _ _ rfl (hG.trans (hb.mono hG.size)) hb
    · intro a x hG hd hs K hK
      have h0 : a.tmps.getD 0 undef = .pointer (some ⟨g, 0, none⟩) := hs 0 (by kernel_rfl)
      clear hd hs
      refine wpOp_plain rfl rfl ?_
      go_simp
      exact hK _ _ rfl hG (Below.refl _ _)
    · intro a x hG hd hs K hK
      have h4 : a.tmps.getD 4 undef = .pointer (some ⟨g, 0, none⟩) := hd 1 4 (by kernel_rfl)
      clear hd hs
      refine wpOp_plain rfl rfl ?_
      have hc : x.cell? ⟨g, 0, none⟩ = some (.int .i64 (d : Int)) := (hG.cell (p := ⟨g, 0, none⟩) hk.lt).trans (hk.cell 0)
      go_simp
      exact hK _ _ rfl hG (Below.refl _ _)
    · intro a x hG hd hs K hK
      have h5 : a.tmps.getD 5 undef = .int .i64 ((d : Nat) : Int) := hd 2 5 (by kernel_rfl)
      clear hd hs
      refine wpOp_plain rfl rfl ?_
      go_simp
      refine (numL_eq 2 _ d rfl _ (by omega)).mono ?_
      rintro e w' ⟨rfl, hb⟩
      exact hK _ _ rfl (hG.trans (hb.mono hG.size)) hb
    · intro a x hG hd hs K hK
      have h0 : a.tmps.getD 0 undef = .pointer (some ⟨g, 0, none⟩) := hs 0 (by kernel_rfl)
      clear hd hs
      refine wpOp_plain rfl rfl ?_
      go_simp
      exact hK _ _ rfl hG (Below.refl _ _)
    · intro a x hG hd hs K hK
      have h7 : a.tmps.getD 7 undef = .pointer (some ⟨g, 1, none⟩) := hd 4 7 (by kernel_rfl)
      clear hd hs
      refine wpOp_plain rfl rfl ?_
      have hc : x.cell? ⟨g, 1, none⟩ = some (.int .i64 (l : Int)) := (hG.cell (p := ⟨g, 1, none⟩) hk.lt).trans (hk.cell 1)
      go_simp
      exact hK _ _ rfl hG (Below.refl _ _)
    · intro a x hG hd hs K hK
      have h8 : a.tmps.getD 8 undef = .int .i64 ((l : Nat) : Int) := hd 5 8 (by kernel_rfl)
      clear hd hs
      refine wpOp_plain rfl rfl ?_
      go_simp
      refine (numL_eq 2 _ l rfl _ (by omega)).mono ?_
      rintro e w' ⟨rfl, hb⟩
      exact hK _ _ rfl (hG.trans (hb.mono hG.size)) hb
    · intro a x hG hd hs K hK
      have h0 : a.tmps.getD 0 undef = .pointer (some ⟨g, 0, none⟩) := hs 0 (by kernel_rfl)
      clear hd hs
      refine wpOp_plain rfl rfl ?_
      go_simp
      exact hK _ _ rfl hG (Below.refl _ _)
    · intro a x hG hd hs K hK
      have h10 : a.tmps.getD 10 undef = .pointer (some ⟨g, 2, none⟩) := hd 7 10 (by kernel_rfl)
      clear hd hs
      refine wpOp_plain rfl rfl ?_
      have hc : x.cell? ⟨g, 2, none⟩ = some (.int .i64 (vo : Int)) := (hG.cell (p := ⟨g, 2, none⟩) hk.lt).trans (hk.cell 2)
      go_simp
      exact hK _ _ rfl hG (Below.refl _ _)
    · intro a x hG hd hs K hK
      have h11 : a.tmps.getD 11 undef = .int .i64 ((vo : Nat) : Int) := hd 8 11 (by kernel_rfl)
      clear hd hs
      refine wpOp_plain rfl rfl ?_
      go_simp
      refine (numL_eq 1 _ vo rfl _ (by omega)).mono ?_
      rintro e w' ⟨rfl, hb⟩
      exact hK _ _ rfl (hG.trans (hb.mono hG.size)) hb
    · intro a x hG hd hs K hK
      have h0 : a.tmps.getD 0 undef = .pointer (some ⟨g, 0, none⟩) := hs 0 (by kernel_rfl)
      clear hd hs
      refine wpOp_plain rfl rfl ?_
      go_simp
      exact hK _ _ rfl hG (Below.refl _ _)
    · intro a x hG hd hs K hK
      have h13 : a.tmps.getD 13 undef = .pointer (some ⟨g, 3, none⟩) := hd 10 13 (by kernel_rfl)
      clear hd hs
      refine wpOp_plain rfl rfl ?_
      have hc : x.cell? ⟨g, 3, none⟩ = some (.int .i64 (s : Int)) := (hG.cell (p := ⟨g, 3, none⟩) hk.lt).trans (hk.cell 3)
      go_simp
      exact hK _ _ rfl hG (Below.refl _ _)
    · intro a x hG hd hs K hK
      have h14 : a.tmps.getD 14 undef = .int .i64 ((s : Nat) : Int) := hd 11 14 (by kernel_rfl)
      clear hd hs
      refine wpOp_plain rfl rfl ?_
      go_simp
      refine (numL_eq 2 _ s rfl _ (by omega)).mono ?_
      rintro e w' ⟨rfl, hb⟩
      exact hK _ _ rfl (hG.trans (hb.mono hG.size)) hb
    · intro a x hG hd hs K hK
      have h3 : a.tmps.getD 3 undef = .agg #[.int .i64 4, .int .u64 ((1751218541 : Nat) : Int)] := hd 0 3 (by kernel_rfl)
      have h3o := getD_opt h3
      have h6 : a.tmps.getD 6 undef = .agg #[.int .i64 2, .int .u64 ((d : Nat) : Int)] := hd 3 6 (by kernel_rfl)
      have h6o := getD_opt h6
      have h9 : a.tmps.getD 9 undef = .agg #[.int .i64 2, .int .u64 ((l : Nat) : Int)] := hd 6 9 (by kernel_rfl)
      have h9o := getD_opt h9
      have h12 : a.tmps.getD 12 undef = .agg #[.int .i64 1, .int .u64 ((vo : Nat) : Int)] := hd 9 12 (by kernel_rfl)
      have h12o := getD_opt h12
      have h15 : a.tmps.getD 15 undef = .agg #[.int .i64 2, .int .u64 ((s : Nat) : Int)] := hd 12 15 (by kernel_rfl)
      have h15o := getD_opt h15
      clear hd hs
      refine wpOp_plain rfl rfl ?_
      go_simp
      exact hK _ _ (Rds.more (Nums.lit x _ _ (Lb.supW.zip (Lb.supV d l vo s)) 5 rfl rfl (by simp [maxLen])) (by simp)) (hG.alloc hG.size _) ((Below.refl _ _).alloc (Nat.le_refl _) _)
    · intro a x hG hd hs K hK
      have h16 : (fun u x => Nums x x.heap.size u (Lb.supW.zip (Lb.supV d l vo s))) (a.tmps.getD 16 undef) x := hd 13 16 (by kernel_rfl)
      clear hd hs
      refine wpOp_plain rfl rfl ?_
      obtain ⟨uu, huu⟩ : ∃ uu, a.tmps.getD 16 undef = uu := ⟨_, rfl⟩
      rw [huu] at h16
      go_simp
      refine (sealL_any _ _ (Lb.supW.zip (Lb.supV d l vo s)) (hH.ext hG) h16 (show 5 ≤ 100 by omega) (zip_lt HC.out) HC.out (by rw [Lb.supE_len]; omega)).mono ?_
      rintro e w' ⟨q, rfl, hbs, hb⟩
      exact hK _ _ ⟨q, rfl, hbs⟩ (hG.trans (hb.mono hG.size)) hb
    · intro a x hG hd hs K hK
      have h17 : (fun u x => ∃ q, u = .tuple #[q, .int .i64 0] ∧ Bs x x.heap.size q (Lb.supE d l vo s)) (a.tmps.getD 17 undef) x := hd 14 17 (by kernel_rfl)
      clear hd hs
      refine wpOp_plain rfl rfl ?_
      obtain ⟨q, hq, hbs⟩ := h17
      go_simp
      exact hK _ _ hbs hG (Below.refl _ _)
    · intro a x hG hd hs K hK
      have h17 : (fun u x => ∃ q, u = .tuple #[q, .int .i64 0] ∧ Bs x x.heap.size q (Lb.supE d l vo s)) (a.tmps.getD 17 undef) x := hd 14 17 (by kernel_rfl)
      clear hd hs
      refine wpOp_plain rfl rfl ?_
      obtain ⟨q, hq, hbs⟩ := h17
      go_simp
      exact hK _ _ rfl hG (Below.refl _ _)
    · intro a x hG hd hs K hK
      have h18 : (fun u x => Bs x x.heap.size u (Lb.supE d l vo s)) (a.tmps.getD 18 undef) x := hd 15 18 (by kernel_rfl)
      clear hd hs
      refine wpOp_plain rfl rfl ?_
      obtain ⟨uu, huu⟩ : ∃ uu, a.tmps.getD 18 undef = uu := ⟨_, rfl⟩
      rw [huu] at h18
      go_simp
      exact hK _ _ h18 hG (Below.refl _ _)
    · intro a x hG hd hs K hK
      have h19 : a.tmps.getD 19 undef = .int .i64 0 := hd 16 19 (by kernel_rfl)
      clear hd hs
      refine wpOp_plain rfl rfl ?_
      go_simp
      exact hK _ _ rfl hG (Below.refl _ _)
  · intro x hG
    rintro _ rfl _ rfl _ rfl _ rfl _ rfl _ rfl _ rfl _ rfl _ rfl _ rfl _ rfl _ rfl _ rfl v13 hv13 v14 hv14 v15 hv15 _ rfl v17 hv17 _ rfl
    simp only [Act.put, List.setIfInBounds_toArray, List.set_cons_zero, List.set_cons_succ, REnd]
    try simp only [Exit.then]
    go_wp2
    go_ret2
    exact ⟨_, rfl, hv17, hG⟩

set_option maxRecDepth 100000 in
set_option maxHeartbeats 4000000 in
theorem label1_any (g g2 vo ge : Nat) (w : World) (hk : w.cell? ⟨g, 0, none⟩ = some (.int .i64 (vo : Int))) (hk2 : w.cell? ⟨g2, 0, none⟩ = some (.int .i64 (ge : Int))) (hl : g < w.heap.size) (hl2 : g2 < w.heap.size) (hH : Halves w) (hlab : Lb.labB vo ge = true) :
    Calls Tryd.prog 25 #[.pointer (some ⟨g, 0, none⟩), .pointer (some ⟨g2, 0, none⟩)] w fun e w' => ∃ u, e = .returned (.tuple #[u, .int .i64 0]) ∧ Bs w' w'.heap.size u (Lb.labE vo ge) ∧ Below w.heap.size w w' := by
  have hbd : vo ≤ 8 ∧ ge ≤ 4294967295 := by
    unfold Lb.labB at hlab
    rw [decide_eq_true_iff] at hlab
    omega
  have HC := Lib.hid (Lb.lab_chk vo ge hlab)
  clear hlab
  go_enter Tryd.func25, Tryd.ntmps25
  go_wp2_with fail
  have hG0 : Below w.heap.size w w.drew := (Below.refl _ _).drew
  refine wp_region_list 11 [(fun v _ => v = .agg #[.int .i64 4, .int .u64 ((1752592236 : Nat) : Int)]),
    (fun v _ => v = .int .i64 ((vo : Nat) : Int)),
    (fun v _ => v = .agg #[.int .i64 1, .int .u64 ((vo : Nat) : Int)]),
    (fun v _ => v = .int .i64 ((ge : Nat) : Int)),
    (fun v _ => v = .agg #[.int .i64 4, .int .u64 ((ge : Nat) : Int)]),
    (fun u x => Nums x x.heap.size u (Lb.labW.zip (Lb.labV vo ge))),
    (fun u x => ∃ q, u = .tuple #[q, .int .i64 0] ∧ Bs x x.heap.size q (Lb.labE vo ge)),
    (fun u x => Bs x x.heap.size u (Lb.labE vo ge)),
    (fun v _ => v = .int .i64 0),
    (fun u x => Bs x x.heap.size u (Lb.labE vo ge)),
    (fun v _ => v = .int .i64 0)]
    (fun x => Below w.heap.size w x) (by kernel_rfl) rfl (by kernel_rfl) ?_ ?_ ?_ ?_
  · exact hG0
  · exact ⟨stab_eq _, stab_eq _, stab_eq _, stab_eq _, stab_eq _, fun _ _ _ h hb => Rds.more (Rds.ext h (Nat.le_refl _) hb) hb.size, fun _ _ _ ⟨q, h1, h2⟩ hb => ⟨q, h1, (h2.ext (Nat.le_refl _) hb).more hb.size⟩, stab_bs _, stab_eq _, stab_bs _, stab_eq _, trivial⟩
  · refine ⟨?_, ?_, ?_, ?_, ?_, ?_, ?_, ?_, ?_, ?_, ?_, trivial⟩
    · intro a x hG hd hs K hK
      clear hd hs
      refine wpOp_plain rfl rfl ?_
      go_simp
      refine (numL_eq 4 _ 1752592236 rfl _ (by omega)).mono ?_
      rintro e w' ⟨rfl, hb⟩
      exact hK _ _ rfl (hG.trans (hb.mono hG.size)) hb
    · intro a x hG hd hs K hK
      have h0 : a.tmps.getD 0 undef = .pointer (some ⟨g, 0, none⟩) := hs 0 (by kernel_rfl)
      clear hd hs
      refine wpOp_plain rfl rfl ?_
      have hc := (hG.cell (p := ⟨g, 0, none⟩) hl).trans hk
      go_simp
      exact hK _ _ rfl hG (Below.refl _ _)
    · intro a x hG hd hs K hK
      have h5 : a.tmps.getD 5 undef = .int .i64 ((vo : Nat) : Int) := hd 1 5 (by kernel_rfl)
      clear hd hs
      refine wpOp_plain rfl rfl ?_
      go_simp
      refine (numL_eq 1 _ vo rfl _ (by omega)).mono ?_
      rintro e w' ⟨rfl, hb⟩
      exact hK _ _ rfl (hG.trans (hb.mono hG.size)) hb
    · intro a x hG hd hs K hK
      have h1 : a.tmps.getD 1 undef = .pointer (some ⟨g2, 0, none⟩) := hs 1 (by kernel_rfl)
      clear hd hs
      refine wpOp_plain rfl rfl ?_
      have hc := (hG.cell (p := ⟨g2, 0, none⟩) hl2).trans hk2
      go_simp
      exact hK _ _ rfl hG (Below.refl _ _)
    · intro a x hG hd hs K hK
      have h7 : a.tmps.getD 7 undef = .int .i64 ((ge : Nat) : Int) := hd 3 7 (by kernel_rfl)
      clear hd hs
      refine wpOp_plain rfl rfl ?_
      go_simp
      refine (numL_eq 4 _ ge rfl _ (by omega)).mono ?_
      rintro e w' ⟨rfl, hb⟩
      exact hK _ _ rfl (hG.trans (hb.mono hG.size)) hb
    · intro a x hG hd hs K hK
      have h4 : a.tmps.getD 4 undef = .agg #[.int .i64 4, .int .u64 ((1752592236 : Nat) : Int)] := hd 0 4 (by kernel_rfl)
      have h4o := getD_opt h4
      have h6 : a.tmps.getD 6 undef = .agg #[.int .i64 1, .int .u64 ((vo : Nat) : Int)] := hd 2 6 (by kernel_rfl)
      have h6o := getD_opt h6
      have h8 : a.tmps.getD 8 undef = .agg #[.int .i64 4, .int .u64 ((ge : Nat) : Int)] := hd 4 8 (by kernel_rfl)
      have h8o := getD_opt h8
      clear hd hs
      refine wpOp_plain rfl rfl ?_
      go_simp
      exact hK _ _ (Rds.more (Nums.lit x _ _ (Lb.labW.zip (Lb.labV vo ge)) 3 rfl rfl (by simp [maxLen])) (by simp)) (hG.alloc hG.size _) ((Below.refl _ _).alloc (Nat.le_refl _) _)
    · intro a x hG hd hs K hK
      have h9 : (fun u x => Nums x x.heap.size u (Lb.labW.zip (Lb.labV vo ge))) (a.tmps.getD 9 undef) x := hd 5 9 (by kernel_rfl)
      clear hd hs
      refine wpOp_plain rfl rfl ?_
      obtain ⟨uu, huu⟩ : ∃ uu, a.tmps.getD 9 undef = uu := ⟨_, rfl⟩
      rw [huu] at h9
      go_simp
      refine (sealL_any _ _ (Lb.labW.zip (Lb.labV vo ge)) (hH.ext hG) h9 (show 3 ≤ 100 by omega) (zip_lt HC.out) HC.out (by rw [Lb.labE_len]; omega)).mono ?_
      rintro e w' ⟨q, rfl, hbs, hb⟩
      exact hK _ _ ⟨q, rfl, hbs⟩ (hG.trans (hb.mono hG.size)) hb
    · intro a x hG hd hs K hK
      have h10 : (fun u x => ∃ q, u = .tuple #[q, .int .i64 0] ∧ Bs x x.heap.size q (Lb.labE vo ge)) (a.tmps.getD 10 undef) x := hd 6 10 (by kernel_rfl)
      clear hd hs
      refine wpOp_plain rfl rfl ?_
      obtain ⟨q, hq, hbs⟩ := h10
      go_simp
      exact hK _ _ hbs hG (Below.refl _ _)
    · intro a x hG hd hs K hK
      have h10 : (fun u x => ∃ q, u = .tuple #[q, .int .i64 0] ∧ Bs x x.heap.size q (Lb.labE vo ge)) (a.tmps.getD 10 undef) x := hd 6 10 (by kernel_rfl)
      clear hd hs
      refine wpOp_plain rfl rfl ?_
      obtain ⟨q, hq, hbs⟩ := h10
      go_simp
      exact hK _ _ rfl hG (Below.refl _ _)
    · intro a x hG hd hs K hK
      have h11 : (fun u x => Bs x x.heap.size u (Lb.labE vo ge)) (a.tmps.getD 11 undef) x := hd 7 11 (by kernel_rfl)
      clear hd hs
      refine wpOp_plain rfl rfl ?_
      obtain ⟨uu, huu⟩ : ∃ uu, a.tmps.getD 11 undef = uu := ⟨_, rfl⟩
      rw [huu] at h11
      go_simp
      exact hK _ _ h11 hG (Below.refl _ _)
    · intro a x hG hd hs K hK
      have h12 : a.tmps.getD 12 undef = .int .i64 0 := hd 8 12 (by kernel_rfl)
      clear hd hs
      refine wpOp_plain rfl rfl ?_
      go_simp
      exact hK _ _ rfl hG (Below.refl _ _)
  · intro x hG
    rintro _ rfl _ rfl _ rfl _ rfl _ rfl v5 hv5 v6 hv6 v7 hv7 _ rfl v9 hv9 _ rfl
    simp only [Act.put, List.setIfInBounds_toArray, List.set_cons_zero, List.set_cons_succ, REnd]
    try simp only [Exit.then]
    go_wp2
    go_ret2
    exact ⟨_, rfl, hv9, hG⟩

/-- create, where it may be. -/
def Made (l : List UInt8) (w : World) (e : Ending) (w' : World) : Prop := ∃ u, e = .returned (.tuple #[u, .int .i64 0]) ∧ Bs w' w'.heap.size u l ∧ Below w.heap.size w w'
set_option maxHeartbeats 400000 in
theorem create_yes (K : Nat) (caps : Array Value) (l : List UInt8) (w : World) (hK : ∀ args w, (callFunc K args).run Tryd.prog w = .ok (.enter K args) w) (h : Calls Tryd.prog K caps w (Made l w)) :
    Calls Tryd.prog 19 #[.bool true, .func (.func K) #[] caps] w (Made l w) := by
  go_enter Tryd.func19, Tryd.ntmps19
  go_wp2_with fail
  refine (Calls.mono (by simpa using h) ?_)
  rintro e w' ⟨u, rfl, hs, hb⟩
  go_wp2
  go_ret2
  exact ⟨u, rfl, hs, hb⟩
set_option maxHeartbeats 400000 in
theorem create_no (f : Value) (w : World) :
    Calls Tryd.prog 19 #[.bool false, f] w fun e w' => e = .returned (.tuple #[.slice none 0 0, .int .i64 1]) ∧ w = w' := by
  go_enter Tryd.func19, Tryd.ntmps19
  go_wp2
  go_ret2
  exact ⟨rfl, rfl⟩

set_option maxHeartbeats 400000 in
theorem super_yes (d l vo s : Nat) (w : World) (hH : Halves w) (hgeo : Lb.geoB d l vo s = true) :
    Calls Tryd.prog 7 #[.agg #[.int .i64 (d : Int), .int .i64 (l : Int), .int .i64 (vo : Int), .int .i64 (s : Int)]] w (Made (Lb.supE d l vo s) w) := by
  have hbd : d ≤ 256 := by
    unfold Lb.geoB at hgeo
    rw [decide_eq_true_iff] at hgeo
    omega
  go_enter Tryd.func7, Tryd.ntmps7
  go_wp2_with fail
  have hk := Blk.new w 23 #[.int .i64 (d : Int), .int .i64 (l : Int), .int .i64 (vo : Int), .int .i64 (s : Int)]
  have hb0 := (Below.refl w.heap.size w).alloc (Nat.le_refl _) (.cells #[.int .i64 (d : Int), .int .i64 (l : Int), .int .i64 (vo : Int), .int .i64 (s : Int)] 23)
  generalize w.alloc (.cells #[.int .i64 (d : Int), .int .i64 (l : Int), .int .i64 (vo : Int), .int .i64 (s : Int)] 23) = w0 at *
  refine (addrMay_any d l vo s _ (by omega)).mono ?_
  rintro e w1 ⟨rfl, b1⟩
  rw [hgeo]
  have c1 := hb0.trans (b1.mono hb0.size)
  go_wp2_with fail
  refine (create_yes 21 _ (Lb.supE d l vo s) _ (enters_of Tryd.func21 (by kernel_rfl) rfl) (super1_any _ d l vo s _ (hk.ext b1) (hH.ext c1) hgeo)).mono ?_
  rintro e w2 ⟨u, rfl, hs, b2⟩
  have c2 := c1.trans (b2.mono c1.size)
  go_wp2
  go_ret2
  exact ⟨_, rfl, hs, c2⟩
set_option maxHeartbeats 400000 in
theorem super_no (d l vo s : Int) (w : World) (hd : -9223372036854775808 ≤ d ∧ d ≤ 9223372036854775807) (hgeo : Lb.geoB d l vo s = false) :
    Calls Tryd.prog 7 #[.agg #[.int .i64 d, .int .i64 l, .int .i64 vo, .int .i64 s]] w fun e w' => e = .returned (.tuple #[.slice none 0 0, .int .i64 1]) ∧ Below w.heap.size w w' := by
  go_enter Tryd.func7, Tryd.ntmps7
  go_wp2_with fail
  have hb0 := (Below.refl w.heap.size w).alloc (Nat.le_refl _) (.cells #[.int .i64 d, .int .i64 l, .int .i64 vo, .int .i64 s] 23)
  generalize w.alloc (.cells #[.int .i64 d, .int .i64 l, .int .i64 vo, .int .i64 s] 23) = w0 at *
  refine (addrMay_any d l vo s _ hd).mono ?_
  rintro e w1 ⟨rfl, b1⟩
  rw [hgeo]
  have c1 := hb0.trans (b1.mono hb0.size)
  go_wp2_with fail
  refine (create_no _ _).mono ?_
  rintro e w' ⟨rfl, rfl⟩
  go_wp2
  go_ret2
  exact ⟨rfl, c1⟩

set_option maxHeartbeats 400000 in
theorem label_yes (vo ge : Nat) (w : World) (hH : Halves w) (hlab : Lb.labB vo ge = true) :
    Calls Tryd.prog 8 #[.int .i64 (vo : Int), .int .i64 (ge : Int)] w (Made (Lb.labE vo ge) w) := by
  go_enter Tryd.func8, Tryd.ntmps8
  go_wp2_with fail
  refine (labMay_any _ _ _).mono ?_
  rintro e w' ⟨rfl, rfl⟩
  rw [hlab]
  go_wp2_with fail
  obtain ⟨b1, x1, y1, z1⟩ := alloc2 (w := w) (.int .i64 (vo : Int)) (.int .i64 (ge : Int)) 3
  generalize (w.alloc (.cells #[.int .i64 (vo : Int)] 3)).alloc (.cells #[.int .i64 (ge : Int)] 3) = w0 at *
  refine (create_yes 25 _ (Lb.labE vo ge) _ (enters_of Tryd.func25 (by kernel_rfl) rfl) (label1_any _ _ vo ge _ x1 y1 (by omega) (by omega) (hH.ext b1) hlab)).mono ?_
  rintro e w2 ⟨u, rfl, hs, b2⟩
  have c2 := b1.trans (b2.mono b1.size)
  go_wp2
  go_ret2
  exact ⟨_, rfl, hs, c2⟩
set_option maxHeartbeats 400000 in
theorem label_no (vo ge : Int) (w : World) (hlab : Lb.labB vo ge = false) :
    Calls Tryd.prog 8 #[.int .i64 vo, .int .i64 ge] w fun e w' => e = .returned (.tuple #[.slice none 0 0, .int .i64 1]) ∧ Below w.heap.size w w' := by
  go_enter Tryd.func8, Tryd.ntmps8
  go_wp2_with fail
  refine (labMay_any _ _ _).mono ?_
  rintro e w' ⟨rfl, rfl⟩
  rw [hlab]
  go_wp2_with fail
  obtain ⟨b1, x1, y1, z1⟩ := alloc2 (w := w) (.int .i64 vo) (.int .i64 ge) 3
  refine (create_no _ _).mono ?_
  rintro e w' ⟨rfl, rfl⟩
  go_wp2
  go_ret2
  exact ⟨rfl, b1⟩
end Go.Proofs.YtmcgadhahhfflaaDoor
