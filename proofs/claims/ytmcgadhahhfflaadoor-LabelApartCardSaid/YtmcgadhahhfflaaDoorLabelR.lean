/-
  The walks of the document's answers of layers 3 (May) and 5. By an AI agent.
-/
import Derived.Test.YtmcgadhahhfflaaDoorCodeR
import Derived.Test.YtmcgadhahhfflaaDoorCrcR
import Derived.Test.YtmcgadhahhfflaaDoorLabelY
namespace Go.Proofs.YtmcgadhahhfflaaDoor
open Go.RowKit

theorem u64_nat (n : Nat) (h : n < 18446744073709551616) : IntKind.u64.wrap (n : Int) = n := IntWalk.u64_in _ (by omega)

set_option maxHeartbeats 2000000 in
theorem rgeo_any (d l v s : Int) (w : World) (hd : -9223372036854775808 ≤ d ∧ d ≤ 9223372036854775807) :
    Calls Tryd.prog 10 #[.agg #[.int .i64 d, .int .i64 l, .int .i64 v, .int .i64 s]] w fun e w' => e = .returned (.bool (Lb.geoB d l v s)) ∧ Below w.heap.size w w' := by
  by_cases k0 : 8 ≤ d
  · by_cases k1 : d ≤ 256
    · by_cases k2 : 1 ≤ l
      · by_cases k3 : l ≤ d - 6
        · by_cases k4 : 0 ≤ v
          · by_cases k5 : v ≤ 8
            · by_cases k6 : 1 ≤ s
              · by_cases k7 : s ≤ 256
                · have H := Lib.hid (show Lb.geoB d l v s = true by unfold Lb.geoB; rw [decide_eq_true (by omega)])
                  go_enter Tryd.func10, Tryd.ntmps10
                  go_wp2
                  go_ret
                  exact ⟨by rw [H.out]; rfl, (Below.refl _ _).alloc (Nat.le_refl _) _⟩
                · have H := Lib.hid (show Lb.geoB d l v s = false by unfold Lb.geoB; rw [decide_eq_false (by omega)])
                  go_enter Tryd.func10, Tryd.ntmps10
                  go_wp2
                  go_ret
                  exact ⟨by rw [H.out]; rfl, (Below.refl _ _).alloc (Nat.le_refl _) _⟩
              · have H := Lib.hid (show Lb.geoB d l v s = false by unfold Lb.geoB; rw [decide_eq_false (by omega)])
                go_enter Tryd.func10, Tryd.ntmps10
                go_wp2
                go_ret
                exact ⟨by rw [H.out]; rfl, (Below.refl _ _).alloc (Nat.le_refl _) _⟩
            · have H := Lib.hid (show Lb.geoB d l v s = false by unfold Lb.geoB; rw [decide_eq_false (by omega)])
              go_enter Tryd.func10, Tryd.ntmps10
              go_wp2
              go_ret
              exact ⟨by rw [H.out]; rfl, (Below.refl _ _).alloc (Nat.le_refl _) _⟩
          · have H := Lib.hid (show Lb.geoB d l v s = false by unfold Lb.geoB; rw [decide_eq_false (by omega)])
            go_enter Tryd.func10, Tryd.ntmps10
            go_wp2
            go_ret
            exact ⟨by rw [H.out]; rfl, (Below.refl _ _).alloc (Nat.le_refl _) _⟩
        · have H := Lib.hid (show Lb.geoB d l v s = false by unfold Lb.geoB; rw [decide_eq_false (by omega)])
          go_enter Tryd.func10, Tryd.ntmps10
          go_wp2
          go_ret
          exact ⟨by rw [H.out]; rfl, (Below.refl _ _).alloc (Nat.le_refl _) _⟩
      · have H := Lib.hid (show Lb.geoB d l v s = false by unfold Lb.geoB; rw [decide_eq_false (by omega)])
        go_enter Tryd.func10, Tryd.ntmps10
        go_wp2
        go_ret
        exact ⟨by rw [H.out]; rfl, (Below.refl _ _).alloc (Nat.le_refl _) _⟩
    · have H := Lib.hid (show Lb.geoB d l v s = false by unfold Lb.geoB; rw [decide_eq_false (by omega)])
      go_enter Tryd.func10, Tryd.ntmps10
      go_wp2
      go_ret
      exact ⟨by rw [H.out]; rfl, (Below.refl _ _).alloc (Nat.le_refl _) _⟩
  · have H := Lib.hid (show Lb.geoB d l v s = false by unfold Lb.geoB; rw [decide_eq_false (by omega)])
    go_enter Tryd.func10, Tryd.ntmps10
    go_wp2
    go_ret
    exact ⟨by rw [H.out]; rfl, (Below.refl _ _).alloc (Nat.le_refl _) _⟩

set_option maxHeartbeats 2000000 in
theorem rlab_any (v g : Int) (w : World) :
    Calls Tryd.prog 14 #[.int .i64 v, .int .i64 g] w fun e w' => e = .returned (.bool (Lb.labB v g)) ∧ w = w' := by
  by_cases k0 : 0 ≤ v
  · by_cases k1 : v < 8
    · by_cases k2 : 0 ≤ g
      · by_cases k3 : g ≤ 4294967295
        · have H := Lib.hid (show Lb.labB v g = true by unfold Lb.labB; rw [decide_eq_true (by omega)])
          go_enter Tryd.func14, Tryd.ntmps14
          go_wp2
          go_ret
          exact ⟨by rw [H.out]; rfl, rfl⟩
        · have H := Lib.hid (show Lb.labB v g = false by unfold Lb.labB; rw [decide_eq_false (by omega)])
          go_enter Tryd.func14, Tryd.ntmps14
          go_wp2
          go_ret
          exact ⟨by rw [H.out]; rfl, rfl⟩
      · have H := Lib.hid (show Lb.labB v g = false by unfold Lb.labB; rw [decide_eq_false (by omega)])
        go_enter Tryd.func14, Tryd.ntmps14
        go_wp2
        go_ret
        exact ⟨by rw [H.out]; rfl, rfl⟩
    · have H := Lib.hid (show Lb.labB v g = false by unfold Lb.labB; rw [decide_eq_false (by omega)])
      go_enter Tryd.func14, Tryd.ntmps14
      go_wp2
      go_ret
      exact ⟨by rw [H.out]; rfl, rfl⟩
  · have H := Lib.hid (show Lb.labB v g = false by unfold Lb.labB; rw [decide_eq_false (by omega)])
    go_enter Tryd.func14, Tryd.ntmps14
    go_wp2
    go_ret
    exact ⟨by rw [H.out]; rfl, rfl⟩

theorem sup_bytes (d l vo s : Nat) : 104 :: 97 :: 121 :: 109 :: (Pk.be d 2 ++ (Pk.be l 2 ++ (Pk.be vo 1 ++ Pk.be s 2))) = Pk.recs (Lb.supW.zip (Lb.supV d l vo s)) := by
  show _ = Pk.be 1751218541 4 ++ (Pk.be d 2 ++ (Pk.be l 2 ++ (Pk.be vo 1 ++ (Pk.be s 2 ++ []))))
  rw [show Pk.be 1751218541 4 = [104, 97, 121, 109] by decide +kernel]
  simp only [List.append_nil, List.cons_append, List.nil_append]
theorem lab_bytes (vo ge : Nat) : 104 :: 118 :: 111 :: 108 :: (Pk.be vo 1 ++ Pk.be ge 4) = Pk.recs (Lb.labW.zip (Lb.labV vo ge)) := by
  show _ = Pk.be 1752592236 4 ++ (Pk.be vo 1 ++ (Pk.be ge 4 ++ []))
  rw [show Pk.be 1752592236 4 = [104, 118, 111, 108] by decide +kernel]
  simp only [List.append_nil, List.cons_append, List.nil_append]

set_option maxRecDepth 100000 in
set_option maxHeartbeats 4000000 in
theorem rsuper_any (d l vo s : Nat) (w : World) (hb : d < 65536 ∧ l < 65536 ∧ vo < 65536 ∧ s < 65536) :
    Calls Tryd.prog 13 #[.agg #[.int .i64 (d : Int), .int .i64 (l : Int), .int .i64 (vo : Int), .int .i64 (s : Int)]] w fun e w' => e = .returned (.string ⟨(Lb.supE d l vo s).toArray⟩) ∧ Below w.heap.size w w' := by
  have HB := Lib.hid (sup_bytes d l vo s)
  have HL := Lib.hid (Lb.supE_len d l vo s)
  go_enter Tryd.func13, Tryd.ntmps13
  go_wp2_with fail
  have hk := Blk.new w 23 #[.int .i64 (d : Int), .int .i64 (l : Int), .int .i64 (vo : Int), .int .i64 (s : Int)]
  have b0 := (Below.refl w.heap.size w).alloc (Nat.le_refl _) (.cells #[.int .i64 (d : Int), .int .i64 (l : Int), .int .i64 (vo : Int), .int .i64 (s : Int)] 23)
  generalize w.alloc (.cells #[.int .i64 (d : Int), .int .i64 (l : Int), .int .i64 (vo : Int), .int .i64 (s : Int)] 23) = w0 at *
  have hsz0 := b0.size
  generalize hg : w.heap.size = g at hk b0 hsz0 ⊢
  have HGG := Lib.hid hg
  clear hg
  have hG0 : Below w0.heap.size w0 w0.drew := (Below.refl _ _).drew
  refine wp_region_list 22 [(fun v _ => v = .pointer (some ⟨g, 0, none⟩)),
    (fun v _ => v = .int .i64 ((d : Nat) : Int)),
    (fun v _ => v = .int .u64 ((d : Nat) : Int)),
    (fun v _ => v = .string ⟨(Pk.be d 2).toArray⟩),
    (fun v _ => v = .string ⟨(([104, 97, 121, 109]) ++ (Pk.be d 2)).toArray⟩),
    (fun v _ => v = .pointer (some ⟨g, 1, none⟩)),
    (fun v _ => v = .int .i64 ((l : Nat) : Int)),
    (fun v _ => v = .int .u64 ((l : Nat) : Int)),
    (fun v _ => v = .string ⟨(Pk.be l 2).toArray⟩),
    (fun v _ => v = .string ⟨(([104, 97, 121, 109] ++ Pk.be d 2) ++ (Pk.be l 2)).toArray⟩),
    (fun v _ => v = .pointer (some ⟨g, 2, none⟩)),
    (fun v _ => v = .int .i64 ((vo : Nat) : Int)),
    (fun v _ => v = .int .u64 ((vo : Nat) : Int)),
    (fun v _ => v = .string ⟨(Pk.be vo 1).toArray⟩),
    (fun v _ => v = .string ⟨((([104, 97, 121, 109] ++ Pk.be d 2) ++ Pk.be l 2) ++ (Pk.be vo 1)).toArray⟩),
    (fun v _ => v = .pointer (some ⟨g, 3, none⟩)),
    (fun v _ => v = .int .i64 ((s : Nat) : Int)),
    (fun v _ => v = .int .u64 ((s : Nat) : Int)),
    (fun v _ => v = .string ⟨(Pk.be s 2).toArray⟩),
    (fun v _ => v = .string ⟨(((([104, 97, 121, 109] ++ Pk.be d 2) ++ Pk.be l 2) ++ Pk.be vo 1) ++ (Pk.be s 2)).toArray⟩),
    (fun v _ => v = .string ⟨(Lb.supE d l vo s).toArray⟩),
    (fun v _ => v = .string ⟨(Lb.supE d l vo s).toArray⟩)]
    (fun x => Below w0.heap.size w0 x) (by kernel_rfl) rfl (by kernel_rfl) ?_ ?_ ?_ ?_
  · exact hG0
  · exact ⟨stab_eq _, stab_eq _, stab_eq _, stab_eq _, stab_eq _, stab_eq _, stab_eq _, stab_eq _, stab_eq _, stab_eq _, stab_eq _, stab_eq _, stab_eq _, stab_eq _, stab_eq _, stab_eq _, stab_eq _, stab_eq _, stab_eq _, stab_eq _, stab_eq _, stab_eq _, trivial⟩
  · refine ⟨?_, ?_, ?_, ?_, ?_, ?_, ?_, ?_, ?_, ?_, ?_, ?_, ?_, ?_, ?_, ?_, ?_, ?_, ?_, ?_, ?_, ?_, trivial⟩
    · intro a x hG hd hs K hK
      have h1 : a.tmps.getD 1 undef = .pointer (some ⟨g, 0, none⟩) := hs 1 (by kernel_rfl)
      clear hd hs
      refine wpOp_plain rfl rfl ?_
      go_simp
      exact hK _ _ rfl hG (Below.refl _ _)
    · intro a x hG hd hs K hK
      have h3 : a.tmps.getD 3 undef = .pointer (some ⟨g, 0, none⟩) := hd 0 3 (by kernel_rfl)
      clear hd hs
      refine wpOp_plain rfl rfl ?_
      have hc : x.cell? ⟨g, 0, none⟩ = some (.int .i64 (d : Int)) := (hG.cell (p := ⟨g, 0, none⟩) hk.lt).trans (hk.cell 0)
      go_simp
      exact hK _ _ rfl hG (Below.refl _ _)
    · intro a x hG hd hs K hK
      have h4 : a.tmps.getD 4 undef = .int .i64 ((d : Nat) : Int) := hd 1 4 (by kernel_rfl)
      clear hd hs
      refine wpOp_plain rfl rfl ?_
      have hwr := u64_nat d (by omega)
      go_simp
      exact hK _ _ rfl hG (Below.refl _ _)
    · intro a x hG hd hs K hK
      have h5 : a.tmps.getD 5 undef = .int .u64 ((d : Nat) : Int) := hd 2 5 (by kernel_rfl)
      clear hd hs
      refine wpOp_plain rfl rfl ?_
      go_simp
      refine (rof_eq d 2 _ _ rfl rfl _ (by omega) (by omega)).mono ?_
      rintro e w' ⟨rfl, hb⟩
      exact hK _ _ rfl (hG.trans (hb.mono hG.size)) hb
    · intro a x hG hd hs K hK
      have h6 : a.tmps.getD 6 undef = .string ⟨(Pk.be d 2).toArray⟩ := hd 3 6 (by kernel_rfl)
      clear hd hs
      refine wpOp_plain rfl rfl ?_
      have hcat := run_cat ([104, 97, 121, 109]) (Pk.be d 2) (by simp [Pk.length_be])
      go_simp
      exact hK _ _ rfl hG (Below.refl _ _)
    · intro a x hG hd hs K hK
      have h1 : a.tmps.getD 1 undef = .pointer (some ⟨g, 0, none⟩) := hs 1 (by kernel_rfl)
      clear hd hs
      refine wpOp_plain rfl rfl ?_
      go_simp
      exact hK _ _ rfl hG (Below.refl _ _)
    · intro a x hG hd hs K hK
      have h8 : a.tmps.getD 8 undef = .pointer (some ⟨g, 1, none⟩) := hd 5 8 (by kernel_rfl)
      clear hd hs
      refine wpOp_plain rfl rfl ?_
      have hc : x.cell? ⟨g, 1, none⟩ = some (.int .i64 (l : Int)) := (hG.cell (p := ⟨g, 1, none⟩) hk.lt).trans (hk.cell 1)
      go_simp
      exact hK _ _ rfl hG (Below.refl _ _)
    · intro a x hG hd hs K hK
      have h9 : a.tmps.getD 9 undef = .int .i64 ((l : Nat) : Int) := hd 6 9 (by kernel_rfl)
      clear hd hs
      refine wpOp_plain rfl rfl ?_
      have hwr := u64_nat l (by omega)
      go_simp
      exact hK _ _ rfl hG (Below.refl _ _)
    · intro a x hG hd hs K hK
      have h10 : a.tmps.getD 10 undef = .int .u64 ((l : Nat) : Int) := hd 7 10 (by kernel_rfl)
      clear hd hs
      refine wpOp_plain rfl rfl ?_
      go_simp
      refine (rof_eq l 2 _ _ rfl rfl _ (by omega) (by omega)).mono ?_
      rintro e w' ⟨rfl, hb⟩
      exact hK _ _ rfl (hG.trans (hb.mono hG.size)) hb
    · intro a x hG hd hs K hK
      have h7 : a.tmps.getD 7 undef = .string ⟨(([104, 97, 121, 109]) ++ (Pk.be d 2)).toArray⟩ := hd 4 7 (by kernel_rfl)
      have h11 : a.tmps.getD 11 undef = .string ⟨(Pk.be l 2).toArray⟩ := hd 8 11 (by kernel_rfl)
      clear hd hs
      refine wpOp_plain rfl rfl ?_
      have hcat := run_cat ([104, 97, 121, 109] ++ Pk.be d 2) (Pk.be l 2) (by simp [Pk.length_be])
      go_simp
      exact hK _ _ rfl hG (Below.refl _ _)
    · intro a x hG hd hs K hK
      have h1 : a.tmps.getD 1 undef = .pointer (some ⟨g, 0, none⟩) := hs 1 (by kernel_rfl)
      clear hd hs
      refine wpOp_plain rfl rfl ?_
      go_simp
      exact hK _ _ rfl hG (Below.refl _ _)
    · intro a x hG hd hs K hK
      have h13 : a.tmps.getD 13 undef = .pointer (some ⟨g, 2, none⟩) := hd 10 13 (by kernel_rfl)
      clear hd hs
      refine wpOp_plain rfl rfl ?_
      have hc : x.cell? ⟨g, 2, none⟩ = some (.int .i64 (vo : Int)) := (hG.cell (p := ⟨g, 2, none⟩) hk.lt).trans (hk.cell 2)
      go_simp
      exact hK _ _ rfl hG (Below.refl _ _)
    · intro a x hG hd hs K hK
      have h14 : a.tmps.getD 14 undef = .int .i64 ((vo : Nat) : Int) := hd 11 14 (by kernel_rfl)
      clear hd hs
      refine wpOp_plain rfl rfl ?_
      have hwr := u64_nat vo (by omega)
      go_simp
      exact hK _ _ rfl hG (Below.refl _ _)
    · intro a x hG hd hs K hK
      have h15 : a.tmps.getD 15 undef = .int .u64 ((vo : Nat) : Int) := hd 12 15 (by kernel_rfl)
      clear hd hs
      refine wpOp_plain rfl rfl ?_
      go_simp
      refine (rof_eq vo 1 _ _ rfl rfl _ (by omega) (by omega)).mono ?_
      rintro e w' ⟨rfl, hb⟩
      exact hK _ _ rfl (hG.trans (hb.mono hG.size)) hb
    · intro a x hG hd hs K hK
      have h12 : a.tmps.getD 12 undef = .string ⟨(([104, 97, 121, 109] ++ Pk.be d 2) ++ (Pk.be l 2)).toArray⟩ := hd 9 12 (by kernel_rfl)
      have h16 : a.tmps.getD 16 undef = .string ⟨(Pk.be vo 1).toArray⟩ := hd 13 16 (by kernel_rfl)
      clear hd hs
      refine wpOp_plain rfl rfl ?_
      have hcat := run_cat (([104, 97, 121, 109] ++ Pk.be d 2) ++ Pk.be l 2) (Pk.be vo 1) (by simp [Pk.length_be])
      go_simp
      exact hK _ _ rfl hG (Below.refl _ _)
    · intro a x hG hd hs K hK
      have h1 : a.tmps.getD 1 undef = .pointer (some ⟨g, 0, none⟩) := hs 1 (by kernel_rfl)
      clear hd hs
      refine wpOp_plain rfl rfl ?_
      go_simp
      exact hK _ _ rfl hG (Below.refl _ _)
    · intro a x hG hd hs K hK
      have h18 : a.tmps.getD 18 undef = .pointer (some ⟨g, 3, none⟩) := hd 15 18 (by kernel_rfl)
      clear hd hs
      refine wpOp_plain rfl rfl ?_
      have hc : x.cell? ⟨g, 3, none⟩ = some (.int .i64 (s : Int)) := (hG.cell (p := ⟨g, 3, none⟩) hk.lt).trans (hk.cell 3)
      go_simp
      exact hK _ _ rfl hG (Below.refl _ _)
    · intro a x hG hd hs K hK
      have h19 : a.tmps.getD 19 undef = .int .i64 ((s : Nat) : Int) := hd 16 19 (by kernel_rfl)
      clear hd hs
      refine wpOp_plain rfl rfl ?_
      have hwr := u64_nat s (by omega)
      go_simp
      exact hK _ _ rfl hG (Below.refl _ _)
    · intro a x hG hd hs K hK
      have h20 : a.tmps.getD 20 undef = .int .u64 ((s : Nat) : Int) := hd 17 20 (by kernel_rfl)
      clear hd hs
      refine wpOp_plain rfl rfl ?_
      go_simp
      refine (rof_eq s 2 _ _ rfl rfl _ (by omega) (by omega)).mono ?_
      rintro e w' ⟨rfl, hb⟩
      exact hK _ _ rfl (hG.trans (hb.mono hG.size)) hb
    · intro a x hG hd hs K hK
      have h17 : a.tmps.getD 17 undef = .string ⟨((([104, 97, 121, 109] ++ Pk.be d 2) ++ Pk.be l 2) ++ (Pk.be vo 1)).toArray⟩ := hd 14 17 (by kernel_rfl)
      have h21 : a.tmps.getD 21 undef = .string ⟨(Pk.be s 2).toArray⟩ := hd 18 21 (by kernel_rfl)
      clear hd hs
      refine wpOp_plain rfl rfl ?_
      have hcat := run_cat ((([104, 97, 121, 109] ++ Pk.be d 2) ++ Pk.be l 2) ++ Pk.be vo 1) (Pk.be s 2) (by simp [Pk.length_be])
      go_simp
      exact hK _ _ rfl hG (Below.refl _ _)
    · intro a x hG hd hs K hK
      have h22 : a.tmps.getD 22 undef = .string ⟨(((([104, 97, 121, 109] ++ Pk.be d 2) ++ Pk.be l 2) ++ Pk.be vo 1) ++ (Pk.be s 2)).toArray⟩ := hd 19 22 (by kernel_rfl)
      clear hd hs
      refine wpOp_plain rfl rfl ?_
      go_simp
      rw [HB.out]
      refine (rseal_any _ _ (by rw [HL.out]; omega)).mono ?_
      rintro e w' ⟨rfl, hb⟩
      exact hK _ _ rfl (hG.trans (hb.mono hG.size)) hb
    · intro a x hG hd hs K hK
      have h23 : a.tmps.getD 23 undef = .string ⟨(Lb.supE d l vo s).toArray⟩ := hd 20 23 (by kernel_rfl)
      clear hd hs
      refine wpOp_plain rfl rfl ?_
      go_simp
      exact hK _ _ rfl hG (Below.refl _ _)
  · intro x hG
    rintro _ rfl _ rfl _ rfl _ rfl _ rfl _ rfl _ rfl _ rfl _ rfl _ rfl _ rfl _ rfl _ rfl _ rfl _ rfl _ rfl _ rfl _ rfl _ rfl _ rfl _ rfl _ rfl
    simp only [Act.put, List.setIfInBounds_toArray, List.set_cons_zero, List.set_cons_succ, REnd]
    try simp only [Exit.then]
    go_wp2
    go_ret
    exact ⟨rfl, by rw [HGG.out]; exact b0.trans (hG.mono hsz0)⟩

set_option maxRecDepth 100000 in
set_option maxHeartbeats 4000000 in
theorem rlabel_any (vo ge : Nat) (w : World) (hb : vo < 65536 ∧ ge < 4294967296) :
    Calls Tryd.prog 15 #[.int .i64 (vo : Int), .int .i64 (ge : Int)] w fun e w' => e = .returned (.string ⟨(Lb.labE vo ge).toArray⟩) ∧ Below w.heap.size w w' := by
  have HB := Lib.hid (lab_bytes vo ge)
  have HL := Lib.hid (Lb.labE_len vo ge)
  have hl1 := Pk.length_be vo 1
  have hl2 := Pk.length_be ge 4
  go_enter Tryd.func15, Tryd.ntmps15
  go_wp2_with fail
  refine (rof_eq vo 1 _ _ rfl rfl _ (by omega) (by omega)).mono ?_
  rintro e w1 ⟨rfl, b1⟩
  go_wp2_with fail
  refine (rof_eq ge 4 _ _ rfl rfl _ (by omega) (by omega)).mono ?_
  rintro e w2 ⟨rfl, b2⟩
  have c2 := b1.trans (b2.mono b1.size)
  go_wp2_with fail
  rw [show (⟨#[104, 118, 111, 108]⟩ : ByteArray) ++ ⟨(Pk.be vo 1).toArray⟩ ++ ⟨(Pk.be ge 4).toArray⟩ = ⟨(Pk.recs (Lb.labW.zip (Lb.labV vo ge))).toArray⟩ by
    rw [← HB.out, ba_append [104, 118, 111, 108] (Pk.be vo 1), ba_append]
    rfl]
  refine (rseal_any _ _ (by rw [HL.out]; omega)).mono ?_
  rintro e w3 ⟨rfl, b3⟩
  go_wp2
  go_ret
  exact ⟨rfl, c2.trans (b3.mono c2.size)⟩

set_option maxRecDepth 100000 in
set_option maxHeartbeats 4000000 in
theorem rreadSuper_any (w : World) (l : List UInt8) (hl : l.length ≤ 1000000) :
    Calls Tryd.prog 17 #[.string ⟨l.toArray⟩] w (SupIs l w) := by
  have HD := Lib.hid (Lb.rs_doc l)
  have hlt := Lb.f_lt l
  go_enter Tryd.func17, Tryd.ntmps17
  go_wp2_with fail
  have hk0 := Blk.new w 23 #[.int .i64 0, .int .i64 0, .int .i64 0, .int .i64 0]
  have b0 := (Below.refl w.heap.size w).alloc (Nat.le_refl _) (.cells #[.int .i64 0, .int .i64 0, .int .i64 0, .int .i64 0] 23)
  generalize w.alloc (.cells #[.int .i64 0, .int .i64 0, .int .i64 0, .int .i64 0] 23) = w0 at *
  refine (rheld_any _ l (by omega)).mono ?_
  rintro e w1 ⟨rfl, b1⟩
  have c1 := b0.trans (b1.mono b0.size)
  have hk1 := hk0.ext b1
  clear b0 b1 hk0
  cases hh : Crc.held l with
  | false =>
    rw [hh] at HD
    have HRS := Lib.hid (show Lb.rsErr l = 5 from HD.out)
    clear hh HD
    have y0 := hk1.cell 0
    have y1 := hk1.cell 1
    have y2 := hk1.cell 2
    have y3 := hk1.cell 3
    have f0 := hk1.frozen 0
    have f1 := hk1.frozen 1
    have f2 := hk1.frozen 2
    have f3 := hk1.frozen 3
    simp only [List.getElem?_cons_zero, List.getElem?_cons_succ] at y0 y1 y2 y3
    go_wp2
    have hf := (((hk1.set_ 0 (.int .i64 0)).set_ 1 (.int .i64 0)).set_ 2 (.int .i64 0)).set_ 3 (.int .i64 0)
    have cf := ((((c1.setCell (p := ⟨w.heap.size, 0, none⟩) (Nat.le_refl _) (.int .i64 0)).setCell (p := ⟨w.heap.size, 1, none⟩) (Nat.le_refl _) (.int .i64 0)).setCell (p := ⟨w.heap.size, 2, none⟩) (Nat.le_refl _) (.int .i64 0)).setCell (p := ⟨w.heap.size, 3, none⟩) (Nat.le_refl _) (.int .i64 0))
    generalize (((w1.setCell ⟨w.heap.size, 0, none⟩ (.int .i64 0)).setCell ⟨w.heap.size, 1, none⟩ (.int .i64 0)).setCell ⟨w.heap.size, 2, none⟩ (.int .i64 0)).setCell ⟨w.heap.size, 3, none⟩ (.int .i64 0) = WF at *
    have p0 := hf.cell 0
    have p1 := hf.cell 1
    have p2 := hf.cell 2
    have p3 := hf.cell 3
    simp only [List.set_cons_zero, List.set_cons_succ, List.getElem?_cons_zero, List.getElem?_cons_succ] at p0 p1 p2 p3
    refine bodyPost_ret (v := .tuple #[.agg #[.int .i64 0, .int .i64 0, .int .i64 0, .int .i64 0], .int .i64 5]) (by simp [results, Tryd.results17, go_sem, p0, p1, p2, p3]) rfl ?_
    exact ⟨_, _, _, _, by rw [HRS.out]; rfl, .inr ⟨by rw [HRS.out]; decide, rfl, rfl, rfl, rfl⟩, cf⟩
  | true =>
    rw [hh, if_pos rfl] at HD
    have hlen := Cd.held_len hh
    have hl1 : 128 ≤ l.length := by omega
    clear hh hlen
    go_wp2_with fail
    refine (rget_eq _ l 4 2 _ _ rfl rfl (by omega) (by omega) (by omega)).mono ?_
    rintro e w' ⟨rfl, rfl⟩
    rw [show Pk.val ((l.drop 4).take 2) = Lb.fa l from rfl]
    generalize hA : Lb.fa l = fa at *
    go_wp2_with fail
    refine (rget_eq _ l 6 2 _ _ rfl rfl (by omega) (by omega) (by omega)).mono ?_
    rintro e w' ⟨rfl, rfl⟩
    rw [show Pk.val ((l.drop 6).take 2) = Lb.fb l from rfl]
    generalize hB : Lb.fb l = fb at *
    go_wp2_with fail
    refine (rget_eq _ l 8 1 _ _ rfl rfl (by omega) (by omega) (by omega)).mono ?_
    rintro e w' ⟨rfl, rfl⟩
    rw [show Pk.val ((l.drop 8).take 1) = Lb.fc l from rfl]
    generalize hC : Lb.fc l = fc at *
    go_wp2_with fail
    refine (rget_eq _ l 9 2 _ _ rfl rfl (by omega) (by omega) (by omega)).mono ?_
    rintro e w' ⟨rfl, rfl⟩
    rw [show Pk.val ((l.drop 9).take 2) = Lb.fd l from rfl]
    generalize hDD : Lb.fd l = fd at *
    have HA := Lib.hid hA
    have HB := Lib.hid hB
    have HC := Lib.hid hC
    have HDD := Lib.hid hDD
    clear hA hB hC hDD
    go_wp2_with fail
    have hk3 := Blk.new w1 23 #[.int .i64 (fa : Int), .int .i64 (fb : Int), .int .i64 (fc : Int), .int .i64 (fd : Int)]
    have hr3 := hk1.alloc (.cells #[.int .i64 (fa : Int), .int .i64 (fb : Int), .int .i64 (fc : Int), .int .i64 (fd : Int)] 23)
    have c3 := c1.alloc c1.size (.cells #[.int .i64 (fa : Int), .int .i64 (fb : Int), .int .i64 (fc : Int), .int .i64 (fd : Int)] 23)
    generalize w1.alloc (.cells #[.int .i64 (fa : Int), .int .i64 (fb : Int), .int .i64 (fc : Int), .int .i64 (fd : Int)] 23) = W at *
    refine (rgeo_any fa fb fc fd _ (by omega)).mono ?_
    rintro e w3 ⟨rfl, b3⟩
    have hk4 := hk3.ext b3
    have hr4 := hr3.ext b3
    have c4 := c3.trans (b3.mono c3.size)
    clear hk3 hr3 b3 c3 hk1 c1
    have x0 := hk4.cell 0
    have x1 := hk4.cell 1
    have x2 := hk4.cell 2
    have x3 := hk4.cell 3
    have y0 := hr4.cell 0
    have y1 := hr4.cell 1
    have y2 := hr4.cell 2
    have y3 := hr4.cell 3
    have f0 := hr4.frozen 0
    have f1 := hr4.frozen 1
    have f2 := hr4.frozen 2
    have f3 := hr4.frozen 3
    simp only [List.getElem?_cons_zero, List.getElem?_cons_succ] at x0 x1 x2 x3 y0 y1 y2 y3
    cases hg : Lb.geoB fa fb fc fd with
    | false =>
      have HRS := Lib.hid (show Lb.rsErr l = 3 by have := HD.out; rw [hg] at this; simpa using this)
      clear hg HD
      go_wp2
      have hf := (((hr4.set_ 0 (.int .i64 0)).set_ 1 (.int .i64 0)).set_ 2 (.int .i64 0)).set_ 3 (.int .i64 0)
      have cf := ((((c4.setCell (p := ⟨w.heap.size, 0, none⟩) (Nat.le_refl _) (.int .i64 0)).setCell (p := ⟨w.heap.size, 1, none⟩) (Nat.le_refl _) (.int .i64 0)).setCell (p := ⟨w.heap.size, 2, none⟩) (Nat.le_refl _) (.int .i64 0)).setCell (p := ⟨w.heap.size, 3, none⟩) (Nat.le_refl _) (.int .i64 0))
      generalize (((w3.setCell ⟨w.heap.size, 0, none⟩ (.int .i64 0)).setCell ⟨w.heap.size, 1, none⟩ (.int .i64 0)).setCell ⟨w.heap.size, 2, none⟩ (.int .i64 0)).setCell ⟨w.heap.size, 3, none⟩ (.int .i64 0) = WF at *
      have p0 := hf.cell 0
      have p1 := hf.cell 1
      have p2 := hf.cell 2
      have p3 := hf.cell 3
      simp only [List.set_cons_zero, List.set_cons_succ, List.getElem?_cons_zero, List.getElem?_cons_succ] at p0 p1 p2 p3
      refine bodyPost_ret (v := .tuple #[.agg #[.int .i64 0, .int .i64 0, .int .i64 0, .int .i64 0], .int .i64 3]) (by simp [results, Tryd.results17, go_sem, p0, p1, p2, p3]) rfl ?_
      exact ⟨_, _, _, _, by rw [HRS.out]; rfl, .inr ⟨by rw [HRS.out]; decide, rfl, rfl, rfl, rfl⟩, cf⟩
    | true =>
      have HRS0 := Lib.hid (show Lb.rsErr l = if Lb.supE fa fb fc fd = l then 0 else 3 by have := HD.out; rw [hg] at this; simpa using this)
      clear hg HD
      go_wp2_with fail
      refine (rsuper_any fa fb fc fd _ (by omega)).mono ?_
      rintro e w4 ⟨rfl, b4⟩
      have hk5 := hk4.ext b4
      have hr5 := hr4.ext b4
      have c5 := c4.trans (b4.mono c4.size)
      clear hk4 hr4 c4 b4 x0 x1 x2 x3 y0 y1 y2 y3 f0 f1 f2 f3
      have x0 := hk5.cell 0
      have x1 := hk5.cell 1
      have x2 := hk5.cell 2
      have x3 := hk5.cell 3
      have y0 := hr5.cell 0
      have y1 := hr5.cell 1
      have y2 := hr5.cell 2
      have y3 := hr5.cell 3
      have f0 := hr5.frozen 0
      have f1 := hr5.frozen 1
      have f2 := hr5.frozen 2
      have f3 := hr5.frozen 3
      simp only [List.getElem?_cons_zero, List.getElem?_cons_succ] at x0 x1 x2 x3 y0 y1 y2 y3
      have hse : ((⟨(Lb.supE fa fb fc fd).toArray⟩ : ByteArray).toList == (⟨l.toArray⟩ : ByteArray).toList) = (Lb.supE fa fb fc fd == l) := by rw [ByteArray.toList_eq, ByteArray.toList_eq]
      by_cases he : Lb.supE fa fb fc fd = l
      · rw [if_pos he] at HRS0
        have HRS := HRS0
        rw [show (Lb.supE fa fb fc fd == l) = true by rw [he]; simp] at hse
        generalize (⟨(Lb.supE fa fb fc fd).toArray⟩ : ByteArray) = S1 at *
        generalize (⟨l.toArray⟩ : ByteArray) = S2 at *
        clear he HRS0
        go_wp2
        have hf := (((hr5.set_ 0 (.int .i64 (fa : Int))).set_ 1 (.int .i64 (fb : Int))).set_ 2 (.int .i64 (fc : Int))).set_ 3 (.int .i64 (fd : Int))
        have cf := ((((c5.setCell (p := ⟨w.heap.size, 0, none⟩) (Nat.le_refl _) (.int .i64 (fa : Int))).setCell (p := ⟨w.heap.size, 1, none⟩) (Nat.le_refl _) (.int .i64 (fb : Int))).setCell (p := ⟨w.heap.size, 2, none⟩) (Nat.le_refl _) (.int .i64 (fc : Int))).setCell (p := ⟨w.heap.size, 3, none⟩) (Nat.le_refl _) (.int .i64 (fd : Int)))
        generalize (((w4.setCell ⟨w.heap.size, 0, none⟩ (.int .i64 (fa : Int))).setCell ⟨w.heap.size, 1, none⟩ (.int .i64 (fb : Int))).setCell ⟨w.heap.size, 2, none⟩ (.int .i64 (fc : Int))).setCell ⟨w.heap.size, 3, none⟩ (.int .i64 (fd : Int)) = WF at *
        have p0 := hf.cell 0
        have p1 := hf.cell 1
        have p2 := hf.cell 2
        have p3 := hf.cell 3
        simp only [List.set_cons_zero, List.set_cons_succ, List.getElem?_cons_zero, List.getElem?_cons_succ] at p0 p1 p2 p3
        refine bodyPost_ret (v := .tuple #[.agg #[.int .i64 (fa : Int), .int .i64 (fb : Int), .int .i64 (fc : Int), .int .i64 (fd : Int)], .int .i64 0]) (by simp [results, Tryd.results17, go_sem, p0, p1, p2, p3]) rfl ?_
        exact ⟨_, _, _, _, by rw [HRS.out]; rfl, .inl ⟨HRS.out, by rw [HA.out], by rw [HB.out], by rw [HC.out], by rw [HDD.out]⟩, cf⟩
      · rw [if_neg he] at HRS0
        have HRS := HRS0
        rw [show (Lb.supE fa fb fc fd == l) = false by rw [beq_eq_false_iff_ne]; exact he] at hse
        generalize (⟨(Lb.supE fa fb fc fd).toArray⟩ : ByteArray) = S1 at *
        generalize (⟨l.toArray⟩ : ByteArray) = S2 at *
        clear he HRS0
        go_wp2
        have hf := (((hr5.set_ 0 (.int .i64 0)).set_ 1 (.int .i64 0)).set_ 2 (.int .i64 0)).set_ 3 (.int .i64 0)
        have cf := ((((c5.setCell (p := ⟨w.heap.size, 0, none⟩) (Nat.le_refl _) (.int .i64 0)).setCell (p := ⟨w.heap.size, 1, none⟩) (Nat.le_refl _) (.int .i64 0)).setCell (p := ⟨w.heap.size, 2, none⟩) (Nat.le_refl _) (.int .i64 0)).setCell (p := ⟨w.heap.size, 3, none⟩) (Nat.le_refl _) (.int .i64 0))
        generalize (((w4.setCell ⟨w.heap.size, 0, none⟩ (.int .i64 0)).setCell ⟨w.heap.size, 1, none⟩ (.int .i64 0)).setCell ⟨w.heap.size, 2, none⟩ (.int .i64 0)).setCell ⟨w.heap.size, 3, none⟩ (.int .i64 0) = WF at *
        have p0 := hf.cell 0
        have p1 := hf.cell 1
        have p2 := hf.cell 2
        have p3 := hf.cell 3
        simp only [List.set_cons_zero, List.set_cons_succ, List.getElem?_cons_zero, List.getElem?_cons_succ] at p0 p1 p2 p3
        refine bodyPost_ret (v := .tuple #[.agg #[.int .i64 0, .int .i64 0, .int .i64 0, .int .i64 0], .int .i64 3]) (by simp [results, Tryd.results17, go_sem, p0, p1, p2, p3]) rfl ?_
        exact ⟨_, _, _, _, by rw [HRS.out]; rfl, .inr ⟨by rw [HRS.out]; decide, rfl, rfl, rfl, rfl⟩, cf⟩

set_option maxRecDepth 100000 in
set_option maxHeartbeats 4000000 in
theorem rreadLabel_any (w : World) (l : List UInt8) (hl : l.length ≤ 1000000) :
    Calls Tryd.prog 18 #[.string ⟨l.toArray⟩] w (LabIs l w) := by
  have HD := Lib.hid (Lb.rl_doc l)
  have hlt := Lb.g_lt l
  go_enter Tryd.func18, Tryd.ntmps18
  go_wp2_with fail
  refine (rheld_any _ l (by omega)).mono ?_
  rintro e w1 ⟨rfl, b1⟩
  cases hh : Crc.held l with
  | false =>
    rw [hh] at HD
    have HRS := Lib.hid (show Lb.rlErr l = 5 from HD.out)
    clear hh HD
    go_wp2
    go_ret3
    exact ⟨_, _, by rw [HRS.out]; rfl, .inr ⟨by rw [HRS.out]; decide, rfl, rfl⟩, b1⟩
  | true =>
    rw [hh, if_pos rfl] at HD
    have hlen := Cd.held_len hh
    have hl1 : 128 ≤ l.length := by omega
    clear hh hlen
    go_wp2_with fail
    refine (rget_eq _ l 4 1 _ _ rfl rfl (by omega) (by omega) (by omega)).mono ?_
    rintro e w' ⟨rfl, rfl⟩
    rw [show Pk.val ((l.drop 4).take 1) = Lb.ga l from rfl]
    generalize hA : Lb.ga l = fa at *
    go_wp2_with fail
    refine (rget_eq _ l 5 4 _ _ rfl rfl (by omega) (by omega) (by omega)).mono ?_
    rintro e w' ⟨rfl, rfl⟩
    rw [show Pk.val ((l.drop 5).take 4) = Lb.gb l from rfl]
    generalize hB : Lb.gb l = fb at *
    have HA := Lib.hid hA
    have HB := Lib.hid hB
    clear hA hB
    go_wp2_with fail
    refine (rlab_any fa fb _).mono ?_
    rintro e w' ⟨rfl, rfl⟩
    cases hg : Lb.labB fa fb with
    | false =>
      have HRS := Lib.hid (show Lb.rlErr l = 3 by have := HD.out; rw [hg] at this; simpa using this)
      clear hg HD
      go_wp2
      go_ret3
      exact ⟨_, _, by rw [HRS.out]; rfl, .inr ⟨by rw [HRS.out]; decide, rfl, rfl⟩, b1⟩
    | true =>
      have HRS0 := Lib.hid (show Lb.rlErr l = if Lb.labE fa fb = l then 0 else 3 by have := HD.out; rw [hg] at this; simpa using this)
      clear hg HD
      go_wp2_with fail
      refine (rlabel_any fa fb _ (by omega)).mono ?_
      rintro e w4 ⟨rfl, b4⟩
      have c5 := b1.trans (b4.mono b1.size)
      have hse : ((⟨(Lb.labE fa fb).toArray⟩ : ByteArray).toList == (⟨l.toArray⟩ : ByteArray).toList) = (Lb.labE fa fb == l) := by rw [ByteArray.toList_eq, ByteArray.toList_eq]
      by_cases he : Lb.labE fa fb = l
      · rw [if_pos he] at HRS0
        have HRS := HRS0
        rw [show (Lb.labE fa fb == l) = true by rw [he]; simp] at hse
        generalize (⟨(Lb.labE fa fb).toArray⟩ : ByteArray) = S1 at *
        generalize (⟨l.toArray⟩ : ByteArray) = S2 at *
        clear he HRS0
        go_wp2
        go_ret3
        exact ⟨_, _, by rw [HRS.out]; rfl, .inl ⟨HRS.out, by rw [HA.out], by rw [HB.out]⟩, c5⟩
      · rw [if_neg he] at HRS0
        have HRS := HRS0
        rw [show (Lb.labE fa fb == l) = false by rw [beq_eq_false_iff_ne]; exact he] at hse
        generalize (⟨(Lb.labE fa fb).toArray⟩ : ByteArray) = S1 at *
        generalize (⟨l.toArray⟩ : ByteArray) = S2 at *
        clear he HRS0
        go_wp2
        go_ret3
        exact ⟨_, _, by rw [HRS.out]; rfl, .inr ⟨by rw [HRS.out]; decide, rfl, rfl⟩, c5⟩
end Go.Proofs.YtmcgadhahhfflaaDoor
