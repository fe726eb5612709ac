/-
  The walks of the document's answers of layer 7, third part: Encode. By an AI agent.
-/
import Derived.Test.YtmabdbleakolbaaDoorInodeS
namespace Go.Proofs.YtmabdbleakolbaaDoor
open Go.RowKit Go.ChangeShapes Go.WideShapes Go.ChangeAt

theorem in_bytes (i t l v s k : Nat) (ps : List (Int × Nat)) (h : ps.length = 9) : Nd.inE i ⟨t, l, v, s, k, ps⟩ = Crc.sealed ((((((([105, 110, 111, 100] ++ Pk.be i 1) ++ Pk.be t 1) ++ Pk.be l 1) ++ Pk.be v 4) ++ Pk.be s 6) ++ Pk.be k 4) ++ Pk.recs (pN ps)) := by
  unfold Nd.inE Nd.inW Nd.inV
  rw [Nd.zip_app _ _ _ _ rfl, recs_app, show (Nd.pW 9).zip (Nd.pV ps) = pN ps by unfold pN; rw [h]]
  congr 2
theorem acc_len (i t l v s k : Nat) : (((((([105, 110, 111, 100] ++ Pk.be i 1) ++ Pk.be t 1) ++ Pk.be l 1) ++ Pk.be v 4) ++ Pk.be s 6) ++ Pk.be k 4).length = 21 := by simp [Pk.length_be]

set_option maxRecDepth 100000 in
set_option maxHeartbeats 4000000 in
theorem rencode_nat (i t l v s k : Nat) (ps : List (Int × Nat)) (w : World) (hp : ps.length = 9) (ha : ps.all Nd.ptrB = true) (hs : ∀ p ∈ ps, p.2 < 4294967296) (hi : i < 281474976710656) (ht : t < 281474976710656) (hl : l < 281474976710656) (hv : v < 281474976710656) (hss : s < 281474976710656) (hkk : k < 281474976710656) :
    Calls Tryd.prog 13 #[.int .i64 (i : Int), iagg ⟨t, l, v, s, k, ps⟩] w fun e w' => e = .returned (.string ⟨(Nd.inE i ⟨t, l, v, s, k, ps⟩).toArray⟩) ∧ Below w.heap.size w w' := by
  have HE := Lib.hid (in_bytes i t l v s k ps hp)
  have HL0 := Lib.hid (acc_len i t l v s k)
  have HLN := Lib.hid (recs_pN_len ps)
  have HAL := Lib.hid ha
  have hl1 : 9 ≤ ps.length := by omega
  have hl2 : ps.length ≤ 9 := by omega
  unfold iagg
  go_enter Tryd.func13, Tryd.ntmps13
  go_wp2_with fail
  have hk := Blk.new w 27 (icells ⟨t, l, v, s, k, ps⟩).toArray
  have b0 := (Below.refl w.heap.size w).alloc (Nat.le_refl _) (.cells (icells ⟨t, l, v, s, k, ps⟩).toArray 27)
  change Blk _ _ _ (icells ⟨t, l, v, s, k, ps⟩) at hk
  generalize w.alloc (.cells (icells ⟨t, l, v, s, k, ps⟩).toArray 27) = w0 at *
  generalize hg : w.heap.size = g at hk b0 ⊢
  have HGG := Lib.hid hg
  clear hg
  have HPC := Lib.hid (hk.ptrs hp).cells
  have hgl := hk.lt
  clear hp ha
  have hG0 : Below w0.heap.size w0 w0.drew := (Below.refl _ _).drew
  refine wp_region_list 30 [(fun y_ _ => y_ = .int .i64 (i : Int)),
    (fun y_ _ => y_ = .int .u64 (i : Int)),
    (fun y_ _ => y_ = .string ⟨(Pk.be i 1).toArray⟩),
    (fun y_ _ => y_ = .string ⟨([105, 110, 111, 100] ++ Pk.be i 1).toArray⟩),
    (fun y_ _ => y_ = .pointer (some ⟨g, 0, none⟩)),
    (fun y_ _ => y_ = .int .i64 (t : Int)),
    (fun y_ _ => y_ = .int .u64 (t : Int)),
    (fun y_ _ => y_ = .string ⟨(Pk.be t 1).toArray⟩),
    (fun y_ _ => y_ = .string ⟨(([105, 110, 111, 100] ++ Pk.be i 1) ++ Pk.be t 1).toArray⟩),
    (fun y_ _ => y_ = .pointer (some ⟨g, 1, none⟩)),
    (fun y_ _ => y_ = .int .i64 (l : Int)),
    (fun y_ _ => y_ = .int .u64 (l : Int)),
    (fun y_ _ => y_ = .string ⟨(Pk.be l 1).toArray⟩),
    (fun y_ _ => y_ = .string ⟨((([105, 110, 111, 100] ++ Pk.be i 1) ++ Pk.be t 1) ++ Pk.be l 1).toArray⟩),
    (fun y_ _ => y_ = .pointer (some ⟨g, 2, none⟩)),
    (fun y_ _ => y_ = .int .i64 (v : Int)),
    (fun y_ _ => y_ = .int .u64 (v : Int)),
    (fun y_ _ => y_ = .string ⟨(Pk.be v 4).toArray⟩),
    (fun y_ _ => y_ = .string ⟨(((([105, 110, 111, 100] ++ Pk.be i 1) ++ Pk.be t 1) ++ Pk.be l 1) ++ Pk.be v 4).toArray⟩),
    (fun y_ _ => y_ = .pointer (some ⟨g, 3, none⟩)),
    (fun y_ _ => y_ = .int .i64 (s : Int)),
    (fun y_ _ => y_ = .int .u64 (s : Int)),
    (fun y_ _ => y_ = .string ⟨(Pk.be s 6).toArray⟩),
    (fun y_ _ => y_ = .string ⟨((((([105, 110, 111, 100] ++ Pk.be i 1) ++ Pk.be t 1) ++ Pk.be l 1) ++ Pk.be v 4) ++ Pk.be s 6).toArray⟩),
    (fun y_ _ => y_ = .pointer (some ⟨g, 4, none⟩)),
    (fun y_ _ => y_ = .int .i64 (k : Int)),
    (fun y_ _ => y_ = .int .u64 (k : Int)),
    (fun y_ _ => y_ = .string ⟨(Pk.be k 4).toArray⟩),
    (fun y_ _ => y_ = .string ⟨(((((([105, 110, 111, 100] ++ Pk.be i 1) ++ Pk.be t 1) ++ Pk.be l 1) ++ Pk.be v 4) ++ Pk.be s 6) ++ Pk.be k 4).toArray⟩),
    (fun y_ _ => y_ = .string ⟨(((((([105, 110, 111, 100] ++ Pk.be i 1) ++ Pk.be t 1) ++ Pk.be l 1) ++ Pk.be v 4) ++ Pk.be s 6) ++ Pk.be k 4).toArray⟩)]
    (fun x => Below w0.heap.size w0 x) (by kernel_rfl) rfl (by kernel_rfl) ?_ ?_ ?_ ?_
  · exact hG0
  · exact ⟨stab_eq _, stab_eq _, stab_eq _, stab_eq _, stab_eq _, stab_eq _, stab_eq _, stab_eq _, stab_eq _, stab_eq _, stab_eq _, stab_eq _, stab_eq _, stab_eq _, stab_eq _, stab_eq _, stab_eq _, stab_eq _, stab_eq _, stab_eq _, stab_eq _, stab_eq _, stab_eq _, stab_eq _, stab_eq _, stab_eq _, stab_eq _, stab_eq _, stab_eq _, stab_eq _, trivial⟩
  · refine ⟨?_, ?_, ?_, ?_, ?_, ?_, ?_, ?_, ?_, ?_, ?_, ?_, ?_, ?_, ?_, ?_, ?_, ?_, ?_, ?_, ?_, ?_, ?_, ?_, ?_, ?_, ?_, ?_, ?_, ?_, trivial⟩
    · intro a x hG hd hs K hK
      have h0 : a.tmps.getD 0 undef = .int .i64 (i : Int) := hs 0 (by kernel_rfl)
      clear hd hs
      refine wpOp_plain rfl rfl ?_
      go_simp
      exact hK _ _ rfl hG (Below.refl _ _)
    · intro a x hG hd hs K hK
      have h7 : a.tmps.getD 7 undef = .int .i64 (i : Int) := hd 0 7 (by kernel_rfl)
      clear hd hs
      refine wpOp_plain rfl rfl ?_
      have hwr : IntKind.u64.wrap (i : Int) = i := IntWalk.u64_in _ (by omega)
      go_simp
      exact hK _ _ rfl hG (Below.refl _ _)
    · intro a x hG hd hs K hK
      have h8 : a.tmps.getD 8 undef = .int .u64 (i : Int) := hd 1 8 (by kernel_rfl)
      clear hd hs
      refine wpOp_plain rfl rfl ?_
      go_simp
      refine (rof_eq i 1 _ _ rfl rfl _ (by omega) (by omega)).mono ?_
      rintro e w' ⟨rfl, hb⟩
      exact hK _ _ rfl (hG.trans (hb.mono hG.size)) hb
    · intro a x hG hd hs K hK
      have h9 : a.tmps.getD 9 undef = .string ⟨(Pk.be i 1).toArray⟩ := hd 2 9 (by kernel_rfl)
      clear hd hs
      refine wpOp_plain rfl rfl ?_
      have hcat := run_cat ([105, 110, 111, 100]) (Pk.be i 1) (by simp [Pk.length_be])
      go_simp
      exact hK _ _ rfl hG (Below.refl _ _)
    · intro a x hG hd hs K hK
      have h3 : a.tmps.getD 3 undef = .pointer (some ⟨g, 0, none⟩) := hs 3 (by kernel_rfl)
      clear hd hs
      refine wpOp_plain rfl rfl ?_
      go_simp
      exact hK _ _ rfl hG (Below.refl _ _)
    · intro a x hG hd hs K hK
      have h11 : a.tmps.getD 11 undef = .pointer (some ⟨g, 0, none⟩) := hd 4 11 (by kernel_rfl)
      clear hd hs
      refine wpOp_plain rfl rfl ?_
      have x0 := (hk.ext hG).cell 0
      unfold icells at x0
      simp only [List.getElem?_cons_zero] at x0
      go_simp
      exact hK _ _ rfl hG (Below.refl _ _)
    · intro a x hG hd hs K hK
      have h12 : a.tmps.getD 12 undef = .int .i64 (t : Int) := hd 5 12 (by kernel_rfl)
      clear hd hs
      refine wpOp_plain rfl rfl ?_
      have hwr : IntKind.u64.wrap (t : Int) = t := IntWalk.u64_in _ (by omega)
      go_simp
      exact hK _ _ rfl hG (Below.refl _ _)
    · intro a x hG hd hs K hK
      have h13 : a.tmps.getD 13 undef = .int .u64 (t : Int) := hd 6 13 (by kernel_rfl)
      clear hd hs
      refine wpOp_plain rfl rfl ?_
      go_simp
      refine (rof_eq t 1 _ _ rfl rfl _ (by omega) (by omega)).mono ?_
      rintro e w' ⟨rfl, hb⟩
      exact hK _ _ rfl (hG.trans (hb.mono hG.size)) hb
    · intro a x hG hd hs K hK
      have h10 : a.tmps.getD 10 undef = .string ⟨([105, 110, 111, 100] ++ Pk.be i 1).toArray⟩ := hd 3 10 (by kernel_rfl)
      have h14 : a.tmps.getD 14 undef = .string ⟨(Pk.be t 1).toArray⟩ := hd 7 14 (by kernel_rfl)
      clear hd hs
      refine wpOp_plain rfl rfl ?_
      have hcat := run_cat ([105, 110, 111, 100] ++ Pk.be i 1) (Pk.be t 1) (by simp [Pk.length_be])
      go_simp
      exact hK _ _ rfl hG (Below.refl _ _)
    · intro a x hG hd hs K hK
      have h3 : a.tmps.getD 3 undef = .pointer (some ⟨g, 0, none⟩) := hs 3 (by kernel_rfl)
      clear hd hs
      refine wpOp_plain rfl rfl ?_
      go_simp
      exact hK _ _ rfl hG (Below.refl _ _)
    · intro a x hG hd hs K hK
      have h16 : a.tmps.getD 16 undef = .pointer (some ⟨g, 1, none⟩) := hd 9 16 (by kernel_rfl)
      clear hd hs
      refine wpOp_plain rfl rfl ?_
      have x0 := (hk.ext hG).cell 1
      unfold icells at x0
      simp only [List.getElem?_cons_zero, List.getElem?_cons_succ] at x0
      go_simp
      exact hK _ _ rfl hG (Below.refl _ _)
    · intro a x hG hd hs K hK
      have h17 : a.tmps.getD 17 undef = .int .i64 (l : Int) := hd 10 17 (by kernel_rfl)
      clear hd hs
      refine wpOp_plain rfl rfl ?_
      have hwr : IntKind.u64.wrap (l : Int) = l := IntWalk.u64_in _ (by omega)
      go_simp
      exact hK _ _ rfl hG (Below.refl _ _)
    · intro a x hG hd hs K hK
      have h18 : a.tmps.getD 18 undef = .int .u64 (l : Int) := hd 11 18 (by kernel_rfl)
      clear hd hs
      refine wpOp_plain rfl rfl ?_
      go_simp
      refine (rof_eq l 1 _ _ rfl rfl _ (by omega) (by omega)).mono ?_
      rintro e w' ⟨rfl, hb⟩
      exact hK _ _ rfl (hG.trans (hb.mono hG.size)) hb
    · intro a x hG hd hs K hK
      have h15 : a.tmps.getD 15 undef = .string ⟨(([105, 110, 111, 100] ++ Pk.be i 1) ++ Pk.be t 1).toArray⟩ := hd 8 15 (by kernel_rfl)
      have h19 : a.tmps.getD 19 undef = .string ⟨(Pk.be l 1).toArray⟩ := hd 12 19 (by kernel_rfl)
      clear hd hs
      refine wpOp_plain rfl rfl ?_
      have hcat := run_cat (([105, 110, 111, 100] ++ Pk.be i 1) ++ Pk.be t 1) (Pk.be l 1) (by simp [Pk.length_be])
      go_simp
      exact hK _ _ rfl hG (Below.refl _ _)
    · intro a x hG hd hs K hK
      have h3 : a.tmps.getD 3 undef = .pointer (some ⟨g, 0, none⟩) := hs 3 (by kernel_rfl)
      clear hd hs
      refine wpOp_plain rfl rfl ?_
      go_simp
      exact hK _ _ rfl hG (Below.refl _ _)
    · intro a x hG hd hs K hK
      have h21 : a.tmps.getD 21 undef = .pointer (some ⟨g, 2, none⟩) := hd 14 21 (by kernel_rfl)
      clear hd hs
      refine wpOp_plain rfl rfl ?_
      have x0 := (hk.ext hG).cell 2
      unfold icells at x0
      simp only [List.getElem?_cons_zero, List.getElem?_cons_succ] at x0
      go_simp
      exact hK _ _ rfl hG (Below.refl _ _)
    · intro a x hG hd hs K hK
      have h22 : a.tmps.getD 22 undef = .int .i64 (v : Int) := hd 15 22 (by kernel_rfl)
      clear hd hs
      refine wpOp_plain rfl rfl ?_
      have hwr : IntKind.u64.wrap (v : Int) = v := IntWalk.u64_in _ (by omega)
      go_simp
      exact hK _ _ rfl hG (Below.refl _ _)
    · intro a x hG hd hs K hK
      have h23 : a.tmps.getD 23 undef = .int .u64 (v : Int) := hd 16 23 (by kernel_rfl)
      clear hd hs
      refine wpOp_plain rfl rfl ?_
      go_simp
      refine (rof_eq v 4 _ _ rfl rfl _ (by omega) (by omega)).mono ?_
      rintro e w' ⟨rfl, hb⟩
      exact hK _ _ rfl (hG.trans (hb.mono hG.size)) hb
    · intro a x hG hd hs K hK
      have h20 : a.tmps.getD 20 undef = .string ⟨((([105, 110, 111, 100] ++ Pk.be i 1) ++ Pk.be t 1) ++ Pk.be l 1).toArray⟩ := hd 13 20 (by kernel_rfl)
      have h24 : a.tmps.getD 24 undef = .string ⟨(Pk.be v 4).toArray⟩ := hd 17 24 (by kernel_rfl)
      clear hd hs
      refine wpOp_plain rfl rfl ?_
      have hcat := run_cat ((([105, 110, 111, 100] ++ Pk.be i 1) ++ Pk.be t 1) ++ Pk.be l 1) (Pk.be v 4) (by simp [Pk.length_be])
      go_simp
      exact hK _ _ rfl hG (Below.refl _ _)
    · intro a x hG hd hs K hK
      have h3 : a.tmps.getD 3 undef = .pointer (some ⟨g, 0, none⟩) := hs 3 (by kernel_rfl)
      clear hd hs
      refine wpOp_plain rfl rfl ?_
      go_simp
      exact hK _ _ rfl hG (Below.refl _ _)
    · intro a x hG hd hs K hK
      have h26 : a.tmps.getD 26 undef = .pointer (some ⟨g, 3, none⟩) := hd 19 26 (by kernel_rfl)
      clear hd hs
      refine wpOp_plain rfl rfl ?_
      have x0 := (hk.ext hG).cell 3
      unfold icells at x0
      simp only [List.getElem?_cons_zero, List.getElem?_cons_succ] at x0
      go_simp
      exact hK _ _ rfl hG (Below.refl _ _)
    · intro a x hG hd hs K hK
      have h27 : a.tmps.getD 27 undef = .int .i64 (s : Int) := hd 20 27 (by kernel_rfl)
      clear hd hs
      refine wpOp_plain rfl rfl ?_
      have hwr : IntKind.u64.wrap (s : Int) = s := IntWalk.u64_in _ (by omega)
      go_simp
      exact hK _ _ rfl hG (Below.refl _ _)
    · intro a x hG hd hs K hK
      have h28 : a.tmps.getD 28 undef = .int .u64 (s : Int) := hd 21 28 (by kernel_rfl)
      clear hd hs
      refine wpOp_plain rfl rfl ?_
      go_simp
      refine (rof_eq s 6 _ _ rfl rfl _ (by omega) (by omega)).mono ?_
      rintro e w' ⟨rfl, hb⟩
      exact hK _ _ rfl (hG.trans (hb.mono hG.size)) hb
    · intro a x hG hd hs K hK
      have h25 : a.tmps.getD 25 undef = .string ⟨(((([105, 110, 111, 100] ++ Pk.be i 1) ++ Pk.be t 1) ++ Pk.be l 1) ++ Pk.be v 4).toArray⟩ := hd 18 25 (by kernel_rfl)
      have h29 : a.tmps.getD 29 undef = .string ⟨(Pk.be s 6).toArray⟩ := hd 22 29 (by kernel_rfl)
      clear hd hs
      refine wpOp_plain rfl rfl ?_
      have hcat := run_cat (((([105, 110, 111, 100] ++ Pk.be i 1) ++ Pk.be t 1) ++ Pk.be l 1) ++ Pk.be v 4) (Pk.be s 6) (by simp [Pk.length_be])
      go_simp
      exact hK _ _ rfl hG (Below.refl _ _)
    · intro a x hG hd hs K hK
      have h3 : a.tmps.getD 3 undef = .pointer (some ⟨g, 0, none⟩) := hs 3 (by kernel_rfl)
      clear hd hs
      refine wpOp_plain rfl rfl ?_
      go_simp
      exact hK _ _ rfl hG (Below.refl _ _)
    · intro a x hG hd hs K hK
      have h31 : a.tmps.getD 31 undef = .pointer (some ⟨g, 4, none⟩) := hd 24 31 (by kernel_rfl)
      clear hd hs
      refine wpOp_plain rfl rfl ?_
      have x0 := (hk.ext hG).cell 4
      unfold icells at x0
      simp only [List.getElem?_cons_zero, List.getElem?_cons_succ] at x0
      go_simp
      exact hK _ _ rfl hG (Below.refl _ _)
    · intro a x hG hd hs K hK
      have h32 : a.tmps.getD 32 undef = .int .i64 (k : Int) := hd 25 32 (by kernel_rfl)
      clear hd hs
      refine wpOp_plain rfl rfl ?_
      have hwr : IntKind.u64.wrap (k : Int) = k := IntWalk.u64_in _ (by omega)
      go_simp
      exact hK _ _ rfl hG (Below.refl _ _)
    · intro a x hG hd hs K hK
      have h33 : a.tmps.getD 33 undef = .int .u64 (k : Int) := hd 26 33 (by kernel_rfl)
      clear hd hs
      refine wpOp_plain rfl rfl ?_
      go_simp
      refine (rof_eq k 4 _ _ rfl rfl _ (by omega) (by omega)).mono ?_
      rintro e w' ⟨rfl, hb⟩
      exact hK _ _ rfl (hG.trans (hb.mono hG.size)) hb
    · intro a x hG hd hs K hK
      have h30 : a.tmps.getD 30 undef = .string ⟨((((([105, 110, 111, 100] ++ Pk.be i 1) ++ Pk.be t 1) ++ Pk.be l 1) ++ Pk.be v 4) ++ Pk.be s 6).toArray⟩ := hd 23 30 (by kernel_rfl)
      have h34 : a.tmps.getD 34 undef = .string ⟨(Pk.be k 4).toArray⟩ := hd 27 34 (by kernel_rfl)
      clear hd hs
      refine wpOp_plain rfl rfl ?_
      have hcat := run_cat ((((([105, 110, 111, 100] ++ Pk.be i 1) ++ Pk.be t 1) ++ Pk.be l 1) ++ Pk.be v 4) ++ Pk.be s 6) (Pk.be k 4) (by simp [Pk.length_be])
      go_simp
      exact hK _ _ rfl hG (Below.refl _ _)
    · intro a x hG hd hs K hK
      have h35 : a.tmps.getD 35 undef = .string ⟨(((((([105, 110, 111, 100] ++ Pk.be i 1) ++ Pk.be t 1) ++ Pk.be l 1) ++ Pk.be v 4) ++ Pk.be s 6) ++ Pk.be k 4).toArray⟩ := hd 28 35 (by kernel_rfl)
      clear hd hs
      refine wpOp_plain rfl rfl ?_
      go_simp
      exact hK _ _ rfl hG (Below.refl _ _)
  · intro x hG
    rintro _ rfl _ rfl _ rfl _ rfl _ rfl _ rfl _ rfl _ rfl _ rfl _ rfl _ rfl _ rfl _ rfl _ rfl _ rfl _ rfl _ rfl _ rfl _ rfl _ rfl _ rfl _ rfl _ rfl _ rfl _ rfl _ rfl _ rfl _ rfl _ rfl _ rfl
    simp only [Act.put, List.setIfInBounds_toArray, List.set_cons_zero, List.set_cons_succ, REnd]
    try simp only [Exit.then]
    have hbx := hG
    clear hG hk
    generalize ((((([105, 110, 111, 100] ++ Pk.be i 1) ++ Pk.be t 1) ++ Pk.be l 1) ++ Pk.be v 4) ++ Pk.be s 6) ++ Pk.be k 4 = S0 at *
    go_wp2
    go_loopw [5, 6] (fun y i wr => ∃ j : Nat, j ≤ 9 ∧ i = .int .i64 j ∧ y = .string ⟨(S0 ++ Pk.recs (pN (ps.take j))).toArray⟩ ∧ Below w0.heap.size w0 wr) (fun _ i _ => 9 - (intOf i).toNat)
    case atStart => exact ⟨0, by omega, rfl, by rw [show Pk.recs (pN (ps.take 0)) = [] from rfl, List.append_nil], hbx⟩
    case round =>
      obtain ⟨j, hj, rfl, rfl, hbw⟩ := hrel
      by_cases hlt : j < 9
      · have hjl : j < ps.length := by omega
        obtain ⟨hc1, hc2, _⟩ := HPC.out j hjl
        have hx1 := (hbw.cell (p := ⟨g, 5 + j * 2, none⟩) hgl).trans hc1
        have hx2 := (hbw.cell (p := ⟨g, 5 + j * 2 + 1, none⟩) hgl).trans hc2
        have HS := Lib.hid (congrArg (S0 ++ ·) (recs_pN_snoc ps j hjl))
        have hb1 := hs _ (List.getElem_mem hjl)
        have hb2 := List.all_eq_true.1 HAL.out _ (List.getElem_mem hjl)
        have hlen : (S0 ++ Pk.recs (pN (ps.take j))).length ≤ 100 := by rw [List.length_append, HL0.out, recs_pN_len, List.length_take]; omega
        clear hc1 hc2 HPC hbx
        generalize ps[j] = p at *
        obtain ⟨pa, sm⟩ := p
        simp only at hx1 hx2 hb1
        unfold Nd.ptrB at hb2
        rw [decide_eq_true_iff] at hb2
        simp only at hb2
        obtain ⟨n, rfl⟩ := Int.eq_ofNat_of_zero_le hb2.1
        have hn2 : n ≤ 2147483647 := by omega
        clear hb2
        have HS2 := Lib.hid (show S0 ++ Pk.recs (pN (ps.take (j + 1))) = (S0 ++ Pk.recs (pN (ps.take j))) ++ (Pk.be n 4 ++ Pk.be sm 4) by rw [List.append_assoc]; exact HS.out)
        clear HS
        generalize S0 ++ Pk.recs (pN (ps.take j)) = Y at *
        go_wp2_with fail
        refine (rpointer_any n sm _ hn2 hb1).mono ?_
        rintro e w1 ⟨rfl, hb3⟩
        have hql : (Pk.be n 4 ++ Pk.be sm 4).length = 8 := by rw [List.length_append, Pk.length_be, Pk.length_be]
        generalize Pk.be n 4 ++ Pk.be sm 4 = Q at *
        have hno : ¬ 9223372036854775807 < Y.length + Q.length := by omega
        clear hql
        go_wp2
        go_roundw
        case rel => exact ⟨j + 1, by omega, by go_num, by rw [HS2.out, ba_append], hbw.trans (hb3.mono hbw.size)⟩
        case measure => simp [intOf]; omega
      · obtain rfl : j = 9 := by omega
        rw [List.take_of_length_le (by omega)]
        have hlen : (S0 ++ Pk.recs (pN ps)).length ≤ 124 := by rw [List.length_append, HL0.out, HLN.out]; omega
        clear HPC hbx
        generalize S0 ++ Pk.recs (pN ps) = Y at *
        go_wp2_with fail
        refine (rseal_any _ Y hlen).mono ?_
        rintro e w1 ⟨rfl, hb3⟩
        go_wp2
        go_ret
        have c2 := hbw.trans (hb3.mono hbw.size)
        refine ⟨by rw [HE.out]; rfl, ?_⟩
        rw [HGG.out]
        exact b0.trans (c2.mono (by rw [← HGG.out]; have := b0.size; omega))
theorem rencode_any (i : Nat) (x : Nd.In) (w : World) (hg : Nd.Good x) (hi : Nd.inoB i = true) (hm : Nd.mayB x = true) :
    Calls Tryd.prog 13 #[.int .i64 (i : Int), iagg x] w fun e w' => e = .returned (.string ⟨(Nd.inE i x).toArray⟩) ∧ Below w.heap.size w w' := by
  obtain ⟨t, l, v, s, k, ps⟩ := x
  unfold Nd.mayB Nd.headB at hm
  unfold Nd.inoB at hi
  rw [Bool.and_eq_true, decide_eq_true_iff] at hm
  rw [decide_eq_true_iff] at hi
  obtain ⟨hm1, hm2⟩ := hm
  simp only at hm1 hm2
  obtain ⟨t, rfl⟩ := Int.eq_ofNat_of_zero_le (show 0 ≤ t by omega)
  obtain ⟨l, rfl⟩ := Int.eq_ofNat_of_zero_le (show 0 ≤ l by omega)
  obtain ⟨v, rfl⟩ := Int.eq_ofNat_of_zero_le (show 0 ≤ v by omega)
  obtain ⟨s, rfl⟩ := Int.eq_ofNat_of_zero_le (show 0 ≤ s by omega)
  obtain ⟨k, rfl⟩ := Int.eq_ofNat_of_zero_le (show 0 ≤ k by omega)
  exact rencode_nat i t l v s k ps w hg.1 hm2 hg.2 (by omega) (by omega) (by omega) (by omega) (by omega) (by omega)
end Go.Proofs.YtmabdbleakolbaaDoor
