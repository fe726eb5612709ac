/-
  The walks of inode.ReadNode and inode.Decode. By an AI agent.
-/
import Derived.Test.YtmabdbleakolbaaDoorInodeX
import Derived.Test.YtmabdbleakolbaaDoorInodeY
namespace Go.Proofs.YtmabdbleakolbaaDoor
open Go.RowKit Go.ChangeShapes Go.WideShapes Go.ChangeAt

theorem ptrsOf_take (l : List UInt8) (m n k : Nat) (h : k + 8 * n ≤ m) : Nd.ptrsOf ((l.take m).drop k) n = Nd.ptrsOf (l.drop k) n := by
  unfold Nd.ptrsOf
  refine List.map_congr_left fun i hi => ?_
  have hin := List.mem_range.1 hi
  unfold Nd.ptrAt
  simp only [List.drop_drop, List.drop_take, List.take_take]
  rw [Nat.min_eq_left (by omega), Nat.min_eq_left (by omega)]
theorem Blk.ptrs0 {w : World} {g n : Nat} {T : TypeId} {ps : List (Int × Nat)} (h : Blk w g T (pcells ps)) (hn : ps.length = n) (hm : n ≤ 1000) : Ptrs w w.heap.size (.slice (some ⟨g, 0, none⟩) n n) ps := by
  subst hn
  have := (h.rds 0 ps.length ps.length 2 (by rw [pcells_len]; omega) (Nat.le_refl _) (by rw [maxLen_eq]; omega)).more (B' := w.heap.size) h.lt
  unfold Ptrs
  rw [List.drop_zero, List.take_of_length_le (by rw [pcells_len]; omega)] at this
  exact this
theorem below_of_grown {a w w' : World} {B g : Nat} (h : Below B a w) (hg : w.grownBy w' (some g)) (hB : B ≤ g) (hs : B ≤ w.heap.size) : Below B a w' := h.grown hg hs (fun k hk => by injection hk with hk; omega)

/-- What ReadNode leaves. -/
def NodeR (l : List UInt8) (w : World) (e : Ending) (w' : World) : Prop := ∃ x, e = .returned (.tuple #[x, .int .i64 (Nd.nErr l : Nat)]) ∧ Ptrs w' w'.heap.size x (if Nd.nErr l = 0 then Nd.ptrsOf l 15 else []) ∧ Below w.heap.size w w'
set_option maxRecDepth 100000 in
set_option maxHeartbeats 4000000 in
theorem readNode_any (w : World) (v : Value) (l : List UInt8) (hH : Halves w) (h : Bs w w.heap.size v l) :
    Calls Tryd.prog 21 #[v] w (NodeR l w) := by
  obtain ⟨A, c, rfl, hc, hm, _⟩ := h.openD
  have HB := Lib.hid h
  go_enter Tryd.func21, Tryd.ntmps21
  go_wp2_with fail
  refine (held_any _ _ _ l hH h (Nat.le_refl _)).mono ?_
  rintro e w1 ⟨rfl, b1⟩
  clear h
  cases hh : Crc.held l with
  | false =>
    have HE := Lib.hid (show Nd.nErr l = 5 by unfold Nd.nErr; rw [hh]; rfl)
    clear hh
    go_wp2
    go_ret2
    exact ⟨_, by rw [HE.out]; rfl, (by rw [HE.out, if_neg (by decide)]; exact Rds.nil_ _ _ _), b1⟩
  | true =>
    have hlen := Cd.held_len hh
    have HE := Lib.hid (show Nd.nErr l = if Pk.clr (l.take 124) (120 : Nat) ∧ (Nd.ptrsOf l 15).all Nd.ptrB then 0 else 3 by unfold Nd.nErr; rw [hh]; rfl)
    have g1 : (124 : Int) ≤ c := by omega
    have g2 : (124 : Nat) ≤ c := by omega
    have g3 : 128 ≤ l.length := by omega
    have hbh := (HB.out.ext (Nat.le_refl _) b1).head (k := 124) (by omega)
    have HBH := Lib.hid hbh
    clear hlen hh hbh HB
    go_wp2_with fail
    generalize hW : w1.alloc (.cells _ 81) = W0
    have hk : Blk W0 w1.heap.size 81 (pcells (List.replicate 15 (0, 0))) := by rw [← hW]; exact Blk.new w1 _ _
    have bW : Below w1.heap.size w1 W0 := by rw [← hW]; exact (Below.refl _ _).alloc (Nat.le_refl _) _
    have hsz : W0.heap.size = w1.heap.size + 1 := by rw [← hW]; simp
    have s0 := b1.size
    have s1 : w1.heap.size < W0.heap.size := by omega
    have c1 := b1.trans (bW.mono b1.size)
    have HBH0 := Lib.hid (HBH.out.ext s0 bW)
    have HPT := Lib.hid (show Nd.ptrsOf (l.take 124) 15 = Nd.ptrsOf l 15 by have := ptrsOf_take l 124 15 0 (by omega); simpa using this)
    clear hW bW hsz HBH b1
    generalize w1.heap.size = gq at *
    cases hclr : Pk.clr (l.take 124) (120 : Nat) with
    | false =>
      have HCL := Lib.hid (show Pk.clr (l.take 124) ((8 * 15 : Nat) : Int) = false from hclr)
      rw [hclr] at HE
      simp only [Bool.false_eq_true, false_and, if_false] at HE
      clear hclr
      have hG0 : (fun (b : Bool) (x : World) => (b = false → Below W0.heap.size W0 x) ∧ (b = true → Blk x gq 81 (pcells (Nd.ptrsOf l 15)) ∧ Below w.heap.size w x)) false W0.drew := ⟨fun _ => (Below.refl _ _).drew, fun h => by cases h⟩
      refine wp_region_tail 10 3 [(fun y_ _ => y_ = .slice A l.length c),
        (fun y_ _ => y_ = .slice A 124 c),
        (fun y_ _ => y_ = .slice (some ⟨gq, 0, none⟩) 15 15),
        (fun y_ _ => y_ = .bool false),
        (fun y_ _ => y_ = .bool true),
        (fun y_ _ => y_ = .bool true),
        (fun y_ _ => y_ = undef),
        (fun y_ _ => y_ = undef),
        (fun y_ _ => y_ = undef),
        (fun y_ _ => y_ = .bool true)]
        (fun (b : Bool) (x : World) => (b = false → Below W0.heap.size W0 x) ∧ (b = true → Blk x gq 81 (pcells (Nd.ptrsOf l 15)) ∧ Below w.heap.size w x)) (fun _ _ => True) (by kernel_rfl) rfl (by decide) (by kernel_rfl) (by kernel_rfl) ?_ ?_ ?_ ?_ ?_
      · exact hG0
      · exact ⟨stab_eq _, stab_eq _, stab_eq _, stab_eq _, stab_eq _, stab_eq _, stab_eq _, stab_eq _, stab_eq _, stab_eq _, trivial⟩
      · exact ⟨stabE_eq _, stabE_eq _, stabE_eq _, trivial⟩
      · refine ⟨?_, ?_, ?_, ?_, ?_, ?_, ?_, ?_, ?_, ?_, trivial⟩
        · intro a x hG hd hs K hK
          replace hG : (fun (b : Bool) (x : World) => (b = false → Below W0.heap.size W0 x) ∧ (b = true → Blk x gq 81 (pcells (Nd.ptrsOf l 15)) ∧ Below w.heap.size w x)) false x := hG
          have h0 : a.tmps.getD 0 undef = .slice A l.length c := hs 0 (by kernel_rfl)
          clear hd hs
          refine wpOp_plain rfl rfl ?_
          go_simp
          exact hK _ _ rfl hG (Below.refl _ _)
        · intro a x hG hd hs K hK
          replace hG : (fun (b : Bool) (x : World) => (b = false → Below W0.heap.size W0 x) ∧ (b = true → Blk x gq 81 (pcells (Nd.ptrsOf l 15)) ∧ Below w.heap.size w x)) false x := hG
          have h8 : a.tmps.getD 8 undef = .slice A l.length c := hd 0 8 (by kernel_rfl)
          clear hd hs
          refine wpOp_plain rfl rfl ?_
          go_simp
          exact hK _ _ rfl hG (Below.refl _ _)
        · intro a x hG hd hs K hK
          replace hG : (fun (b : Bool) (x : World) => (b = false → Below W0.heap.size W0 x) ∧ (b = true → Blk x gq 81 (pcells (Nd.ptrsOf l 15)) ∧ Below w.heap.size w x)) false x := hG
          have h4 : a.tmps.getD 4 undef = .pointer (some ⟨gq, 0, none⟩) := hs 4 (by kernel_rfl)
          clear hd hs
          refine wpOp_plain rfl rfl ?_
          go_simp
          exact hK _ _ rfl hG (Below.refl _ _)
        · intro a x hG hd hs K hK
          replace hG : (fun (b : Bool) (x : World) => (b = false → Below W0.heap.size W0 x) ∧ (b = true → Blk x gq 81 (pcells (Nd.ptrsOf l 15)) ∧ Below w.heap.size w x)) false x := hG
          have h9 : a.tmps.getD 9 undef = .slice A 124 c := hd 1 9 (by kernel_rfl)
          have h10 : a.tmps.getD 10 undef = .slice (some ⟨gq, 0, none⟩) 15 15 := hd 2 10 (by kernel_rfl)
          clear hd hs
          refine wpOp_plain rfl rfl ?_
          go_simp
          have hb0 := hG.1 rfl
          refine (pointers_any _ _ w.heap.size gq 0 15 15 (l.take 124) 81 _ (HBH0.out.ext (by omega) hb0) (by omega) (hk.ext hb0) (by rw [pcells_len, List.length_replicate]; omega) (by rw [List.length_take]; omega) (by omega) (by omega)).mono ?_
          rintro e w' ⟨rfl, hkb, hgr⟩
          rw [HPT.out, spl_all _ _ (by rw [pcells_len, pcells_len, Nd.ptrsOf_len, List.length_replicate])] at hkb
          rw [HCL.out]
          exact hK _ _ rfl ⟨(fun h => by cases h), fun _ => ⟨hkb, below_of_grown (c1.trans (hb0.mono c1.size)) hgr (by omega) (by have := hb0.size; have := c1.size; omega)⟩⟩ trivial
        · intro a x hG hd hs K hK
          replace hG : (fun (b : Bool) (x : World) => (b = false → Below W0.heap.size W0 x) ∧ (b = true → Blk x gq 81 (pcells (Nd.ptrsOf l 15)) ∧ Below w.heap.size w x)) true x := hG
          have h11 : a.tmps.getD 11 undef = .bool false := hd 3 11 (by kernel_rfl)
          clear hd hs
          refine wpOp_plain rfl rfl ?_
          go_simp
          exact hK _ _ rfl hG (Below.refl _ _)
        · intro a x hG hd hs K hK
          replace hG : (fun (b : Bool) (x : World) => (b = false → Below W0.heap.size W0 x) ∧ (b = true → Blk x gq 81 (pcells (Nd.ptrsOf l 15)) ∧ Below w.heap.size w x)) true x := hG
          have h12 : a.tmps.getD 12 undef = .bool true := hd 4 12 (by kernel_rfl)
          clear hd hs
          refine wpOp_plain rfl rfl ?_
          go_simp
          exact hK _ _ rfl hG (Below.refl _ _)
        · intro a x hG hd hs K hK
          replace hG : (fun (b : Bool) (x : World) => (b = false → Below W0.heap.size W0 x) ∧ (b = true → Blk x gq 81 (pcells (Nd.ptrsOf l 15)) ∧ Below w.heap.size w x)) true x := hG
          have h4 : a.tmps.getD 4 undef = .pointer (some ⟨gq, 0, none⟩) := hs 4 (by kernel_rfl)
          have h13 : a.tmps.getD 13 undef = .bool true := hd 5 13 (by kernel_rfl)
          clear hd hs
          refine wpOp_no rfl rfl rfl h13 ?_
          exact hK _ _ rfl hG (Below.refl _ _)
        · intro a x hG hd hs K hK
          replace hG : (fun (b : Bool) (x : World) => (b = false → Below W0.heap.size W0 x) ∧ (b = true → Blk x gq 81 (pcells (Nd.ptrsOf l 15)) ∧ Below w.heap.size w x)) true x := hG
          have h14 : a.tmps.getD 14 undef = undef := hd 6 14 (by kernel_rfl)
          have h13 : a.tmps.getD 13 undef = .bool true := hd 5 13 (by kernel_rfl)
          clear hd hs
          refine wpOp_no rfl rfl rfl h13 ?_
          exact hK _ _ rfl hG (Below.refl _ _)
        · intro a x hG hd hs K hK
          replace hG : (fun (b : Bool) (x : World) => (b = false → Below W0.heap.size W0 x) ∧ (b = true → Blk x gq 81 (pcells (Nd.ptrsOf l 15)) ∧ Below w.heap.size w x)) true x := hG
          have h15 : a.tmps.getD 15 undef = undef := hd 7 15 (by kernel_rfl)
          have h13 : a.tmps.getD 13 undef = .bool true := hd 5 13 (by kernel_rfl)
          clear hd hs
          refine wpOp_no rfl rfl rfl h13 ?_
          exact hK _ _ rfl hG (Below.refl _ _)
        · intro a x hG hd hs K hK
          replace hG : (fun (b : Bool) (x : World) => (b = false → Below W0.heap.size W0 x) ∧ (b = true → Blk x gq 81 (pcells (Nd.ptrsOf l 15)) ∧ Below w.heap.size w x)) true x := hG
          have h13 : a.tmps.getD 13 undef = .bool true := hd 5 13 (by kernel_rfl)
          have h16 : a.tmps.getD 16 undef = undef := hd 8 16 (by kernel_rfl)
          clear hd hs
          refine wpOp_plain rfl rfl ?_
          go_simp
          exact hK _ _ rfl hG (Below.refl _ _)
      · intro x hG
        rintro _ rfl _ rfl _ rfl _ rfl _ rfl _ rfl _ rfl _ rfl _ rfl _ rfl
        simp only [Act.put, List.setIfInBounds_toArray, List.set_cons_zero, List.set_cons_succ, REnd]
        try simp only [Exit.then]
        have hGq := hG.2 rfl
        clear hG
        go_wp2
        go_ret2
        exact ⟨_, by rw [HE.out]; rfl, (by rw [HE.out, if_neg (by decide)]; exact Rds.nil_ _ _ _), hGq.2⟩
    | true =>
      have HCL := Lib.hid (show Pk.clr (l.take 124) ((8 * 15 : Nat) : Int) = true from hclr)
      rw [hclr] at HE
      simp only [true_and] at HE
      clear hclr
      have hG0 : (fun (b : Bool) (x : World) => (b = false → Below W0.heap.size W0 x) ∧ (b = true → Blk x gq 81 (pcells (Nd.ptrsOf l 15)) ∧ Below w.heap.size w x)) false W0.drew := ⟨fun _ => (Below.refl _ _).drew, fun h => by cases h⟩
      cases hal : (Nd.ptrsOf l 15).all Nd.ptrB with
      | true =>
        have HAL := Lib.hid hal
        rw [hal, if_pos rfl] at HE
        clear hal
        refine wp_region_tail 10 3 [(fun y_ _ => y_ = .slice A l.length c),
          (fun y_ _ => y_ = .slice A 124 c),
          (fun y_ _ => y_ = .slice (some ⟨gq, 0, none⟩) 15 15),
          (fun y_ _ => y_ = .bool true),
          (fun y_ _ => y_ = .bool false),
          (fun y_ _ => y_ = .bool false),
          (fun y_ _ => y_ = .slice (some ⟨gq, 0, none⟩) 15 15),
          (fun y_ _ => y_ = .bool true),
          (fun y_ _ => y_ = .bool false),
          (fun y_ _ => y_ = .bool false)]
          (fun (b : Bool) (x : World) => (b = false → Below W0.heap.size W0 x) ∧ (b = true → Blk x gq 81 (pcells (Nd.ptrsOf l 15)) ∧ Below w.heap.size w x)) (fun _ _ => True) (by kernel_rfl) rfl (by decide) (by kernel_rfl) (by kernel_rfl) ?_ ?_ ?_ ?_ ?_
        · exact hG0
        · exact ⟨stab_eq _, stab_eq _, stab_eq _, stab_eq _, stab_eq _, stab_eq _, stab_eq _, stab_eq _, stab_eq _, stab_eq _, trivial⟩
        · exact ⟨stabE_eq _, stabE_eq _, stabE_eq _, trivial⟩
        · refine ⟨?_, ?_, ?_, ?_, ?_, ?_, ?_, ?_, ?_, ?_, trivial⟩
          · intro a x hG hd hs K hK
            replace hG : (fun (b : Bool) (x : World) => (b = false → Below W0.heap.size W0 x) ∧ (b = true → Blk x gq 81 (pcells (Nd.ptrsOf l 15)) ∧ Below w.heap.size w x)) false x := hG
            have h0 : a.tmps.getD 0 undef = .slice A l.length c := hs 0 (by kernel_rfl)
            clear hd hs
            refine wpOp_plain rfl rfl ?_
            go_simp
            exact hK _ _ rfl hG (Below.refl _ _)
          · intro a x hG hd hs K hK
            replace hG : (fun (b : Bool) (x : World) => (b = false → Below W0.heap.size W0 x) ∧ (b = true → Blk x gq 81 (pcells (Nd.ptrsOf l 15)) ∧ Below w.heap.size w x)) false x := hG
            have h8 : a.tmps.getD 8 undef = .slice A l.length c := hd 0 8 (by kernel_rfl)
            clear hd hs
            refine wpOp_plain rfl rfl ?_
            go_simp
            exact hK _ _ rfl hG (Below.refl _ _)
          · intro a x hG hd hs K hK
            replace hG : (fun (b : Bool) (x : World) => (b = false → Below W0.heap.size W0 x) ∧ (b = true → Blk x gq 81 (pcells (Nd.ptrsOf l 15)) ∧ Below w.heap.size w x)) false x := hG
            have h4 : a.tmps.getD 4 undef = .pointer (some ⟨gq, 0, none⟩) := hs 4 (by kernel_rfl)
            clear hd hs
            refine wpOp_plain rfl rfl ?_
            go_simp
            exact hK _ _ rfl hG (Below.refl _ _)
          · intro a x hG hd hs K hK
            replace hG : (fun (b : Bool) (x : World) => (b = false → Below W0.heap.size W0 x) ∧ (b = true → Blk x gq 81 (pcells (Nd.ptrsOf l 15)) ∧ Below w.heap.size w x)) false x := hG
            have h9 : a.tmps.getD 9 undef = .slice A 124 c := hd 1 9 (by kernel_rfl)
            have h10 : a.tmps.getD 10 undef = .slice (some ⟨gq, 0, none⟩) 15 15 := hd 2 10 (by kernel_rfl)
            clear hd hs
            refine wpOp_plain rfl rfl ?_
            go_simp
            have hb0 := hG.1 rfl
            refine (pointers_any _ _ w.heap.size gq 0 15 15 (l.take 124) 81 _ (HBH0.out.ext (by omega) hb0) (by omega) (hk.ext hb0) (by rw [pcells_len, List.length_replicate]; omega) (by rw [List.length_take]; omega) (by omega) (by omega)).mono ?_
            rintro e w' ⟨rfl, hkb, hgr⟩
            rw [HPT.out, spl_all _ _ (by rw [pcells_len, pcells_len, Nd.ptrsOf_len, List.length_replicate])] at hkb
            rw [HCL.out]
            exact hK _ _ rfl ⟨(fun h => by cases h), fun _ => ⟨hkb, below_of_grown (c1.trans (hb0.mono c1.size)) hgr (by omega) (by have := hb0.size; have := c1.size; omega)⟩⟩ trivial
          · intro a x hG hd hs K hK
            replace hG : (fun (b : Bool) (x : World) => (b = false → Below W0.heap.size W0 x) ∧ (b = true → Blk x gq 81 (pcells (Nd.ptrsOf l 15)) ∧ Below w.heap.size w x)) true x := hG
            have h11 : a.tmps.getD 11 undef = .bool true := hd 3 11 (by kernel_rfl)
            clear hd hs
            refine wpOp_plain rfl rfl ?_
            go_simp
            exact hK _ _ rfl hG (Below.refl _ _)
          · intro a x hG hd hs K hK
            replace hG : (fun (b : Bool) (x : World) => (b = false → Below W0.heap.size W0 x) ∧ (b = true → Blk x gq 81 (pcells (Nd.ptrsOf l 15)) ∧ Below w.heap.size w x)) true x := hG
            have h12 : a.tmps.getD 12 undef = .bool false := hd 4 12 (by kernel_rfl)
            clear hd hs
            refine wpOp_plain rfl rfl ?_
            go_simp
            exact hK _ _ rfl hG (Below.refl _ _)
          · intro a x hG hd hs K hK
            replace hG : (fun (b : Bool) (x : World) => (b = false → Below W0.heap.size W0 x) ∧ (b = true → Blk x gq 81 (pcells (Nd.ptrsOf l 15)) ∧ Below w.heap.size w x)) true x := hG
            have h4 : a.tmps.getD 4 undef = .pointer (some ⟨gq, 0, none⟩) := hs 4 (by kernel_rfl)
            have h13 : a.tmps.getD 13 undef = .bool false := hd 5 13 (by kernel_rfl)
            clear hd hs
            refine wpOp_yes rfl rfl rfl h13 ?_
            go_simp
            exact hK _ _ rfl hG (Below.refl _ _)
          · intro a x hG hd hs K hK
            replace hG : (fun (b : Bool) (x : World) => (b = false → Below W0.heap.size W0 x) ∧ (b = true → Blk x gq 81 (pcells (Nd.ptrsOf l 15)) ∧ Below w.heap.size w x)) true x := hG
            have h14 : a.tmps.getD 14 undef = .slice (some ⟨gq, 0, none⟩) 15 15 := hd 6 14 (by kernel_rfl)
            have h13 : a.tmps.getD 13 undef = .bool false := hd 5 13 (by kernel_rfl)
            clear hd hs
            refine wpOp_yes rfl rfl rfl h13 ?_
            go_simp
            refine (all_any _ _ _ (Nd.ptrsOf l 15) ((hG.2 rfl).1.ptrs0 (Nd.ptrsOf_len l 15) (by omega)) (Nat.le_refl _)).mono ?_
            rintro e w' ⟨rfl, hb⟩
            rw [HAL.out]
            exact hK _ _ rfl ⟨(fun h => by cases h), fun _ => ⟨(hG.2 rfl).1.ext hb, (hG.2 rfl).2.trans (hb.mono (hG.2 rfl).2.size)⟩⟩ hb
          · intro a x hG hd hs K hK
            replace hG : (fun (b : Bool) (x : World) => (b = false → Below W0.heap.size W0 x) ∧ (b = true → Blk x gq 81 (pcells (Nd.ptrsOf l 15)) ∧ Below w.heap.size w x)) true x := hG
            have h15 : a.tmps.getD 15 undef = .bool true := hd 7 15 (by kernel_rfl)
            have h13 : a.tmps.getD 13 undef = .bool false := hd 5 13 (by kernel_rfl)
            clear hd hs
            refine wpOp_yes rfl rfl rfl h13 ?_
            go_simp
            exact hK _ _ rfl hG (Below.refl _ _)
          · intro a x hG hd hs K hK
            replace hG : (fun (b : Bool) (x : World) => (b = false → Below W0.heap.size W0 x) ∧ (b = true → Blk x gq 81 (pcells (Nd.ptrsOf l 15)) ∧ Below w.heap.size w x)) true x := hG
            have h13 : a.tmps.getD 13 undef = .bool false := hd 5 13 (by kernel_rfl)
            have h16 : a.tmps.getD 16 undef = .bool false := hd 8 16 (by kernel_rfl)
            clear hd hs
            refine wpOp_plain rfl rfl ?_
            go_simp
            exact hK _ _ rfl hG (Below.refl _ _)
        · intro x hG
          rintro _ rfl _ rfl _ rfl _ rfl _ rfl _ rfl _ rfl _ rfl _ rfl _ rfl
          simp only [Act.put, List.setIfInBounds_toArray, List.set_cons_zero, List.set_cons_succ, REnd]
          try simp only [Exit.then]
          have hGq := hG.2 rfl
          clear hG
          go_wp2
          go_ret2
          exact ⟨_, by rw [HE.out]; rfl, (by rw [HE.out, if_pos rfl]; exact hGq.1.ptrs0 (Nd.ptrsOf_len l 15) (by omega)), hGq.2⟩
      | false =>
        have HAL := Lib.hid hal
        rw [hal, if_neg (by decide)] at HE
        clear hal
        refine wp_region_tail 10 3 [(fun y_ _ => y_ = .slice A l.length c),
          (fun y_ _ => y_ = .slice A 124 c),
          (fun y_ _ => y_ = .slice (some ⟨gq, 0, none⟩) 15 15),
          (fun y_ _ => y_ = .bool true),
          (fun y_ _ => y_ = .bool false),
          (fun y_ _ => y_ = .bool false),
          (fun y_ _ => y_ = .slice (some ⟨gq, 0, none⟩) 15 15),
          (fun y_ _ => y_ = .bool false),
          (fun y_ _ => y_ = .bool true),
          (fun y_ _ => y_ = .bool true)]
          (fun (b : Bool) (x : World) => (b = false → Below W0.heap.size W0 x) ∧ (b = true → Blk x gq 81 (pcells (Nd.ptrsOf l 15)) ∧ Below w.heap.size w x)) (fun _ _ => True) (by kernel_rfl) rfl (by decide) (by kernel_rfl) (by kernel_rfl) ?_ ?_ ?_ ?_ ?_
        · exact hG0
        · exact ⟨stab_eq _, stab_eq _, stab_eq _, stab_eq _, stab_eq _, stab_eq _, stab_eq _, stab_eq _, stab_eq _, stab_eq _, trivial⟩
        · exact ⟨stabE_eq _, stabE_eq _, stabE_eq _, trivial⟩
        · refine ⟨?_, ?_, ?_, ?_, ?_, ?_, ?_, ?_, ?_, ?_, trivial⟩
          · intro a x hG hd hs K hK
            replace hG : (fun (b : Bool) (x : World) => (b = false → Below W0.heap.size W0 x) ∧ (b = true → Blk x gq 81 (pcells (Nd.ptrsOf l 15)) ∧ Below w.heap.size w x)) false x := hG
            have h0 : a.tmps.getD 0 undef = .slice A l.length c := hs 0 (by kernel_rfl)
            clear hd hs
            refine wpOp_plain rfl rfl ?_
            go_simp
            exact hK _ _ rfl hG (Below.refl _ _)
          · intro a x hG hd hs K hK
            replace hG : (fun (b : Bool) (x : World) => (b = false → Below W0.heap.size W0 x) ∧ (b = true → Blk x gq 81 (pcells (Nd.ptrsOf l 15)) ∧ Below w.heap.size w x)) false x := hG
            have h8 : a.tmps.getD 8 undef = .slice A l.length c := hd 0 8 (by kernel_rfl)
            clear hd hs
            refine wpOp_plain rfl rfl ?_
            go_simp
            exact hK _ _ rfl hG (Below.refl _ _)
          · intro a x hG hd hs K hK
            replace hG : (fun (b : Bool) (x : World) => (b = false → Below W0.heap.size W0 x) ∧ (b = true → Blk x gq 81 (pcells (Nd.ptrsOf l 15)) ∧ Below w.heap.size w x)) false x := hG
            have h4 : a.tmps.getD 4 undef = .pointer (some ⟨gq, 0, none⟩) := hs 4 (by kernel_rfl)
            clear hd hs
            refine wpOp_plain rfl rfl ?_
            go_simp
            exact hK _ _ rfl hG (Below.refl _ _)
          · intro a x hG hd hs K hK
            replace hG : (fun (b : Bool) (x : World) => (b = false → Below W0.heap.size W0 x) ∧ (b = true → Blk x gq 81 (pcells (Nd.ptrsOf l 15)) ∧ Below w.heap.size w x)) false x := hG
            have h9 : a.tmps.getD 9 undef = .slice A 124 c := hd 1 9 (by kernel_rfl)
            have h10 : a.tmps.getD 10 undef = .slice (some ⟨gq, 0, none⟩) 15 15 := hd 2 10 (by kernel_rfl)
            clear hd hs
            refine wpOp_plain rfl rfl ?_
            go_simp
            have hb0 := hG.1 rfl
            refine (pointers_any _ _ w.heap.size gq 0 15 15 (l.take 124) 81 _ (HBH0.out.ext (by omega) hb0) (by omega) (hk.ext hb0) (by rw [pcells_len, List.length_replicate]; omega) (by rw [List.length_take]; omega) (by omega) (by omega)).mono ?_
            rintro e w' ⟨rfl, hkb, hgr⟩
            rw [HPT.out, spl_all _ _ (by rw [pcells_len, pcells_len, Nd.ptrsOf_len, List.length_replicate])] at hkb
            rw [HCL.out]
            exact hK _ _ rfl ⟨(fun h => by cases h), fun _ => ⟨hkb, below_of_grown (c1.trans (hb0.mono c1.size)) hgr (by omega) (by have := hb0.size; have := c1.size; omega)⟩⟩ trivial
          · intro a x hG hd hs K hK
            replace hG : (fun (b : Bool) (x : World) => (b = false → Below W0.heap.size W0 x) ∧ (b = true → Blk x gq 81 (pcells (Nd.ptrsOf l 15)) ∧ Below w.heap.size w x)) true x := hG
            have h11 : a.tmps.getD 11 undef = .bool true := hd 3 11 (by kernel_rfl)
            clear hd hs
            refine wpOp_plain rfl rfl ?_
            go_simp
            exact hK _ _ rfl hG (Below.refl _ _)
          · intro a x hG hd hs K hK
            replace hG : (fun (b : Bool) (x : World) => (b = false → Below W0.heap.size W0 x) ∧ (b = true → Blk x gq 81 (pcells (Nd.ptrsOf l 15)) ∧ Below w.heap.size w x)) true x := hG
            have h12 : a.tmps.getD 12 undef = .bool false := hd 4 12 (by kernel_rfl)
            clear hd hs
            refine wpOp_plain rfl rfl ?_
            go_simp
            exact hK _ _ rfl hG (Below.refl _ _)
          · intro a x hG hd hs K hK
            replace hG : (fun (b : Bool) (x : World) => (b = false → Below W0.heap.size W0 x) ∧ (b = true → Blk x gq 81 (pcells (Nd.ptrsOf l 15)) ∧ Below w.heap.size w x)) true x := hG
            have h4 : a.tmps.getD 4 undef = .pointer (some ⟨gq, 0, none⟩) := hs 4 (by kernel_rfl)
            have h13 : a.tmps.getD 13 undef = .bool false := hd 5 13 (by kernel_rfl)
            clear hd hs
            refine wpOp_yes rfl rfl rfl h13 ?_
            go_simp
            exact hK _ _ rfl hG (Below.refl _ _)
          · intro a x hG hd hs K hK
            replace hG : (fun (b : Bool) (x : World) => (b = false → Below W0.heap.size W0 x) ∧ (b = true → Blk x gq 81 (pcells (Nd.ptrsOf l 15)) ∧ Below w.heap.size w x)) true x := hG
            have h14 : a.tmps.getD 14 undef = .slice (some ⟨gq, 0, none⟩) 15 15 := hd 6 14 (by kernel_rfl)
            have h13 : a.tmps.getD 13 undef = .bool false := hd 5 13 (by kernel_rfl)
            clear hd hs
            refine wpOp_yes rfl rfl rfl h13 ?_
            go_simp
            refine (all_any _ _ _ (Nd.ptrsOf l 15) ((hG.2 rfl).1.ptrs0 (Nd.ptrsOf_len l 15) (by omega)) (Nat.le_refl _)).mono ?_
            rintro e w' ⟨rfl, hb⟩
            rw [HAL.out]
            exact hK _ _ rfl ⟨(fun h => by cases h), fun _ => ⟨(hG.2 rfl).1.ext hb, (hG.2 rfl).2.trans (hb.mono (hG.2 rfl).2.size)⟩⟩ hb
          · intro a x hG hd hs K hK
            replace hG : (fun (b : Bool) (x : World) => (b = false → Below W0.heap.size W0 x) ∧ (b = true → Blk x gq 81 (pcells (Nd.ptrsOf l 15)) ∧ Below w.heap.size w x)) true x := hG
            have h15 : a.tmps.getD 15 undef = .bool false := hd 7 15 (by kernel_rfl)
            have h13 : a.tmps.getD 13 undef = .bool false := hd 5 13 (by kernel_rfl)
            clear hd hs
            refine wpOp_yes rfl rfl rfl h13 ?_
            go_simp
            exact hK _ _ rfl hG (Below.refl _ _)
          · intro a x hG hd hs K hK
            replace hG : (fun (b : Bool) (x : World) => (b = false → Below W0.heap.size W0 x) ∧ (b = true → Blk x gq 81 (pcells (Nd.ptrsOf l 15)) ∧ Below w.heap.size w x)) true x := hG
            have h13 : a.tmps.getD 13 undef = .bool false := hd 5 13 (by kernel_rfl)
            have h16 : a.tmps.getD 16 undef = .bool true := hd 8 16 (by kernel_rfl)
            clear hd hs
            refine wpOp_plain rfl rfl ?_
            go_simp
            exact hK _ _ rfl hG (Below.refl _ _)
        · intro x hG
          rintro _ rfl _ rfl _ rfl _ rfl _ rfl _ rfl _ rfl _ rfl _ rfl _ rfl
          simp only [Act.put, List.setIfInBounds_toArray, List.set_cons_zero, List.set_cons_succ, REnd]
          try simp only [Exit.then]
          have hGq := hG.2 rfl
          clear hG
          go_wp2
          go_ret2
          exact ⟨_, by rw [HE.out]; rfl, (by rw [HE.out, if_neg (by decide)]; exact Rds.nil_ _ _ _), hGq.2⟩
end Go.Proofs.YtmabdbleakolbaaDoor
