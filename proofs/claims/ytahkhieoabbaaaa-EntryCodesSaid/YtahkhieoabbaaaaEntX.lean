/-
  The reference of chapter 10: Decode. By an AI agent.
-/
import Derived.Test.YtahkhieoabbaaaaEntD
import Derived.Test.YtahkhieoabbaaaaEntR
namespace Go.Proofs.Ytahkhieoabbaaaa
open Go.RowKit Go.ChangeShapes Go.WideShapes Go.ChangeAt
open Et (E)

theorem run_idx {b : List UInt8} {S : ByteArray} (hS : (⟨b.toArray⟩ : ByteArray) = S) (j : Nat) (hj : j < b.length) (z : Int) (hz : z = j) (W : World) : (Instr.index 9 (.string S) (.int .i64 z)).run Try.prog W = .ok (.int .u8 ((b.getD j 0).toNat : Int)) W := by
  subst hz
  subst hS
  rw [run_index_string W _ _ _ _ Try.underlying9]
  have h1 : ((j : Int) < ((⟨b.toArray⟩ : ByteArray).size : Int)) := by rw [ba_size]; omega
  rw [dif_pos ⟨Int.natCast_nonneg _, h1⟩]
  have : b.getD j 0 = b[j] := by simp [List.getD, hj]
  rw [this]
  rfl
theorem run_sub {b : List UInt8} {S : ByteArray} (hS : (⟨b.toArray⟩ : ByteArray) = S) (i j : Nat) (hij : i ≤ j) (hj : j ≤ b.length) (x y : Int) (hx : x = i) (hy : y = j) (W : World) :
    (Instr.slice 9 (.string S) (some (.int .i64 x)) (some (.int .i64 y)) none).run Try.prog W = .ok (.string ⟨((b.drop i).take (j - i)).toArray⟩) W := by
  subst hx
  subst hy
  subst hS
  have := run_slice_string (P := Try.prog) W 9 (⟨b.toArray⟩ : ByteArray) .i64 .i64 (i : Int) (j : Int) Try.underlying9 (by omega) (by omega) (by rw [ba_size]; omega)
  rw [this, Int.toNat_natCast, Int.toNat_natCast, ba_extract, List.drop_take]

set_option maxRecDepth 100000 in
set_option maxHeartbeats 4000000 in
theorem decodeR_any (b : List UInt8) (w : World) (hbl : b.length ≤ 1000000) :
    Calls Try.prog 20 #[.string ⟨b.toArray⟩] w fun e w' => ∃ u, e = .returned (.tuple #[u, .bool (Et.decOk b)]) ∧ Ents w' w'.heap.size u (Et.decL b) ∧ Below w.heap.size w w' := by
  have hsz := ba_size b
  obtain ⟨S, hS⟩ : ∃ S, (⟨b.toArray⟩ : ByteArray) = S := ⟨_, rfl⟩
  rw [hS] at hsz ⊢
  have HS := Lib.hid hS
  clear hS
  go_enter Try.func20, Try.ntmps20
  go_wp2
  go_loopw [4, 5] (fun vl i wr => ∃ (l : List E) (p : Nat), Hid (Et.Stands b l (b.drop p)) ∧ Hid (Short l) ∧ l.length ≤ p ∧ p ≤ b.length ∧ i = .int .i64 p ∧ wr.ownsRow w.heap.size 28 3 vl l.length (ecells l) ∧ Below w.heap.size w wr) (fun _ i _ => b.length - (intOf i).toNat)
  case atStart => exact ⟨[], 0, Lib.hid (by rw [List.drop_zero]; exact Et.stands_start b), Lib.hid (fun y hy => absurd hy List.not_mem_nil), Nat.le_refl _, Nat.zero_le _, rfl, World.ownsRow_nil _ _ _ _, Below.refl _ _⟩
  case round =>
    obtain ⟨l, p, HST, HSH, hlp, hp, rfl, hown, hbr⟩ := hrel
    obtain ⟨A2, c2, rfl⟩ := own_slice hown
    by_cases h0 : p < b.length
    · have HNE : Hid (b.drop p ≠ []) := Lib.hid (List.length_pos_iff.1 (by rw [List.length_drop]; omega))
      by_cases h3 : p + 3 ≤ b.length
      · have hg0 : ∀ k, (b.drop p).getD k 0 = b.getD (p + k) 0 := fun k => by simp [List.getD, List.getElem?_drop]
        have HEO := Lib.hid (show Et.entOf (b.drop p) = ⟨(b.drop (p + 3)).take (b.getD (p + 2) 0).toNat, ((b.getD p 0).toNat : Int), ((b.getD (p + 1) 0).toNat : Int)⟩ by
          unfold Et.entOf
          rw [hg0, hg0, hg0, List.drop_drop]
          rfl)
        have HRO := Lib.hid (show Et.restOf (b.drop p) = b.drop (p + 3 + (b.getD (p + 2) 0).toNat) by
          unfold Et.restOf
          rw [hg0, List.drop_drop, List.drop_drop, Nat.add_assoc])
        have HBD := Lib.hid (show Et.badB (b.drop p) = decide (b.length < p + 3 + (b.getD (p + 2) 0).toNat) by
          unfold Et.badB
          rw [hg0, List.drop_drop, List.length_drop, List.length_drop, decide_eq_false (by omega), Bool.false_or]
          congr 1
          rw [eq_iff_iff]
          omega)
        have hi0 := run_idx HS.out p (by omega) (p : Int) rfl
        have hi1 := run_idx HS.out (p + 1) (by omega) ((p : Int) + 1) (by omega)
        have hi2 := run_idx HS.out (p + 2) (by omega) ((p : Int) + 2) (by omega)
        have v0 : (b.getD p 0).toNat < 256 := UInt8.toNat_lt _
        have v1 : (b.getD (p + 1) 0).toNat < 256 := UInt8.toNat_lt _
        have v2 : (b.getD (p + 2) 0).toNat < 256 := UInt8.toNat_lt _
        clear hg0
        generalize (b.getD p 0).toNat = V0 at *
        generalize (b.getD (p + 1) 0).toNat = V1 at *
        generalize (b.getD (p + 2) 0).toNat = V2 at *
        have hwr : IntKind.i64.wrap (V2 : Int) = (V2 : Int) := IntWalk.i64_in _ (by omega)
        have h3' : ¬ (b.length : Int) < (p : Int) + 3 := by omega
        by_cases hbd : b.length < p + 3 + V2
        · have HX := Lib.hid (Et.stands_bad HST.out HNE.out (by rw [HBD.out]; exact decide_eq_true hbd))
          have hbd' : (b.length : Int) < (p : Int) + 3 + (V2 : Int) := by omega
          clear hbd
          go_wp2
          go_ret2
          exact ⟨.slice none 0 0, by rw [HX.out.1]; rfl, by rw [HX.out.2]; exact Rds.nil_ _ _ _, hbr⟩
        · have HGOOD : Hid (Et.badB (b.drop p) = false) := Lib.hid (by rw [HBD.out]; exact decide_eq_false hbd)
          have hbd' : ¬ (b.length : Int) < (p : Int) + 3 + (V2 : Int) := by omega
          have hsub := run_sub HS.out (p + 3) (p + 3 + V2) (by omega) (by omega) ((p : Int) + 3) ((p : Int) + 3 + (V2 : Int)) (by omega) (by omega)
          rw [show p + 3 + V2 - (p + 3) = V2 by omega] at hsub
          obtain ⟨nm, hnm⟩ : ∃ nm, (b.drop (p + 3)).take V2 = nm := ⟨_, rfl⟩
          rw [hnm] at hsub HEO
          have HSN : Hid (nm.length < 1099511627776) := Lib.hid (by rw [← hnm]; have := List.length_take_le V2 (b.drop (p + 3)); omega)
          clear hnm
          go_upto_region 7 with fail
          have hG0 : Below wr.heap.size wr wr.drew := (Below.refl _ _).drew
          refine wp_region_then 22 20 [(fun y_ _ => y_ = .slice A2 l.length c2),
            (fun y_ _ => y_ = .string S),
            (fun y_ _ => y_ = .int .i64 (p : Int)),
            (fun y_ _ => y_ = .int .i64 ((p : Int) + 3)),
            (fun y_ _ => y_ = .int .i64 (p : Int)),
            (fun y_ _ => y_ = .int .i64 ((p : Int) + 3)),
            (fun y_ _ => y_ = .int .i64 (V2 : Int)),
            (fun y_ _ => y_ = .int .i64 ((p : Int) + 3 + (V2 : Int))),
            (fun y_ _ => y_ = .string ⟨nm.toArray⟩),
            (fun y_ _ => y_ = .string S),
            (fun y_ _ => y_ = .int .i64 (p : Int)),
            (fun y_ _ => y_ = .int .u8 (V0 : Int)),
            (fun y_ _ => y_ = .int .i64 (V0 : Int)),
            (fun y_ _ => y_ = .string S),
            (fun y_ _ => y_ = .int .i64 (p : Int)),
            (fun y_ _ => y_ = .int .i64 ((p : Int) + 1)),
            (fun y_ _ => y_ = .int .u8 (V1 : Int)),
            (fun y_ _ => y_ = .int .i64 (V1 : Int)),
            (fun y_ _ => y_ = .agg #[.string ⟨nm.toArray⟩, .int .i64 (V0 : Int), .int .i64 (V1 : Int)]),
            (fun u q => ∃ g, u = .slice (some ⟨g, 0, none⟩) 1 1 ∧ Blk q g 28 (ecells [⟨nm, (V0 : Int), (V1 : Int)⟩]) ∧ wr.heap.size ≤ g)]
            (fun q => Below wr.heap.size wr q) (by kernel_rfl) rfl (by decide) (by kernel_rfl) (by kernel_rfl) ?_ ?_ ?_ ?_
          · exact hG0
          · exact ⟨stab_eq _, stab_eq _, stab_eq _, stab_eq _, stab_eq _, stab_eq _, stab_eq _, stab_eq _, stab_eq _, stab_eq _, stab_eq _, stab_eq _, stab_eq _, stab_eq _, stab_eq _, stab_eq _, stab_eq _, stab_eq _, stab_eq _, fun _ _ _ ⟨g, h1, h2, h3⟩ hb => ⟨g, h1, h2.ext hb, h3⟩, trivial⟩
          · refine ⟨?_, ?_, ?_, ?_, ?_, ?_, ?_, ?_, ?_, ?_, ?_, ?_, ?_, ?_, ?_, ?_, ?_, ?_, ?_, ?_, trivial⟩
            · intro a x hG hd hs K hK
              have h4 : a.tmps.getD 4 undef = .slice A2 l.length c2 := hs 4 (by kernel_rfl)
              clear hd hs
              refine wpOp_plain rfl rfl ?_
              go_simp
              exact hK _ _ rfl hG (Below.refl _ _)
            · intro a x hG hd hs K hK
              have h0 : a.tmps.getD 0 undef = .string S := hs 0 (by kernel_rfl)
              clear hd hs
              refine wpOp_plain rfl rfl ?_
              go_simp
              exact hK _ _ rfl hG (Below.refl _ _)
            · intro a x hG hd hs K hK
              have h5 : a.tmps.getD 5 undef = .int .i64 (p : Int) := hs 5 (by kernel_rfl)
              clear hd hs
              refine wpOp_plain rfl rfl ?_
              go_simp
              exact hK _ _ rfl hG (Below.refl _ _)
            · intro a x hG hd hs K hK
              have h36 : a.tmps.getD 36 undef = .int .i64 (p : Int) := hd 2 36 (by kernel_rfl)
              clear hd hs
              refine wpOp_plain rfl rfl ?_
              have hwr3 : IntKind.i64.wrap ((p : Int) + 3) = (p : Int) + 3 := IntWalk.i64_in _ (by omega)
              go_simp
              exact hK _ _ rfl hG (Below.refl _ _)
            · intro a x hG hd hs K hK
              have h5 : a.tmps.getD 5 undef = .int .i64 (p : Int) := hs 5 (by kernel_rfl)
              clear hd hs
              refine wpOp_plain rfl rfl ?_
              go_simp
              exact hK _ _ rfl hG (Below.refl _ _)
            · intro a x hG hd hs K hK
              have h38 : a.tmps.getD 38 undef = .int .i64 (p : Int) := hd 4 38 (by kernel_rfl)
              clear hd hs
              refine wpOp_plain rfl rfl ?_
              have hwr3 : IntKind.i64.wrap ((p : Int) + 3) = (p : Int) + 3 := IntWalk.i64_in _ (by omega)
              go_simp
              exact hK _ _ rfl hG (Below.refl _ _)
            · intro a x hG hd hs K hK
              have h6 : a.tmps.getD 6 undef = .int .i64 (V2 : Int) := hs 6 (by kernel_rfl)
              clear hd hs
              refine wpOp_plain rfl rfl ?_
              go_simp
              exact hK _ _ rfl hG (Below.refl _ _)
            · intro a x hG hd hs K hK
              have h39 : a.tmps.getD 39 undef = .int .i64 ((p : Int) + 3) := hd 5 39 (by kernel_rfl)
              have h40 : a.tmps.getD 40 undef = .int .i64 (V2 : Int) := hd 6 40 (by kernel_rfl)
              clear hd hs
              refine wpOp_plain rfl rfl ?_
              have hwr3 : IntKind.i64.wrap ((p : Int) + 3 + (V2 : Int)) = (p : Int) + 3 + (V2 : Int) := IntWalk.i64_in _ (by omega)
              go_simp
              exact hK _ _ rfl hG (Below.refl _ _)
            · intro a x hG hd hs K hK
              have h35 : a.tmps.getD 35 undef = .string S := hd 1 35 (by kernel_rfl)
              have h37 : a.tmps.getD 37 undef = .int .i64 ((p : Int) + 3) := hd 3 37 (by kernel_rfl)
              have h41 : a.tmps.getD 41 undef = .int .i64 ((p : Int) + 3 + (V2 : Int)) := hd 7 41 (by kernel_rfl)
              clear hd hs
              refine wpOp_plain rfl rfl ?_
              have hr := hsub x
              go_simp
              exact hK _ _ rfl hG (Below.refl _ _)
            · intro a x hG hd hs K hK
              have h0 : a.tmps.getD 0 undef = .string S := hs 0 (by kernel_rfl)
              clear hd hs
              refine wpOp_plain rfl rfl ?_
              go_simp
              exact hK _ _ rfl hG (Below.refl _ _)
            · intro a x hG hd hs K hK
              have h5 : a.tmps.getD 5 undef = .int .i64 (p : Int) := hs 5 (by kernel_rfl)
              clear hd hs
              refine wpOp_plain rfl rfl ?_
              go_simp
              exact hK _ _ rfl hG (Below.refl _ _)
            · intro a x hG hd hs K hK
              have h43 : a.tmps.getD 43 undef = .string S := hd 9 43 (by kernel_rfl)
              have h44 : a.tmps.getD 44 undef = .int .i64 (p : Int) := hd 10 44 (by kernel_rfl)
              clear hd hs
              refine wpOp_plain rfl rfl ?_
              have hr := hi0 x
              go_simp
              exact hK _ _ rfl hG (Below.refl _ _)
            · intro a x hG hd hs K hK
              have h45 : a.tmps.getD 45 undef = .int .u8 (V0 : Int) := hd 11 45 (by kernel_rfl)
              clear hd hs
              refine wpOp_plain rfl rfl ?_
              have hwr : IntKind.i64.wrap (V0 : Int) = (V0 : Int) := IntWalk.i64_in _ (by omega)
              go_simp
              exact hK _ _ rfl hG (Below.refl _ _)
            · intro a x hG hd hs K hK
              have h0 : a.tmps.getD 0 undef = .string S := hs 0 (by kernel_rfl)
              clear hd hs
              refine wpOp_plain rfl rfl ?_
              go_simp
              exact hK _ _ rfl hG (Below.refl _ _)
            · intro a x hG hd hs K hK
              have h5 : a.tmps.getD 5 undef = .int .i64 (p : Int) := hs 5 (by kernel_rfl)
              clear hd hs
              refine wpOp_plain rfl rfl ?_
              go_simp
              exact hK _ _ rfl hG (Below.refl _ _)
            · intro a x hG hd hs K hK
              have h48 : a.tmps.getD 48 undef = .int .i64 (p : Int) := hd 14 48 (by kernel_rfl)
              clear hd hs
              refine wpOp_plain rfl rfl ?_
              have hwr3 : IntKind.i64.wrap ((p : Int) + 1) = (p : Int) + 1 := IntWalk.i64_in _ (by omega)
              go_simp
              exact hK _ _ rfl hG (Below.refl _ _)
            · intro a x hG hd hs K hK
              have h47 : a.tmps.getD 47 undef = .string S := hd 13 47 (by kernel_rfl)
              have h49 : a.tmps.getD 49 undef = .int .i64 ((p : Int) + 1) := hd 15 49 (by kernel_rfl)
              clear hd hs
              refine wpOp_plain rfl rfl ?_
              have hr := hi1 x
              go_simp
              exact hK _ _ rfl hG (Below.refl _ _)
            · intro a x hG hd hs K hK
              have h50 : a.tmps.getD 50 undef = .int .u8 (V1 : Int) := hd 16 50 (by kernel_rfl)
              clear hd hs
              refine wpOp_plain rfl rfl ?_
              have hwr : IntKind.i64.wrap (V1 : Int) = (V1 : Int) := IntWalk.i64_in _ (by omega)
              go_simp
              exact hK _ _ rfl hG (Below.refl _ _)
            · intro a x hG hd hs K hK
              have h42 : a.tmps.getD 42 undef = .string ⟨nm.toArray⟩ := hd 8 42 (by kernel_rfl)
              have h42o := getD_opt h42
              have h46 : a.tmps.getD 46 undef = .int .i64 (V0 : Int) := hd 12 46 (by kernel_rfl)
              have h46o := getD_opt h46
              have h51 : a.tmps.getD 51 undef = .int .i64 (V1 : Int) := hd 17 51 (by kernel_rfl)
              have h51o := getD_opt h51
              clear hd hs
              refine wpOp_plain rfl rfl ?_
              go_simp
              exact hK _ _ rfl hG (Below.refl _ _)
            · intro a x hG hd hs K hK
              have h52 : a.tmps.getD 52 undef = .agg #[.string ⟨nm.toArray⟩, .int .i64 (V0 : Int), .int .i64 (V1 : Int)] := hd 18 52 (by kernel_rfl)
              have h52o := getD_opt h52
              clear hd hs
              refine wpOp_plain rfl rfl ?_
              go_simp
              exact hK _ _ ⟨x.heap.size, rfl, Blk.new x _ _, hG.size⟩ (hG.alloc hG.size _) ((Below.refl _ _).alloc (Nat.le_refl _) _)
          · intro x hG
            rintro _ rfl _ rfl _ rfl _ rfl _ rfl _ rfl _ rfl _ rfl _ rfl _ rfl _ rfl _ rfl _ rfl _ rfl _ rfl _ rfl _ rfl _ rfl _ rfl v19 hv19
            simp only [Act.put, List.setIfInBounds_toArray, List.set_cons_zero, List.set_cons_succ, List.take_zero, REnd]
            rw [show List.range' 20 (22 - 20) = [20, 21] from rfl, wpOps_cons]
            obtain ⟨gn, rfl, kn, hgn⟩ := hv19
            have hown3 := own_ext hown hG
            have hr := kn.rds 0 1 1 3 (by show 0 + 1 * 3 ≤ 3; decide) (Nat.le_refl _) (by simp [maxLen])
            rw [List.drop_zero, List.take_of_length_le (show (3 : Nat) ≤ 1 * 3 by decide)] at hr
            obtain ⟨v', wa, hruna, howna, hgra, _⟩ := run_append_rds (P := Try.prog) (ty := 22) Try.underlying22 infoEty rfl (by decide) hown3 hr (ecells_one _) (by rw [maxLen_eq]; omega) (by omega) (Nat.le_trans hbr.size hG.size)
            refine wpOp_plain rfl rfl ?_
            refine wp_append 34 53 22 rfl rfl rfl hruna ?_
            rw [wpOps_cons]
            refine wpOp_plain rfl rfl ?_
            obtain ⟨A', c', rfl⟩ := own_slice howna
            have hbl2 := (hbr.trans (hG.mono hbr.size)).grown hgra (Nat.le_trans hbr.size hG.size) (fun g e => (hown3.lt g e).1)
            have HSTEP := Lib.hid (Et.stands_step HST.out HNE.out HGOOD.out)
            rw [HEO.out, HRO.out] at HSTEP
            rw [← ecells_app] at howna
            have HOW := Lib.hid howna
            clear hruna howna hgra hown3 hown kn hr hG hG0
            simp only [Act.put]
            go_simp
            unfold wpOps
            simp only [Exit.then]
            go_wp2
            go_roundw
            case rel =>
              refine ⟨l ++ [⟨nm, (V0 : Int), (V1 : Int)⟩], p + 3 + V2, HSTEP, Lib.hid ?_, by rw [List.length_append, List.length_singleton]; omega, by omega, congrArg (Value.int .i64) (by omega), by rw [List.length_append, List.length_singleton]; exact HOW.out, hbl2⟩
              intro y hy
              rcases List.mem_append.1 hy with hy | hy
              · exact HSH.out y hy
              · rw [List.mem_singleton.1 hy]; exact HSN.out
            case measure => simp [intOf]; omega
      · have HX := Lib.hid (Et.stands_bad HST.out HNE.out (by unfold Et.badB; rw [List.length_drop, decide_eq_true (by omega), Bool.true_or]))
        have h3' : (b.length : Int) < (p : Int) + 3 := by omega
        clear h3
        go_wp2
        go_ret2
        exact ⟨.slice none 0 0, by rw [HX.out.1]; rfl, by rw [HX.out.2]; exact Rds.nil_ _ _ _, hbr⟩
    · obtain rfl : p = b.length := by omega
      have HEND := Lib.hid (Et.stands_end (b := b) (l := l) (by have := HST.out; rwa [List.drop_length] at this))
      have HL := Lib.hid (Ents.of_own hown rfl rfl)
      clear hown
      go_wp2_with fail
      refine (mayR_any _ l wr HL.out HSH.out).mono ?_
      rintro e w2 ⟨rfl, b2⟩
      have d2 := hbr.trans (b2.mono hbr.size)
      have HL2 := Lib.hid ((HL.out.below b2).more b2.size)
      cases hml : Et.mayB l with
      | false =>
        have HX : Hid (Et.decOk b = false ∧ Et.decL b = []) := Lib.hid (by rw [HEND.out.1, HEND.out.2, hml]; exact ⟨rfl, rfl⟩)
        clear hml
        go_wp2
        go_ret2
        exact ⟨.slice none 0 0, by rw [HX.out.1]; rfl, by rw [HX.out.2]; exact Rds.nil_ _ _ _, d2⟩
      | true =>
        have HX : Hid (Et.decOk b = true ∧ Et.decL b = l) := Lib.hid (by rw [HEND.out.1, HEND.out.2, hml]; exact ⟨rfl, rfl⟩)
        clear hml
        go_wp2
        go_ret2
        exact ⟨.slice A2 l.length c2, by rw [HX.out.1]; rfl, by rw [HX.out.2]; exact HL2.out, d2⟩
end Go.Proofs.Ytahkhieoabbaaaa
