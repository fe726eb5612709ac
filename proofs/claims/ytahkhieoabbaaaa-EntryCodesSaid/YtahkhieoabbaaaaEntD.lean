/-
  Decode of package entry. By an AI agent.
-/
import Derived.Test.YtahkhieoabbaaaaEntA
import Derived.Test.YtahkhieoabbaaaaPackW
import Derived.Test.YtahkhieoabbaaaaRegT
namespace Go.Proofs.Ytahkhieoabbaaaa
open Go.RowKit Go.ChangeShapes Go.WideShapes Go.ChangeAt
open Et (E)

theorem val_one (l : List UInt8) (k : Nat) (h : k < l.length) : Pk.val ((l.drop k).take 1) = (l.getD k 0).toNat := by
  rw [List.drop_eq_getElem_cons h, List.take_succ_cons, List.take_zero]
  simp [Pk.val, List.getD, h]
theorem uerr_3 (l : List UInt8) (h : 3 ≤ l.length) : Pk.uerr l [1, 1, 1] = 0 ∧ Pk.unpacked l [1, 1, 1] = [(l.getD 0 0).toNat, (l.getD 1 0).toNat, (l.getD 2 0).toNat] := by
  have e : Pk.uerr l [1, 1, 1] = 0 := by
    unfold Pk.uerr
    rw [if_pos (by decide), if_neg (by rw [show Pk.need [1, 1, 1] = 3 from rfl]; omega)]
  refine ⟨e, ?_⟩
  unfold Pk.unpacked
  rw [if_pos e]
  simp only [Pk.nums, List.drop_drop]
  rw [← val_one l 0 (by omega), ← val_one l 1 (by omega), ← val_one l 2 (by omega)]
  rfl
theorem uerr_3s (l : List UInt8) (h : l.length < 3) : Pk.uerr l [1, 1, 1] = 2 := by
  unfold Pk.uerr
  rw [if_pos (by decide), if_pos (by rw [show Pk.need [1, 1, 1] = 3 from rfl]; omega)]
theorem us_three {w : World} {B : Nat} {v : Value} {x y z : Nat} (h : Us w B v [x, y, z]) : ∃ bx ox cx, v = .slice (some ⟨bx, ox, none⟩) 3 cx ∧ 3 ≤ cx ∧ bx < B ∧ w.cell? ⟨bx, ox, none⟩ = some (.int .u64 (x : Int)) ∧ w.cell? ⟨bx, ox + 1, none⟩ = some (.int .u64 (y : Int)) ∧ w.cell? ⟨bx, ox + 2, none⟩ = some (.int .u64 (z : Int)) := by
  obtain ⟨A, cx, h1, h2, h3, h4, h5⟩ := h
  obtain ⟨bx, ox, rfl, hb, hc⟩ := h5 (by simp)
  exact ⟨bx, ox, cx, h1, h2, hb, hc 0 _ rfl, hc 1 _ rfl, hc 2 _ rfl⟩
theorem run_tailB (A : Option Addr) (n c k : Nat) (hk : k ≤ n) (z : Int) (hz : z = k) (W : World) :
    (Instr.slice 29 (.slice A n c) (some (.int .i64 z)) none none).run Try.prog W = .ok (.slice (if c = k then A else A.map (·.add k)) (n - k) (c - k)) W := by
  subst hz
  rw [run_slice_l _ _ _ _ _ (by kernel_rfl) .i64 _ (by omega) (by omega), Int.toNat_natCast]
  have hs : (sizeOf (Try.prog.elem 29)).run Try.prog W = .ok 1 W := by kernel_rfl
  rw [hs]
  simp [Result.andThen, sliced]
theorem run_headB (A : Option Addr) (n c k : Nat) (hk : k ≤ c) (z : Int) (hz : z = k) (W : World) :
    (Instr.slice 29 (.slice A n c) none (some (.int .i64 z)) none).run Try.prog W = .ok (.slice A k c) W := by
  subst hz
  rw [run_slice_h _ _ _ _ _ (by kernel_rfl) .i64 _ (by omega) (by omega), Int.toNat_natCast]
  have hs : (sizeOf (Try.prog.elem 29)).run Try.prog W = .ok 1 W := by kernel_rfl
  rw [hs]
  simp [Result.andThen, sliced]
  intro h
  cases A <;> simp [Addr.add]
/-- r[k:] of octets. -/
theorem bs_cut {w : World} {B : Nat} {A : Option Addr} {c k : Nat} {r : List UInt8} (h : Bs w B (.slice A r.length c) r) (hk : k ≤ r.length) (z : Int) (hz : z = k) :
    ∃ A' c', (∀ W, (Instr.slice 29 (.slice A r.length c) (some (.int .i64 z)) none none).run Try.prog W = .ok (.slice A' (r.drop k).length c') W) ∧ Bs w B (.slice A' (r.drop k).length c') (r.drop k) := by
  have h2 := Bs.tail h hk
  have h1 := run_tailB A r.length c k hk z hz
  rw [← List.length_drop] at h1 h2
  exact ⟨_, _, h1, h2⟩
theorem Bs.fwd {w w' : World} {B : Nat} {v : Value} {l : List UInt8} (h : Bs w B v l) (hb : Below B w w') : Bs w' B v l := Rds.keep h fun _ hp => hb.cell hp

/-- What Decode says. -/
def decE (b : List UInt8) : Int := if Et.decOk b then 0 else 3

set_option maxRecDepth 100000 in
set_option maxHeartbeats 4000000 in
theorem decode_any (v : Value) (b : List UInt8) (w : World) (hb : Bs w w.heap.size v b) :
    Calls Try.prog 19 #[v] w fun e w' => ∃ u, e = .returned (.tuple #[u, .int .i64 (decE b)]) ∧ Ents w' w'.heap.size u (Et.decL b) ∧ Below w.heap.size w w' := by
  have HBB := Lib.hid hb
  have HNO : Hid (Et.decOk b = false ∧ Et.decL b = [] → decE b = 3) := Lib.hid (fun h => by unfold decE; rw [h.1]; rfl)
  clear hb
  go_enter Try.func19, Try.ntmps19
  go_wp2
  go_loopw [0, 4] (fun vb vl wr => ∃ (l : List E) (r : List UInt8), Hid (Et.Stands b l r) ∧ Hid (Short l) ∧ l.length ≤ 30 ∧ Hid (Bs wr w.heap.size vb r) ∧ wr.ownsRow w.heap.size 28 3 vl l.length (ecells l) ∧ Below w.heap.size w wr) (fun vb _ _ => match vb with | .slice _ n _ => n | _ => 0)
  case atStart => exact ⟨[], b, Lib.hid (Et.stands_start b), Lib.hid (fun y hy => absurd hy List.not_mem_nil), Nat.zero_le _, HBB, World.ownsRow_nil _ _ _ _, Below.refl _ _⟩
  case round =>
    obtain ⟨l, r, HST, HSH, hl30, HB, hown, hbr⟩ := hrel
    obtain ⟨A, c, rfl, hrc, hcm, _⟩ := HB.out.open_
    obtain ⟨A2, c2, rfl⟩ := own_slice hown
    by_cases h0 : 0 < r.length
    · have HNE : Hid (r ≠ []) := Lib.hid (List.length_pos_iff.1 h0)
      by_cases h3 : 3 ≤ r.length
      · go_wp2_with fail
        have b1 := (Below.refl wr.heap.size wr).alloc (Nat.le_refl _) (.cells #[.int .i64 1, .int .i64 1, .int .i64 1] 3)
        obtain ⟨ue, uv⟩ := uerr_3 r h3
        refine (unpack_any _ _ _ (wr.heap.size + 1) r [1, 1, 1] (Bs.more (HB.out.ext hbr.size b1) (by have := hbr.size; omega)) (Is.lit .i64 wr _ _ [1, 1, 1] 3 rfl rfl (by simp [maxLen])) (by simp) (by simp)).mono ?_
        rintro e w2 ⟨x, rfl, hownu, hb2⟩
        rw [ue]
        rw [uv] at hownu
        have c2 := b1.trans (hb2.mono b1.size)
        have hsx : Us w2 w2.heap.size x _ := Us.of_own hownu
        have HEO := Lib.hid (show Et.entOf r = ⟨(r.drop 3).take (r.getD 2 0).toNat, ((r.getD 0 0).toNat : Int), ((r.getD 1 0).toNat : Int)⟩ from rfl)
        have HRO := Lib.hid (show Et.restOf r = (r.drop 3).drop (r.getD 2 0).toNat from rfl)
        have HBD := Lib.hid (show Et.badB r = decide ((r.drop 3).length < (r.getD 2 0).toNat) by unfold Et.badB; rw [decide_eq_false (by omega), Bool.false_or])
        have v0 : (r.getD 0 0).toNat < 256 := UInt8.toNat_lt _
        have v1 : (r.getD 1 0).toNat < 256 := UInt8.toNat_lt _
        have v2 : (r.getD 2 0).toNat < 256 := UInt8.toNat_lt _
        generalize (r.getD 0 0).toNat = V0 at *
        generalize (r.getD 1 0).toNat = V1 at *
        generalize (r.getD 2 0).toNat = V2 at *
        obtain ⟨bx, ox, cx, rfl, hcx, hbx, hx0, hx1, hx2⟩ := us_three hsx
        have hown2 := own_ext hown c2
        have hbs2 := HB.out.ext hbr.size c2
        have d2 := hbr.trans (c2.mono hbr.size)
        clear hsx hownu uv ue hown c2 b1 hb2
        by_cases hm : l.length = 30
        · have HX := Lib.hid (Et.stands_many HST.out HNE.out (by omega))
          have hm' : (l.length : Int) = 30 := by omega
          clear hm
          go_wp2
          go_ret2
          exact ⟨.slice none 0 0, by rw [HNO.out HX.out]; rfl, by rw [HX.out.2]; exact Rds.nil_ _ _ _, d2⟩
        · have hm' : ¬ (l.length : Int) = 30 := by omega
          have hl29 : l.length < 30 := by omega
          clear hm
          obtain ⟨A3, c3, hcut, hb3⟩ := bs_cut hbs2 h3 3 rfl
          have HL3 := Lib.hid (show (r.drop 3).length = r.length - 3 from List.length_drop)
          obtain ⟨r3, hr3⟩ : ∃ r3, r.drop 3 = r3 := ⟨_, rfl⟩
          rw [hr3] at hcut hb3 HEO HRO HBD HL3
          clear hr3
          have hwr : IntKind.i64.wrap (V2 : Int) = (V2 : Int) := IntWalk.i64_in _ (by omega)
          by_cases hbd : r3.length < V2
          · have HX := Lib.hid (Et.stands_bad HST.out HNE.out (by rw [HBD.out]; exact decide_eq_true hbd))
            have hbd' : (r3.length : Int) < (V2 : Int) := by omega
            clear hbd
            go_wp2
            go_ret2
            exact ⟨.slice none 0 0, by rw [HNO.out HX.out]; rfl, by rw [HX.out.2]; exact Rds.nil_ _ _ _, d2⟩
          · have HGOOD : Hid (Et.badB r = false) := Lib.hid (by rw [HBD.out]; exact decide_eq_false hbd)
            have hv2 : V2 ≤ r3.length := by omega
            have hbd' : ¬ (r3.length : Int) < (V2 : Int) := by omega
            obtain ⟨_, _, hse, hrc3, hcm3, _⟩ := hb3.open_
            cases hse
            have hhd := fun W => run_headB A3 r3.length c3 V2 (by omega) (V2 : Int) rfl W
            have hbh := Bs.head hb3 hv2
            obtain ⟨A4, c4, hcut4, hb4⟩ := bs_cut hb3 hv2 (V2 : Int) rfl
            have HB4 := Lib.hid hb4
            have HBH := Lib.hid hbh
            clear hbd hbs2 hb3 hb4 hbh
            go_upto_region 10 with fail
            have hG0 : Below w2.heap.size w2 w2.drew := (Below.refl _ _).drew
            refine wp_region_then 17 15 [(fun y_ _ => y_ = .slice A2 l.length c2),
              (fun y_ _ => y_ = .slice A3 r3.length c3),
              (fun y_ _ => y_ = .int .i64 (V2 : Int)),
              (fun y_ _ => y_ = .slice A3 V2 c3),
              (fun y_ _ => y_ = .string ⟨(r3.take V2).toArray⟩),
              (fun y_ _ => y_ = .slice (some ⟨bx, ox, none⟩) 3 cx),
              (fun y_ _ => y_ = .pointer (some ⟨bx, ox, none⟩)),
              (fun y_ _ => y_ = .int .u64 (V0 : Int)),
              (fun y_ _ => y_ = .int .i64 (V0 : Int)),
              (fun y_ _ => y_ = .slice (some ⟨bx, ox, none⟩) 3 cx),
              (fun y_ _ => y_ = .pointer (some ⟨bx, ox + 1, none⟩)),
              (fun y_ _ => y_ = .int .u64 (V1 : Int)),
              (fun y_ _ => y_ = .int .i64 (V1 : Int)),
              (fun y_ _ => y_ = .agg #[.string ⟨(r3.take V2).toArray⟩, .int .i64 (V0 : Int), .int .i64 (V1 : Int)]),
              (fun u q => ∃ g, u = .slice (some ⟨g, 0, none⟩) 1 1 ∧ Blk q g 28 (ecells [⟨r3.take V2, (V0 : Int), (V1 : Int)⟩]) ∧ w2.heap.size ≤ g)]
              (fun q => Below w2.heap.size w2 q) (by kernel_rfl) rfl (by decide) (by kernel_rfl) (by kernel_rfl) ?_ ?_ ?_ ?_
            · exact hG0
            · exact ⟨stab_eq _, stab_eq _, stab_eq _, stab_eq _, stab_eq _, stab_eq _, stab_eq _, stab_eq _, stab_eq _, stab_eq _, stab_eq _, stab_eq _, stab_eq _, stab_eq _, fun _ _ _ ⟨g, h1, h2, h3⟩ hb => ⟨g, h1, h2.ext hb, h3⟩, trivial⟩
            · refine ⟨?_, ?_, ?_, ?_, ?_, ?_, ?_, ?_, ?_, ?_, ?_, ?_, ?_, ?_, ?_, trivial⟩
              · intro a x hG hd hs K hK
                have h4 : a.tmps.getD 4 undef = .slice A2 l.length c2 := hs 4 (by kernel_rfl)
                clear hd hs
                refine wpOp_plain rfl rfl ?_
                go_simp
                exact hK _ _ rfl hG (Below.refl _ _)
              · intro a x hG hd hs K hK
                have h0 : a.tmps.getD 0 undef = .slice A3 r3.length c3 := hs 0 (by kernel_rfl)
                clear hd hs
                refine wpOp_plain rfl rfl ?_
                go_simp
                exact hK _ _ rfl hG (Below.refl _ _)
              · intro a x hG hd hs K hK
                have h7 : a.tmps.getD 7 undef = .int .i64 (V2 : Int) := hs 7 (by kernel_rfl)
                clear hd hs
                refine wpOp_plain rfl rfl ?_
                go_simp
                exact hK _ _ rfl hG (Below.refl _ _)
              · intro a x hG hd hs K hK
                have h35 : a.tmps.getD 35 undef = .slice A3 r3.length c3 := hd 1 35 (by kernel_rfl)
                have h36 : a.tmps.getD 36 undef = .int .i64 (V2 : Int) := hd 2 36 (by kernel_rfl)
                clear hd hs
                refine wpOp_plain rfl rfl ?_
                have hr := hhd x
                go_simp
                exact hK _ _ rfl hG (Below.refl _ _)
              · intro a x hG hd hs K hK
                have h37 : a.tmps.getD 37 undef = .slice A3 V2 c3 := hd 3 37 (by kernel_rfl)
                clear hd hs
                refine wpOp_plain rfl rfl ?_
                have cv := run_string_of (P := Try.prog) (HBH.out.ext (Nat.le_of_lt_succ (Nat.lt_succ_of_le d2.size)) hG) 29 9 5 Try.underlying29 Try.underlying5 Try.underlying9
                go_simp
                exact hK _ _ rfl hG (Below.refl _ _)
              · intro a x hG hd hs K hK
                have h5 : a.tmps.getD 5 undef = .slice (some ⟨bx, ox, none⟩) 3 cx := hs 5 (by kernel_rfl)
                clear hd hs
                refine wpOp_plain rfl rfl ?_
                go_simp
                exact hK _ _ rfl hG (Below.refl _ _)
              · intro a x hG hd hs K hK
                have h39 : a.tmps.getD 39 undef = .slice (some ⟨bx, ox, none⟩) 3 cx := hd 5 39 (by kernel_rfl)
                clear hd hs
                refine wpOp_plain rfl rfl ?_
                go_simp
                exact hK _ _ rfl hG (Below.refl _ _)
              · intro a x hG hd hs K hK
                have h40 : a.tmps.getD 40 undef = .pointer (some ⟨bx, ox, none⟩) := hd 6 40 (by kernel_rfl)
                clear hd hs
                refine wpOp_plain rfl rfl ?_
                have hc := (hG.cell (p := ⟨bx, ox, none⟩) hbx).trans hx0
                go_simp
                exact hK _ _ rfl hG (Below.refl _ _)
              · intro a x hG hd hs K hK
                have h41 : a.tmps.getD 41 undef = .int .u64 (V0 : Int) := hd 7 41 (by kernel_rfl)
                clear hd hs
                refine wpOp_plain rfl rfl ?_
                have hwr : IntKind.i64.wrap (V0 : Int) = (V0 : Int) := IntWalk.i64_in _ (by omega)
                go_simp
                exact hK _ _ rfl hG (Below.refl _ _)
              · intro a x hG hd hs K hK
                have h5 : a.tmps.getD 5 undef = .slice (some ⟨bx, ox, none⟩) 3 cx := hs 5 (by kernel_rfl)
                clear hd hs
                refine wpOp_plain rfl rfl ?_
                go_simp
                exact hK _ _ rfl hG (Below.refl _ _)
              · intro a x hG hd hs K hK
                have h43 : a.tmps.getD 43 undef = .slice (some ⟨bx, ox, none⟩) 3 cx := hd 9 43 (by kernel_rfl)
                clear hd hs
                refine wpOp_plain rfl rfl ?_
                go_simp
                exact hK _ _ rfl hG (Below.refl _ _)
              · intro a x hG hd hs K hK
                have h44 : a.tmps.getD 44 undef = .pointer (some ⟨bx, ox + 1, none⟩) := hd 10 44 (by kernel_rfl)
                clear hd hs
                refine wpOp_plain rfl rfl ?_
                have hc := (hG.cell (p := ⟨bx, ox + 1, none⟩) hbx).trans hx1
                go_simp
                exact hK _ _ rfl hG (Below.refl _ _)
              · intro a x hG hd hs K hK
                have h45 : a.tmps.getD 45 undef = .int .u64 (V1 : Int) := hd 11 45 (by kernel_rfl)
                clear hd hs
                refine wpOp_plain rfl rfl ?_
                have hwr : IntKind.i64.wrap (V1 : Int) = (V1 : Int) := IntWalk.i64_in _ (by omega)
                go_simp
                exact hK _ _ rfl hG (Below.refl _ _)
              · intro a x hG hd hs K hK
                have h38 : a.tmps.getD 38 undef = .string ⟨(r3.take V2).toArray⟩ := hd 4 38 (by kernel_rfl)
                have h38o := getD_opt h38
                have h42 : a.tmps.getD 42 undef = .int .i64 (V0 : Int) := hd 8 42 (by kernel_rfl)
                have h42o := getD_opt h42
                have h46 : a.tmps.getD 46 undef = .int .i64 (V1 : Int) := hd 12 46 (by kernel_rfl)
                have h46o := getD_opt h46
                clear hd hs
                refine wpOp_plain rfl rfl ?_
                go_simp
                exact hK _ _ rfl hG (Below.refl _ _)
              · intro a x hG hd hs K hK
                have h47 : a.tmps.getD 47 undef = .agg #[.string ⟨(r3.take V2).toArray⟩, .int .i64 (V0 : Int), .int .i64 (V1 : Int)] := hd 13 47 (by kernel_rfl)
                have h47o := getD_opt h47
                clear hd hs
                refine wpOp_plain rfl rfl ?_
                go_simp
                exact hK _ _ ⟨x.heap.size, rfl, Blk.new x _ _, hG.size⟩ (hG.alloc hG.size _) ((Below.refl _ _).alloc (Nat.le_refl _) _)
            · intro x hG
              rintro _ rfl _ rfl _ rfl _ rfl _ rfl _ rfl _ rfl _ rfl _ rfl _ rfl _ rfl _ rfl _ rfl _ rfl v14 hv14
              simp only [Act.put, List.setIfInBounds_toArray, List.set_cons_zero, List.set_cons_succ, List.take_zero, REnd]
              rw [show List.range' 15 (17 - 15) = [15, 16] from rfl, wpOps_cons]
              obtain ⟨gn, rfl, kn, hgn⟩ := hv14
              have hown3 := own_ext hown2 hG
              have hr := kn.rds 0 1 1 3 (by show 0 + 1 * 3 ≤ 3; decide) (Nat.le_refl _) (by simp [maxLen])
              rw [List.drop_zero, List.take_of_length_le (show (3 : Nat) ≤ 1 * 3 by decide)] at hr
              obtain ⟨v', wa, hruna, howna, hgra, _⟩ := run_append_rds (P := Try.prog) (ty := 22) Try.underlying22 infoEty rfl (by decide) hown3 hr (ecells_one _) (by rw [maxLen_eq]; omega) (by omega) (Nat.le_trans d2.size hG.size)
              refine wpOp_plain rfl rfl ?_
              refine wp_append 34 48 22 rfl rfl rfl hruna ?_
              rw [wpOps_cons]
              refine wpOp_plain rfl rfl ?_
              obtain ⟨A', c', rfl⟩ := own_slice howna
              have hbl2 := (d2.trans (hG.mono d2.size)).grown hgra (Nat.le_trans d2.size hG.size) (fun g e => (hown3.lt g e).1)
              have HB5 := Lib.hid (Bs.fwd (HB4.out.ext d2.size hG) ((Below.refl w.heap.size x).grown hgra (Nat.le_trans d2.size hG.size) (fun g e => (hown3.lt g e).1)))
              rw [List.length_drop] at HB5
              have HSTEP := Lib.hid (Et.stands_step HST.out HNE.out HGOOD.out)
              rw [HEO.out, HRO.out] at HSTEP
              rw [← ecells_app] at howna
              have HOW := Lib.hid howna
              have HSN : Hid ((r3.take V2).length < 1099511627776) := Lib.hid (by have := List.length_take_le V2 r3; omega)
              clear hruna howna hgra hown3 hown2 kn hr hG hG0
              simp only [Act.put]
              go_simp
              unfold wpOps
              simp only [Exit.then]
              go_wp2
              go_roundw
              case rel =>
                refine ⟨l ++ [⟨r3.take V2, (V0 : Int), (V1 : Int)⟩], r3.drop V2, HSTEP, Lib.hid ?_, by rw [List.length_append, List.length_singleton]; omega, HB5, by rw [List.length_append, List.length_singleton]; exact HOW.out, hbl2⟩
                intro y hy
                rcases List.mem_append.1 hy with hy | hy
                · exact HSH.out y hy
                · rw [List.mem_singleton.1 hy]; exact HSN.out
              case measure =>
                have := HL3.out
                simp
                omega
      · have HX := Lib.hid (Et.stands_bad HST.out HNE.out (by unfold Et.badB; rw [decide_eq_true (by omega), Bool.true_or]))
        go_wp2_with fail
        have b1 := (Below.refl wr.heap.size wr).alloc (Nat.le_refl _) (.cells #[.int .i64 1, .int .i64 1, .int .i64 1] 3)
        have ue := uerr_3s r (by omega)
        refine (unpack_any _ _ _ (wr.heap.size + 1) r [1, 1, 1] (Bs.more (HB.out.ext hbr.size b1) (by have := hbr.size; omega)) (Is.lit .i64 wr _ _ [1, 1, 1] 3 rfl rfl (by simp [maxLen])) (by simp) (by simp)).mono ?_
        rintro e w2 ⟨x, rfl, hownu, hb2⟩
        rw [ue]
        have c2 := b1.trans (hb2.mono b1.size)
        have d2 := hbr.trans (c2.mono hbr.size)
        obtain ⟨Ax, cx, rfl⟩ := own_slice hownu
        generalize (Pk.unpacked r [1, 1, 1]).length = nx at *
        clear hownu ue c2 b1 hb2
        go_wp2
        go_ret2
        exact ⟨.slice none 0 0, by rw [HNO.out HX.out]; rfl, by rw [HX.out.2]; exact Rds.nil_ _ _ _, d2⟩
    · obtain rfl : r = [] := List.length_eq_zero_iff.1 (by omega)
      have HEND := Lib.hid (Et.stands_end HST.out)
      have HL := Lib.hid (Ents.of_own hown rfl rfl)
      clear hown
      go_wp2_with fail
      refine (may_any _ l wr HL.out HSH.out).mono ?_
      rintro e w2 ⟨rfl, b2⟩
      have d2 := hbr.trans (b2.mono hbr.size)
      have HL2 := Lib.hid ((HL.out.below b2).more b2.size)
      cases hml : Et.mayB l with
      | false =>
        have HX : Hid (Et.decOk b = false ∧ Et.decL b = []) := Lib.hid (by rw [HEND.out.1, HEND.out.2, hml]; exact ⟨rfl, rfl⟩)
        clear hml
        go_wp2
        go_ret2
        exact ⟨.slice none 0 0, by rw [HNO.out HX.out]; rfl, by rw [HX.out.2]; exact Rds.nil_ _ _ _, d2⟩
      | true =>
        have HX : Hid (decE b = 0 ∧ Et.decL b = l) := Lib.hid (by unfold decE; rw [HEND.out.1, HEND.out.2, hml]; exact ⟨rfl, rfl⟩)
        clear hml
        go_wp2
        go_ret2
        exact ⟨.slice A2 l.length c2, by rw [HX.out.1]; rfl, by rw [HX.out.2]; exact HL2.out, d2⟩
end Go.Proofs.Ytahkhieoabbaaaa
