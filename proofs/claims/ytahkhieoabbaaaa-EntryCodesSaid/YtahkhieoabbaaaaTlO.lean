/-
  The walk of the reference's Order: it is that of the octets. By an AI agent.
-/
import Derived.Test.YtahkhieoabbaaaaTlS
import Derived.Deep.DeepCutAuto
namespace Go.Proofs.Ytahkhieoabbaaaa
open Go.RowKit
open Tl (It)

theorem infoInt : (Try.prog.info? 3).map (fun i => (i.zero, i.size, i.bytes)) = some (some (.int .i64 0), 1, 8) := by kernel_rfl

/-- How two lists of numbers compare from a place on. -/
theorem cmp_step (V W : List Int) (k : Nat) (h1 : k < V.length) (h2 : k < W.length) : Tl.cmpI (V.drop k) (W.drop k) = if V[k] < W[k] then -1 else if W[k] < V[k] then 1 else Tl.cmpI (V.drop (k + 1)) (W.drop (k + 1)) := by
  rw [List.drop_eq_getElem_cons h1, List.drop_eq_getElem_cons h2, Tl.cmpI]
theorem cmp_end (V W : List Int) (k : Nat) (hk : k ≤ V.length) (hk2 : k ≤ W.length) (h : ¬ (k < V.length ∧ k < W.length)) : Tl.cmpI (V.drop k) (W.drop k) = if V.length < W.length then -1 else if W.length < V.length then 1 else 0 := by
  by_cases h1 : k < V.length
  · have : W.drop k = [] := List.drop_eq_nil_of_le (by omega)
    rw [this, List.drop_eq_getElem_cons h1, if_neg (by omega), if_pos (by omega)]; rfl
  · have e1 : V.drop k = [] := List.drop_eq_nil_of_le (by omega)
    rw [e1]
    by_cases h2 : k < W.length
    · rw [List.drop_eq_getElem_cons h2, if_pos (by omega)]; rfl
    · rw [List.drop_eq_nil_of_le (by omega), if_neg (by omega), if_neg (by omega)]; rfl
theorem map_snoc {α β : Type} (f : α → β) (xs : List α) (k : Nat) (h : k < xs.length) : (xs.take (k + 1)).map f = (xs.take k).map f ++ [f xs[k]] := by
  rw [List.take_succ_eq_append_getElem h, List.map_append]; rfl
theorem ord_odd (a b : List UInt8) : (if 0 < Tl.cntO a + Tl.cntO b then Tl.cmpI (Tl.nums a) (Tl.nums b) else Tl.cmpI (Tl.vals a) (Tl.vals b)) = Tl.ord a b := by
  split
  · rfl
  · exact (Tl.ord_vals _ a b (Nat.le_refl _) (Tl.cntO_zero (by omega)) (Tl.cntO_zero (by omega))).symm

/-- What stands when the two lists are made: as the walk's last part takes them. -/
def OrdAt (a b : List UInt8) (v u : Value) (w : World) : Prop := ∃ V W : List Int, Is .i64 w w.heap.size v V ∧ Is .i64 w w.heap.size u W ∧ Tl.cmpI V W = Tl.ord a b ∧ V.length ≤ 1099511627776 ∧ W.length ≤ 1099511627776

set_option maxRecDepth 100000 in
set_option maxHeartbeats 8000000 in
theorem orderR_any (a b : List UInt8) (w : World) (ha : a.length < 1099511627776) (hb : b.length < 1099511627776) :
    Calls Try.prog 30 #[.string ⟨a.toArray⟩, .string ⟨b.toArray⟩] w fun e w' => e = .returned (.int .i64 (Tl.ord a b)) ∧ Below w.heap.size w w' := by
  have HOD := Lib.hid (ord_odd a b)
  have hra := Tl.runes_len a
  have hrb := Tl.runes_len b
  have hca := Tl.cnt_all a
  have hcb := Tl.cnt_all b
  go_enter Try.func30, Try.ntmps30
  go_wp2_with fail
  refine (runes_any a _ ha).mono ?_
  rintro e w1 ⟨v1, rfl, hr1, b1⟩
  go_wp2_with fail
  refine (runes_any b _ hb).mono ?_
  rintro e w2 ⟨v2, rfl, hr2, b2⟩
  have c2 := b1.trans (b2.mono b1.size)
  have hr1' : Rns w2 w2.heap.size v1 (Tl.runes a) := Rds.more (Rds.ext hr1 (Nat.le_refl _) b2) b2.size
  clear hr1 b1 b2
  go_wp2_with fail
  refine (countR_any a _ ha).mono ?_
  rintro e w3 ⟨rfl, b3⟩
  have c3 := c2.trans (b3.mono c2.size)
  have hr1 : Rns w3 w3.heap.size v1 (Tl.runes a) := Rds.more (Rds.ext hr1' (Nat.le_refl _) b3) b3.size
  have hr2' : Rns w3 w3.heap.size v2 (Tl.runes b) := Rds.more (Rds.ext hr2 (Nat.le_refl _) b3) b3.size
  clear hr1' hr2 b3 c2
  go_wp2_with fail
  refine (countR_any b _ hb).mono ?_
  rintro e w4 ⟨rfl, b4⟩
  have c4 := c3.trans (b4.mono c3.size)
  have hr1' : Rns w4 w4.heap.size v1 (Tl.runes a) := Rds.more (Rds.ext hr1 (Nat.le_refl _) b4) b4.size
  have hr2 : Rns w4 w4.heap.size v2 (Tl.runes b) := Rds.more (Rds.ext hr2' (Nat.le_refl _) b4) b4.size
  clear hr1 hr2' b4 c3
  have HVA := Lib.hid (show Tl.vals a = (Tl.runes a).map It.v from rfl)
  have HVB := Lib.hid (show Tl.vals b = (Tl.runes b).map It.v from rfl)
  generalize Tl.runes a = xs at *
  generalize Tl.runes b = ys at *
  generalize Tl.cntO a = oa at *
  generalize Tl.cntO b = ob at *
  generalize Tl.cntR a = ra at *
  generalize Tl.cntR b = rb at *
  have boa : oa ≤ 1099511627776 := by omega
  have bob : ob ≤ 1099511627776 := by omega
  clear hca hcb
  have HIA := Lib.hid (fun k (h : k < a.length) => idx (l := a) k (k : Int) rfl h)
  have HIB := Lib.hid (fun k (h : k < b.length) => idx (l := b) k (k : Int) rfl h)
  have hsa := ba_size a
  have hsb := ba_size b
  generalize (⟨a.toArray⟩ : ByteArray) = SA at *
  generalize (⟨b.toArray⟩ : ByteArray) = SB at *
  have hsa1 : SA.size ≤ a.length := by omega
  have hsa2 : a.length ≤ SA.size := by omega
  have hsb1 : SB.size ≤ b.length := by omega
  have hsb2 : b.length ≤ SB.size := by omega
  clear hsa hsb
  obtain ⟨A1, d1, rfl, hc1, hm1, hcell1⟩ := hr1'.open_
  obtain ⟨A2, d2, rfl, hc2, hm2, hcell2⟩ := hr2.open_
  clear hr1' hr2
  go_wp2
  go_loopw [11, 13] (fun v i wr => ∃ k : Nat, k ≤ xs.length ∧ i = .int .i64 k ∧ wr.ownsRow w4.heap.size 3 1 v k (((xs.take k).map It.v).map fun z => .int .i64 z) ∧ Below w4.heap.size w4 wr) (fun _ i _ => xs.length - (intOf i).toNat)
  case atStart => exact ⟨0, Nat.zero_le _, rfl, World.ownsRow_nil _ _ _ _, Below.refl _ _⟩
  case round =>
    obtain ⟨k, hk, rfl, hown, hbw⟩ := hrel
    by_cases hlt : k < xs.length
    · obtain ⟨bb, off, rfl, hb', h1, h2, h3⟩ := hcell1 k hlt
      have h1' := (hbw.cell (p := ⟨bb, off + k * 3, none⟩) hb').trans h1
      have HS := Lib.hid (map_snoc It.v xs k hlt)
      generalize xs[k].v = xv at *
      clear hcell1 hcell2 h1 h2 h3
      go_wp2_with (at_builtin; refine stop_ ?_)
      refine wpList_append_one rfl _ _ rfl rfl rfl rfl Try.underlying75 infoInt rfl hown rfl (by rw [maxLen_eq]; omega) (by omega) hbw.size ?_
      intro v' w5 hown' hgr
      have hb5 := hbw.grown hgr hbw.size (fun g hg => (hown.lt g hg).1)
      clear hgr hown
      go_wp2
      go_roundw
      case rel => exact ⟨k + 1, by omega, by go_num, by rw [HS.out, List.map_append]; exact hown', hb5⟩
      case measure => simp [intOf]; omega
    · obtain rfl : k = xs.length := by omega
      rw [List.take_length] at hown
      have hV : Is .i64 wr wr.heap.size u11 (xs.map It.v) := Rds.of_own (by rw [List.length_map]; exact hown)
      obtain ⟨W0, hW0⟩ : ∃ W0 : World, W0 = wr := ⟨_, rfl⟩
      rw [← hW0] at hV hbw ⊢
      clear hown hcell1
      have hcell2' : ∀ (j : Nat) (hj : j < ys.length), ∃ b off, A2 = some ⟨b, off, none⟩ ∧ b < W0.heap.size ∧ W0.cell? ⟨b, off + j * 3, none⟩ = some (.int .i64 ys[j].v) := by
        intro j hj
        obtain ⟨bb, off, e, hb', h1, _⟩ := hcell2 j hj
        exact ⟨bb, off, e, Nat.lt_of_lt_of_le hb' hbw.size, (hbw.cell (p := ⟨bb, off + j * 3, none⟩) hb').trans h1⟩
      clear hcell2 hW0
      go_wp2
      go_loopw [12, 14] (fun v i wr => ∃ k : Nat, k ≤ ys.length ∧ i = .int .i64 k ∧ wr.ownsRow W0.heap.size 3 1 v k (((ys.take k).map It.v).map fun z => .int .i64 z) ∧ Below W0.heap.size W0 wr) (fun _ i _ => ys.length - (intOf i).toNat)
      case atStart => exact ⟨0, Nat.zero_le _, rfl, World.ownsRow_nil _ _ _ _, Below.refl _ _⟩
      case round =>
        obtain ⟨k, hk, rfl, hown, hbx⟩ := hrel
        by_cases hlt : k < ys.length
        · obtain ⟨bb, off, rfl, hb', h1⟩ := hcell2' k hlt
          have h1' := (hbx.cell (p := ⟨bb, off + k * 3, none⟩) hb').trans h1
          have HS := Lib.hid (map_snoc It.v ys k hlt)
          generalize ys[k].v = xv at *
          clear hcell2' h1
          go_wp2_with (at_builtin; refine stop_ ?_)
          refine wpList_append_one rfl _ _ rfl rfl rfl rfl Try.underlying75 infoInt rfl hown rfl (by rw [maxLen_eq]; omega) (by omega) hbx.size ?_
          intro v' w5 hown' hgr
          have hb5 := hbx.grown hgr hbx.size (fun g hg => (hown.lt g hg).1)
          clear hgr hown
          go_wp2
          go_roundw
          case rel => exact ⟨k + 1, by omega, by go_num, by rw [HS.out, List.map_append]; exact hown', hb5⟩
          case measure => simp [intOf]; omega
        · obtain rfl : k = ys.length := by omega
          rw [List.take_length] at hown
          have hW : Is .i64 wr wr.heap.size u12 (ys.map It.v) := Rds.of_own (by rw [List.length_map]; exact hown)
          have hV2 : Is .i64 wr wr.heap.size u11 (xs.map It.v) := Rds.more (Rds.ext hV (Nat.le_refl _) hbx) hbx.size
          have c5 := c4.trans ((hbw.trans (hbx.mono hbw.size)).mono c4.size)
          clear hown hcell2' hV hbx hbw
          go_upto_if 63 with (fail)
          go_cut [11, 12] (fun v u wx => OrdAt a b v u wx ∧ Below w.heap.size w wx)
          case first =>
            by_cases h : 0 < oa + ob
            · have h' : decide ((0 : Int) < (oa : Int) + ob) = true := decide_eq_true (by omega)
              rw [h']
              clear h'
              obtain ⟨wo, rfl⟩ : ∃ wo : World, wo = wr := ⟨_, rfl⟩
              have HR := Lib.hid (show Tl.cmpI (Tl.nums a) (Tl.nums b) = Tl.ord a b by have := HOD.out; rw [if_pos h] at this; exact this)
              clear hW hV2
              go_wp2
              go_loopw [11, 15] (fun v i wz => ∃ k : Nat, k ≤ a.length ∧ i = .int .i64 k ∧ wz.ownsRow wo.heap.size 3 1 v k ((Tl.nums (a.take k)).map fun z => .int .i64 z) ∧ Below wo.heap.size wo wz) (fun _ i _ => a.length - (intOf i).toNat)
              case atStart => exact ⟨0, Nat.zero_le _, rfl, World.ownsRow_nil _ _ _ _, Below.refl _ _⟩
              case round =>
                obtain ⟨k, hk, rfl, hown, hbz⟩ := hrel
                by_cases hlt : k < a.length
                · have hix := HIA.out k hlt
                  have hlt' : k < SA.size := by omega
                  have HS := Lib.hid (show Tl.nums (a.take (k + 1)) = Tl.nums (a.take k) ++ [((a.getD k 0).toNat : Int)] by
                    unfold Tl.nums
                    rw [map_snoc _ a k hlt]
                    simp [List.getD, hlt])
                  have hcl := (a.getD k 0).toNat_lt
                  generalize (a.getD k 0).toNat = ch at *
                  go_wp2_with (at_builtin; refine stop_ ?_)
                  refine wpList_append_one rfl _ _ rfl rfl rfl rfl Try.underlying75 infoInt rfl hown rfl (by rw [maxLen_eq]; omega) (by omega) hbz.size ?_
                  intro v' w5 hown' hgr
                  have hb5 := hbz.grown hgr hbz.size (fun g hg => (hown.lt g hg).1)
                  clear hgr hown hix
                  go_wp2
                  go_roundw
                  case rel => exact ⟨k + 1, by omega, by go_num, by rw [HS.out, List.map_append]; exact hown', hb5⟩
                  case measure => simp [intOf]; omega
                · obtain rfl : k = a.length := by omega
                  have hlt' : ¬ a.length < SA.size := by omega
                  rw [List.take_length] at hown
                  have hV : Is .i64 wr wr.heap.size u11 (Tl.nums a) := Rds.of_own (by unfold Tl.nums at hown ⊢; rw [List.length_map]; exact hown)
                  have c6 := c5.trans (hbz.mono c5.size)
                  obtain ⟨W1, hW1⟩ : ∃ W1 : World, W1 = wr := ⟨_, rfl⟩
                  rw [← hW1] at hV c6 ⊢
                  clear hown hW1 hbz
                  go_wp2
                  go_loopw [12, 16] (fun v i wy => ∃ k : Nat, k ≤ b.length ∧ i = .int .i64 k ∧ wy.ownsRow W1.heap.size 3 1 v k ((Tl.nums (b.take k)).map fun z => .int .i64 z) ∧ Below W1.heap.size W1 wy) (fun _ i _ => b.length - (intOf i).toNat)
                  case atStart => exact ⟨0, Nat.zero_le _, rfl, World.ownsRow_nil _ _ _ _, Below.refl _ _⟩
                  case round =>
                    obtain ⟨k, hk, rfl, hown, hby⟩ := hrel
                    by_cases hlt : k < b.length
                    · have hix := HIB.out k hlt
                      have hlt' : k < SB.size := by omega
                      have HS := Lib.hid (show Tl.nums (b.take (k + 1)) = Tl.nums (b.take k) ++ [((b.getD k 0).toNat : Int)] by
                        unfold Tl.nums
                        rw [map_snoc _ b k hlt]
                        simp [List.getD, hlt])
                      have hcl := (b.getD k 0).toNat_lt
                      generalize (b.getD k 0).toNat = ch at *
                      go_wp2_with (at_builtin; refine stop_ ?_)
                      refine wpList_append_one rfl _ _ rfl rfl rfl rfl Try.underlying75 infoInt rfl hown rfl (by rw [maxLen_eq]; omega) (by omega) hby.size ?_
                      intro v' w5 hown' hgr
                      have hb5 := hby.grown hgr hby.size (fun g hg => (hown.lt g hg).1)
                      clear hgr hown hix
                      go_wp2
                      go_roundw
                      case rel => exact ⟨k + 1, by omega, by go_num, by rw [HS.out, List.map_append]; exact hown', hb5⟩
                      case measure => simp [intOf]; omega
                    · obtain rfl : k = b.length := by omega
                      have hlt' : ¬ b.length < SB.size := by omega
                      rw [List.take_length] at hown
                      have hW : Is .i64 wr wr.heap.size u12 (Tl.nums b) := Rds.of_own (by unfold Tl.nums at hown ⊢; rw [List.length_map]; exact hown)
                      have hV2 : Is .i64 wr wr.heap.size u11 (Tl.nums a) := Rds.more (Rds.ext hV (Nat.le_refl _) hby) hby.size
                      have c7 := c6.trans (hby.mono c6.size)
                      have hO : OrdAt a b u11 u12 wr := ⟨_, _, hV2, hW, HR.out, by unfold Tl.nums; rw [List.length_map]; omega, by unfold Tl.nums; rw [List.length_map]; omega⟩
                      clear hown hW hV hV2 hby c6
                      go_wp2
                      go_meet
                      exact ⟨hO, c7⟩
            · have h' : decide ((0 : Int) < (oa : Int) + ob) = false := decide_eq_false (by omega)
              rw [h']
              clear h'
              have hO : OrdAt a b u11 u12 wr := ⟨_, _, hV2, hW, by have := HOD.out; rw [if_neg h, HVA.out, HVB.out] at this; exact this, by rw [List.length_map]; omega, by rw [List.length_map]; omega⟩
              go_wp2
              go_meet
              exact ⟨hO, c5⟩
          obtain ⟨⟨V, W, hV, hW', HCM, bV, bW⟩, c6⟩ := hcut
          have HC := Lib.hid HCM
          clear HCM hW hV2 HOD HVA HVB c4 c5
          obtain ⟨AV, dV, rfl, hcV, hmV, hcellV⟩ := hV.open_
          obtain ⟨AW, dW, rfl, hcW, hmW, hcellW⟩ := hW'.open_
          clear hV hW'
          go_wp2
          go_loopw [17] (fun i wz => ∃ k n : Nat, k ≤ V.length ∧ k ≤ W.length ∧ i = .int .i64 k ∧ wz = wc.drewN n ∧ Tl.cmpI V W = Tl.cmpI (V.drop k) (W.drop k)) (fun i _ => V.length - (intOf i).toNat)
          case atStart => exact ⟨0, 0, Nat.zero_le _, Nat.zero_le _, rfl, rfl, rfl⟩
          case round =>
            obtain ⟨k, n, hk1, hk2, rfl, rfl, hcm⟩ := hrel
            by_cases hlt : k < V.length ∧ k < W.length
            · obtain ⟨hl1, hl2⟩ := hlt
              obtain ⟨b1, o1, rfl, hb1, he1⟩ := hcellV k hl1
              obtain ⟨b2, o2, rfl, hb2, he2⟩ := hcellW k hl2
              have hst := cmp_step V W k hl1 hl2
              rw [← hcm] at hst
              have HST := Lib.hid hst
              generalize V[k] = p at *
              generalize W[k] = q at *
              clear hcellV hcellW hcm hst
              have i0 : (0 : Int) ≤ k := by omega
              have i1 : (k : Int) < V.length := by omega
              have i2 : (k : Int) < W.length := by omega
              by_cases hpq : p < q
              · have HR := Lib.hid (show Tl.cmpI V W = -1 by have := HST.out; rw [if_pos hpq] at this; exact this)
                go_wp2
                go_quiet (fail)
                go_wp2
                go_ret
                exact ⟨by rw [← HC.out, HR.out]; rfl, below_drewN (below_drewN c6 _) _⟩
              · by_cases hqp : q < p
                · have HR := Lib.hid (show Tl.cmpI V W = 1 by have := HST.out; rw [if_neg hpq, if_pos hqp] at this; exact this)
                  go_wp2
                  go_quiet (fail)
                  go_wp2
                  go_quiet (fail)
                  go_wp2
                  go_ret
                  exact ⟨by rw [← HC.out, HR.out]; rfl, below_drewN (below_drewN (below_drewN c6 _) _) _⟩
                · have HR := Lib.hid (show Tl.cmpI V W = Tl.cmpI (V.drop (k + 1)) (W.drop (k + 1)) by have := HST.out; rw [if_neg hpq, if_neg hqp] at this; exact this)
                  go_wp2
                  go_quiet (fail)
                  go_wp2
                  go_quiet (fail)
                  go_wp2
                  go_roundw
                  case rel => exact ⟨k + 1, _, by omega, by omega, by go_num, by first | rfl | (rw [World.drewN_drewN, World.drewN_drewN]), HR.out⟩
                  case measure => simp [intOf]; omega
            · have hend := cmp_end V W k hk1 hk2 hlt
              rw [← hcm, HC.out] at hend
              have HE := Lib.hid hend
              clear hcm hend hcellV hcellW
              by_cases hl : k < V.length
              · have hw : ¬ (k : Int) < W.length := by omega
                have h1 : ¬ (V.length : Int) < W.length := by omega
                have h2 : (W.length : Int) < V.length := by omega
                go_wp2
                go_ret
                exact ⟨by rw [HE.out, if_neg (by omega), if_pos (by omega)]; rfl, below_drewN c6 _⟩
              · have hv : ¬ (k : Int) < V.length := by omega
                by_cases h1 : V.length < W.length
                · have h1' : (V.length : Int) < W.length := by omega
                  go_wp2
                  go_ret
                  exact ⟨by rw [HE.out, if_pos h1]; rfl, below_drewN c6 _⟩
                · have h1' : ¬ (V.length : Int) < W.length := by omega
                  have h2' : ¬ (W.length : Int) < V.length := by omega
                  go_wp2
                  go_ret
                  exact ⟨by rw [HE.out, if_neg h1, if_neg (by omega)]; rfl, below_drewN c6 _⟩
end Go.Proofs.Ytahkhieoabbaaaa
