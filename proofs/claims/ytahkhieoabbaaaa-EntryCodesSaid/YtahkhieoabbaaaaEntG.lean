/-
  Helpers of the laws of layer 10: few, Few, awake, Same, == on entries. By an AI agent.
-/
import Derived.Test.YtahkhieoabbaaaaEntE
import Derived.Test.YtahkhieoabbaaaaEq
namespace Go.Proofs.Ytahkhieoabbaaaa
open Go.RowKit Go.ChangeShapes Go.WideShapes Go.ChangeAt Go.Lib
open Et (E)

set_option maxHeartbeats 400000 in
theorem few_any (l : List UInt8) (w : World) :
    Calls Try.prog 12 #[.string ⟨l.toArray⟩] w fun e w' => e = .returned (.string ⟨(l.take 60).toArray⟩) ∧ w = w' := by
  have hsz := ba_size l
  have hx := ba_take l 60
  generalize hs : (⟨l.toArray⟩ : ByteArray) = s at *
  by_cases h : 60 < s.size
  · have h1 : (60 : Int) < s.size := by omega
    have h2 : (60 : Int) ≤ s.size := by omega
    have HX := Lib.hid hx
    clear hs hsz hx
    go_enter Try.func12, Try.ntmps12
    go_wp2
    go_ret
    exact ⟨by rw [← HX.out]; rfl, rfl⟩
  · have h1 : ¬ (60 : Int) < s.size := by omega
    have HX := Lib.hid (show s = ⟨(l.take 60).toArray⟩ by rw [← hs, List.take_of_length_le (by omega)])
    clear hs hsz hx
    go_enter Try.func12, Try.ntmps12
    go_wp2
    go_ret
    exact ⟨by rw [← HX.out]; rfl, rfl⟩

/-- What Few makes of entries. -/
def few1 (y : E) : E := ⟨y.n.take 60, y.i, y.t⟩
def fewL (l : List E) : List E := (l.take 33).map few1
theorem few_short (l : List E) : Short (fewL l) := by
  intro y hy
  obtain ⟨z, _, rfl⟩ := List.mem_map.1 hy
  have := List.length_take_le 60 z.n
  show (z.n.take 60).length < _
  omega
theorem few_len (l : List E) : (fewL l).length ≤ 33 := by unfold fewL; rw [List.length_map]; exact List.length_take_le _ _

set_option maxRecDepth 100000 in
set_option maxHeartbeats 4000000 in
theorem Few_any (v : Value) (l : List E) (w : World) (hl : Ents w w.heap.size v l) :
    Calls Try.prog 7 #[v] w fun e w' => ∃ u, e = .returned u ∧ w'.ownsRow w.heap.size 28 3 u (fewL l).length (ecells (fewL l)) ∧ Below w.heap.size w w' := by
  obtain ⟨A, c, rfl, hlc, hcm, hE⟩ := hl.open_
  obtain ⟨m, hm⟩ : ∃ m, l.take 33 = m := ⟨_, rfl⟩
  have hml : m.length ≤ 33 := by rw [← hm]; exact List.length_take_le _ _
  have hmll : m.length ≤ l.length := by rw [← hm, List.length_take]; omega
  have HF := Lib.hid (show fewL l = m.map few1 by unfold fewL; rw [hm])
  have hEm : EntsAt w w.heap.size A m := fun j hj => by
    have := hE j (by omega)
    rw [Et.at_get l j (by omega)] at this
    rw [Et.at_get m j hj]
    subst hm
    rw [List.getElem_take]
    exact this
  have HE := Lib.hid hEm
  have hcc : m.length ≤ c := by omega
  have hcut : 33 < l.length → m.length = 33 := fun h => by rw [← hm, List.length_take]; omega
  have hcut2 : ¬ 33 < l.length → l.length = m.length := fun h => by rw [← hm, List.length_take]; omega
  clear hE hEm hm hl
  by_cases h33 : 33 < l.length
  · have h33' := hcut h33
    have hg : (33 : Int) < (l.length : Int) := by omega
    have hhd := fun W => run_headE A l.length c m.length hcc (33 : Int) (by omega) W
    clear hcut hcut2 h33
    go_enter Try.func7, Try.ntmps7
    go_wp2
    clear hhd hg
    go_loopw [3, 4] (fun s i wr => ∃ k : Nat, k ≤ m.length ∧ i = .int .i64 k ∧ wr.ownsRow w.heap.size 28 3 s k (ecells ((m.take k).map few1)) ∧ Below w.heap.size w wr) (fun _ i _ => m.length - (intOf i).toNat)
    case atStart => exact ⟨0, Nat.zero_le _, rfl, World.ownsRow_nil _ _ _ _, Below.refl _ _⟩
    case round =>
      obtain ⟨k, hk, rfl, hown, hbr⟩ := hrel
      by_cases hlt : k < m.length
      · obtain ⟨b, off, rfl, hbB, h0, h1, h2⟩ := (HE.out.below hbr) k hlt
        have HM := Lib.hid (show (m.take (k + 1)).map few1 = (m.take k).map few1 ++ [few1 (Et.at_ m k)] by rw [List.take_succ_eq_append_getElem hlt, List.map_append, Et.at_get m k hlt]; rfl)
        generalize Et.at_ m k = y at *
        obtain ⟨yn, yi, yt⟩ := y
        dsimp only at h0 h1 h2
        have k4 := Blk.new wr 28 #[.string ⟨yn.toArray⟩, .int .i64 yi, .int .i64 yt]
        have b4 := hbr.alloc hbr.size (.cells #[.string ⟨yn.toArray⟩, .int .i64 yi, .int .i64 yt] 28)
        have hne : @Ne (Option Nat) u3.ownBlock (some wr.heap.size) := fun e => Nat.lt_irrefl _ (hown.lt _ e).2
        have hg1 : w.heap.size ≤ wr.heap.size := hbr.size
        replace hown := hown.alloc (.cells #[.string ⟨yn.toArray⟩, .int .i64 yi, .int .i64 yt] 28)
        go_wp2_with fail
        obtain ⟨w4, hw4⟩ : ∃ w4, wr.alloc (.cells #[.string ⟨yn.toArray⟩, .int .i64 yi, .int .i64 yt] 28) = w4 := ⟨_, rfl⟩
        rw [hw4] at k4 b4 hown ⊢
        clear hw4 h0 h1 h2
        obtain ⟨g4, hg4⟩ : ∃ g4, wr.heap.size = g4 := ⟨_, rfl⟩
        rw [hg4] at k4 hne hg1 ⊢
        clear hg4
        refine (few_any yn w4).mono ?_
        rintro e w5 ⟨rfl, rfl⟩
        have e0 := k4.cell 0
        have ef := k4.frozen
        have z4 := k4.set_ 0 (.string ⟨(yn.take 60).toArray⟩)
        have q0 : (w4.setCell ⟨g4, 0, none⟩ (.string ⟨(yn.take 60).toArray⟩)).cell? ⟨g4, 0, none⟩ = some (.string ⟨(yn.take 60).toArray⟩) := z4.cell 0
        have q1 : (w4.setCell ⟨g4, 0, none⟩ (.string ⟨(yn.take 60).toArray⟩)).cell? ⟨g4, 1, none⟩ = some (.int .i64 yi) := z4.cell 1
        have q2 : (w4.setCell ⟨g4, 0, none⟩ (.string ⟨(yn.take 60).toArray⟩)).cell? ⟨g4, 2, none⟩ = some (.int .i64 yt) := z4.cell 2
        have ho5 := ownsRow_setCell_other hown (a := ⟨g4, 0, none⟩) hne (.string ⟨(yn.take 60).toArray⟩)
        have b5 := b4.setCell (p := ⟨g4, 0, none⟩) hg1 (.string ⟨(yn.take 60).toArray⟩)
        clear k4 z4 hown b4 hne
        generalize hT : (⟨(yn.take 60).toArray⟩ : ByteArray) = T at *
        have HT := Lib.hid hT
        clear hT
        go_wp2_with (at_builtin; refine stop_ ?_)
        refine wpList_append_elem rfl _ _ rfl rfl rfl (by simp) Try.underlying22 infoEty rfl (by decide) ho5 rfl (by simp [Value.oneCell']) (by rw [maxLen_eq]; omega) (by omega) b5.size ?_
        rintro v2 wb hownb hgrb
        have hBb := b5.grown hgrb b5.size (fun j e => (ho5.lt j e).1)
        obtain ⟨A2, c2, rfl⟩ := own_slice hownb
        clear hgrb ho5 q0 q1 q2 b5 e0 ef
        go_wp2
        go_roundw
        case rel =>
          refine ⟨k + 1, by omega, by go_num, ?_, hBb⟩
          rw [HM.out, ecells_app]
          rw [← HT.out] at hownb
          exact hownb
        case measure => simp [intOf]; omega
      · obtain rfl : k = m.length := by omega
        rw [List.take_length] at hown
        obtain ⟨A2, c2, rfl⟩ := own_slice hown
        go_wp2
        go_ret
        exact ⟨_, rfl, by rw [HF.out, List.length_map]; exact hown, hbr⟩
  · have h33' := hcut2 h33
    rw [h33']
    have hg : ¬ (33 : Int) < (m.length : Int) := by omega
    clear hcut hcut2 h33 h33'
    go_enter Try.func7, Try.ntmps7
    go_wp2
    clear hg
    go_loopw [3, 4] (fun s i wr => ∃ k : Nat, k ≤ m.length ∧ i = .int .i64 k ∧ wr.ownsRow w.heap.size 28 3 s k (ecells ((m.take k).map few1)) ∧ Below w.heap.size w wr) (fun _ i _ => m.length - (intOf i).toNat)
    case atStart => exact ⟨0, Nat.zero_le _, rfl, World.ownsRow_nil _ _ _ _, Below.refl _ _⟩
    case round =>
      obtain ⟨k, hk, rfl, hown, hbr⟩ := hrel
      by_cases hlt : k < m.length
      · obtain ⟨b, off, rfl, hbB, h0, h1, h2⟩ := (HE.out.below hbr) k hlt
        have HM := Lib.hid (show (m.take (k + 1)).map few1 = (m.take k).map few1 ++ [few1 (Et.at_ m k)] by rw [List.take_succ_eq_append_getElem hlt, List.map_append, Et.at_get m k hlt]; rfl)
        generalize Et.at_ m k = y at *
        obtain ⟨yn, yi, yt⟩ := y
        dsimp only at h0 h1 h2
        have k4 := Blk.new wr 28 #[.string ⟨yn.toArray⟩, .int .i64 yi, .int .i64 yt]
        have b4 := hbr.alloc hbr.size (.cells #[.string ⟨yn.toArray⟩, .int .i64 yi, .int .i64 yt] 28)
        have hne : @Ne (Option Nat) u3.ownBlock (some wr.heap.size) := fun e => Nat.lt_irrefl _ (hown.lt _ e).2
        have hg1 : w.heap.size ≤ wr.heap.size := hbr.size
        replace hown := hown.alloc (.cells #[.string ⟨yn.toArray⟩, .int .i64 yi, .int .i64 yt] 28)
        go_wp2_with fail
        obtain ⟨w4, hw4⟩ : ∃ w4, wr.alloc (.cells #[.string ⟨yn.toArray⟩, .int .i64 yi, .int .i64 yt] 28) = w4 := ⟨_, rfl⟩
        rw [hw4] at k4 b4 hown ⊢
        clear hw4 h0 h1 h2
        obtain ⟨g4, hg4⟩ : ∃ g4, wr.heap.size = g4 := ⟨_, rfl⟩
        rw [hg4] at k4 hne hg1 ⊢
        clear hg4
        refine (few_any yn w4).mono ?_
        rintro e w5 ⟨rfl, rfl⟩
        have e0 := k4.cell 0
        have ef := k4.frozen
        have z4 := k4.set_ 0 (.string ⟨(yn.take 60).toArray⟩)
        have q0 : (w4.setCell ⟨g4, 0, none⟩ (.string ⟨(yn.take 60).toArray⟩)).cell? ⟨g4, 0, none⟩ = some (.string ⟨(yn.take 60).toArray⟩) := z4.cell 0
        have q1 : (w4.setCell ⟨g4, 0, none⟩ (.string ⟨(yn.take 60).toArray⟩)).cell? ⟨g4, 1, none⟩ = some (.int .i64 yi) := z4.cell 1
        have q2 : (w4.setCell ⟨g4, 0, none⟩ (.string ⟨(yn.take 60).toArray⟩)).cell? ⟨g4, 2, none⟩ = some (.int .i64 yt) := z4.cell 2
        have ho5 := ownsRow_setCell_other hown (a := ⟨g4, 0, none⟩) hne (.string ⟨(yn.take 60).toArray⟩)
        have b5 := b4.setCell (p := ⟨g4, 0, none⟩) hg1 (.string ⟨(yn.take 60).toArray⟩)
        clear k4 z4 hown b4 hne
        generalize hT : (⟨(yn.take 60).toArray⟩ : ByteArray) = T at *
        have HT := Lib.hid hT
        clear hT
        go_wp2_with (at_builtin; refine stop_ ?_)
        refine wpList_append_elem rfl _ _ rfl rfl rfl (by simp) Try.underlying22 infoEty rfl (by decide) ho5 rfl (by simp [Value.oneCell']) (by rw [maxLen_eq]; omega) (by omega) b5.size ?_
        rintro v2 wb hownb hgrb
        have hBb := b5.grown hgrb b5.size (fun j e => (ho5.lt j e).1)
        obtain ⟨A2, c2, rfl⟩ := own_slice hownb
        clear hgrb ho5 q0 q1 q2 b5 e0 ef
        go_wp2
        go_roundw
        case rel =>
          refine ⟨k + 1, by omega, by go_num, ?_, hBb⟩
          rw [HM.out, ecells_app]
          rw [← HT.out] at hownb
          exact hownb
        case measure => simp [intOf]; omega
      · obtain rfl : k = m.length := by omega
        rw [List.take_length] at hown
        obtain ⟨A2, c2, rfl⟩ := own_slice hown
        go_wp2
        go_ret
        exact ⟨_, rfl, by rw [HF.out, List.length_map]; exact hown, hbr⟩

/-! ### == on entries, Same -/
theorem eqGuardE : Try.prog.eqGuardType Try.prog.depth 28 = false := by kernel_rfl
theorem ba_inj (a b : List UInt8) : (⟨a.toArray⟩ : ByteArray).toList = (⟨b.toArray⟩ : ByteArray).toList ↔ a = b := by rw [ba_toList, ba_toList]
theorem run_neqE (y z : E) (w : World) : (binOp .neq 28 (.agg #[.string ⟨y.n.toArray⟩, .int .i64 y.i, .int .i64 y.t]) (.agg #[.string ⟨z.n.toArray⟩, .int .i64 z.i, .int .i64 z.t])).run Try.prog w = .ok (.bool (!decide (y = z))) w := by
  obtain ⟨a, i, t⟩ := y
  obtain ⟨b, j, u⟩ := z
  rw [run_neq_struct]
  simp only [Et.E.mk.injEq]

  simp [Op.eqFields, go_sem]
  by_cases h1 : a = b <;> by_cases h2 : i = j <;> by_cases h3 : t = u <;> simp [h1, h2, h3]

set_option maxRecDepth 100000 in
set_option maxHeartbeats 4000000 in
theorem same_any (v u : Value) (l m : List E) (w : World) (hl : Ents w w.heap.size v l) (hm : Ents w w.heap.size u m) :
    Calls Try.prog 10 #[v, u] w fun e w' => e = .returned (.bool (decide (l = m))) ∧ Below w.heap.size w w' := by
  obtain ⟨A, c, rfl, hlc, hcm, hE⟩ := hl.open_
  obtain ⟨A2, c2, rfl, hlc2, hcm2, hE2⟩ := hm.open_
  have HE := Lib.hid hE
  have HE2 := Lib.hid hE2
  clear hE hE2 hl hm
  by_cases hle : l.length = m.length
  rotate_left
  · have hg : ((l.length : Int) != (m.length : Int)) = true := by rw [bne_iff_ne]; omega
    have HD := Lib.hid (show decide (l = m) = false from decide_eq_false (fun h => hle (by rw [h])))
    clear hle HE HE2
    go_enter Try.func10, Try.ntmps10
    go_wp2
    go_ret
    exact ⟨by rw [HD.out]; rfl, Below.refl _ _⟩
  rw [← hle] at hlc2 ⊢
  have HLE := Lib.hid hle
  clear hle
  go_enter Try.func10, Try.ntmps10
  go_wp2
  go_loopw [5] (fun i wr => ∃ k : Nat, k ≤ l.length ∧ i = .int .i64 k ∧ (∀ j, j < k → Et.at_ l j = Et.at_ m j) ∧ Below w.heap.size w wr) (fun i _ => l.length - (intOf i).toNat)
  case atStart => exact ⟨0, Nat.zero_le _, rfl, fun j hj => absurd hj (by omega), Below.refl _ _⟩
  case round =>
    obtain ⟨k, hk, rfl, hall, hbr⟩ := hrel
    by_cases hlt : k < l.length
    · obtain ⟨b, off, rfl, hbB, h0, h1, h2⟩ := (HE.out.below hbr) k hlt
      obtain ⟨b2, off2, rfl, hbB2, i0, i1, i2⟩ := (HE2.out.below hbr) k (by have := HLE.out; omega)
      have HA := Lib.hid hall
      have HN : Hid (Et.at_ l k ≠ Et.at_ m k → decide (l = m) = false) := Lib.hid (fun h => decide_eq_false (fun e => h (by rw [e])))
      have HY : Hid (Et.at_ l k = Et.at_ m k → ∀ j, j < k + 1 → Et.at_ l j = Et.at_ m j) := Lib.hid (fun h j hj => by
        rcases Nat.lt_or_ge j k with h2 | h2
        · exact hall j h2
        · rw [show j = k by omega]; exact h)
      have hbl : b < wr.heap.size := Nat.lt_of_lt_of_le hbB hbr.size
      have hbl2 : b2 < wr.heap.size := Nat.lt_of_lt_of_le hbB2 hbr.size
      generalize Et.at_ l k = y at *
      generalize Et.at_ m k = z at *
      clear hall HA
      go_upto_region 6 with fail
      have hG0 : Below wr.heap.size wr wr.drew := (Below.refl _ _).drew
      refine wp_region_list 9 [(fun y_ _ => y_ = .slice (some ⟨b, off, none⟩) l.length c),
        (fun y_ _ => y_ = .int .i64 ((k : Nat) : Int)),
        (fun y_ _ => y_ = .pointer (some ⟨b, off + k * 3, none⟩)),
        (fun y_ _ => y_ = eagg y),
        (fun y_ _ => y_ = .slice (some ⟨b2, off2, none⟩) l.length c2),
        (fun y_ _ => y_ = .int .i64 ((k : Nat) : Int)),
        (fun y_ _ => y_ = .pointer (some ⟨b2, off2 + k * 3, none⟩)),
        (fun y_ _ => y_ = eagg z),
        (fun y_ _ => y_ = .bool (!decide (y = z)))]
        (fun q => Below wr.heap.size wr q) (by kernel_rfl) rfl (by kernel_rfl) ?_ ?_ ?_ ?_
      · exact hG0
      · exact ⟨stab_eq _, stab_eq _, stab_eq _, stab_eq _, stab_eq _, stab_eq _, stab_eq _, stab_eq _, stab_eq _, trivial⟩
      · refine ⟨?_, ?_, ?_, ?_, ?_, ?_, ?_, ?_, ?_, trivial⟩
        · intro a x hG hd hs K hK
          have h0 : a.tmps.getD 0 undef = .slice (some ⟨b, off, none⟩) l.length c := hs 0 (by kernel_rfl)
          clear hd hs
          refine wpOp_plain rfl rfl ?_
          go_simp
          exact hK _ _ rfl hG (Below.refl _ _)
        · intro a x hG hd hs K hK
          have h5 : a.tmps.getD 5 undef = .int .i64 ((k : Nat) : Int) := hs 5 (by kernel_rfl)
          clear hd hs
          refine wpOp_plain rfl rfl ?_
          go_simp
          exact hK _ _ rfl hG (Below.refl _ _)
        · intro a x hG hd hs K hK
          have h17 : a.tmps.getD 17 undef = .slice (some ⟨b, off, none⟩) l.length c := hd 0 17 (by kernel_rfl)
          have h18 : a.tmps.getD 18 undef = .int .i64 ((k : Nat) : Int) := hd 1 18 (by kernel_rfl)
          clear hd hs
          refine wpOp_plain rfl rfl ?_
          go_simp
          exact hK _ _ rfl hG (Below.refl _ _)
        · intro a x hG hd hs K hK
          have h19 : a.tmps.getD 19 undef = .pointer (some ⟨b, off + k * 3, none⟩) := hd 2 19 (by kernel_rfl)
          clear hd hs
          refine wpOp_plain rfl rfl ?_
          skip
          have c0 := (hG.cell (p := ⟨b, off + k * 3, none⟩) hbl).trans h0
          have c1 := (hG.cell (p := ⟨b, off + k * 3 + 1, none⟩) hbl).trans h1
          have c2 := (hG.cell (p := ⟨b, off + k * 3 + 2, none⟩) hbl).trans h2
          go_simp
          exact hK _ _ rfl hG (Below.refl _ _)
        · intro a x hG hd hs K hK
          have h1 : a.tmps.getD 1 undef = .slice (some ⟨b2, off2, none⟩) l.length c2 := hs 1 (by kernel_rfl)
          clear hd hs
          refine wpOp_plain rfl rfl ?_
          go_simp
          exact hK _ _ rfl hG (Below.refl _ _)
        · intro a x hG hd hs K hK
          have h5 : a.tmps.getD 5 undef = .int .i64 ((k : Nat) : Int) := hs 5 (by kernel_rfl)
          clear hd hs
          refine wpOp_plain rfl rfl ?_
          go_simp
          exact hK _ _ rfl hG (Below.refl _ _)
        · intro a x hG hd hs K hK
          have h21 : a.tmps.getD 21 undef = .slice (some ⟨b2, off2, none⟩) l.length c2 := hd 4 21 (by kernel_rfl)
          have h22 : a.tmps.getD 22 undef = .int .i64 ((k : Nat) : Int) := hd 5 22 (by kernel_rfl)
          clear hd hs
          refine wpOp_plain rfl rfl ?_
          go_simp
          exact hK _ _ rfl hG (Below.refl _ _)
        · intro a x hG hd hs K hK
          have h23 : a.tmps.getD 23 undef = .pointer (some ⟨b2, off2 + k * 3, none⟩) := hd 6 23 (by kernel_rfl)
          clear hd hs
          refine wpOp_plain rfl rfl ?_
          skip
          have c0 := (hG.cell (p := ⟨b2, off2 + k * 3, none⟩) hbl2).trans i0
          have c1 := (hG.cell (p := ⟨b2, off2 + k * 3 + 1, none⟩) hbl2).trans i1
          have c2 := (hG.cell (p := ⟨b2, off2 + k * 3 + 2, none⟩) hbl2).trans i2
          go_simp
          exact hK _ _ rfl hG (Below.refl _ _)
        · intro a x hG hd hs K hK
          have h20 : a.tmps.getD 20 undef = eagg y := hd 3 20 (by kernel_rfl)
          have h24 : a.tmps.getD 24 undef = eagg z := hd 7 24 (by kernel_rfl)
          clear hd hs
          refine wpOp_plain rfl rfl ?_
          unfold eagg at *
          refine wp_binop .neq _ _ _ _ rfl h20 h24 eqGuardE (run_neqE y z _) ?_
          exact hK _ _ rfl hG (Below.refl _ _)
      · intro x hG
        rintro _ rfl _ rfl _ rfl _ rfl _ rfl _ rfl _ rfl _ rfl _ rfl
        simp only [Act.put, List.setIfInBounds_toArray, List.set_cons_zero, List.set_cons_succ, REnd]
        try simp only [Exit.then]
        have b9 := hbr.trans (hG.mono hbr.size)
        by_cases hyz : y = z
        · rw [decide_eq_true hyz]
          have HY2 := Lib.hid (HY.out hyz)
          clear hyz
          go_wp2
          go_roundw
          case rel => exact ⟨k + 1, by omega, by go_num, HY2.out, b9⟩
          case measure => simp [intOf]; omega
        · rw [decide_eq_false hyz]
          have HN2 := Lib.hid (HN.out hyz)
          clear hyz
          go_wp2
          go_ret
          exact ⟨by rw [HN2.out]; rfl, b9⟩
    · obtain rfl : k = l.length := by omega
      have HD := Lib.hid (show decide (l = m) = true from decide_eq_true (List.ext_getElem HLE.out (fun j h1 h2 => by have := hall j h1; rw [Et.at_get l j h1, Et.at_get m j h2] at this; exact this)))
      go_wp2
      go_ret
      exact ⟨by rw [HD.out]; rfl, hbr⟩

/-! ### awake -/
def aL : List E := [⟨[97], 5, 1⟩]
theorem aL_may : Et.mayB aL = true := by kernel_rfl
theorem aL_enc : Et.enc aL = [5, 1, 1, 97] := by kernel_rfl
theorem aL_add : Et.addE aL ⟨[97], 5, 1⟩ = 7 := by kernel_rfl
theorem aL_srch : Et.srchE aL [98] = 6 := by kernel_rfl
theorem aL_short : Short aL := by
  intro y hy
  simp only [aL, List.mem_cons, List.not_mem_nil, or_false] at hy
  subst hy
  show 1 < 1099511627776
  decide
set_option maxRecDepth 100000 in
set_option maxHeartbeats 4000000 in
theorem awake_any (w : World) :
    Calls Try.prog 11 #[] w fun e w' => e = .returned (.bool true) ∧ Below w.heap.size w w' := by
  have k1 := Blk.new w 28 #[.string ⟨#[97]⟩, .int .i64 5, .int .i64 1]
  have b1 := (Below.refl w.heap.size w).alloc (Nat.le_refl _) (.cells #[.string ⟨#[97]⟩, .int .i64 5, .int .i64 1] 28)
  go_enter Try.func11, Try.ntmps11
  go_wp2_with fail
  obtain ⟨w1, hw1⟩ : ∃ w1, w.alloc (.cells #[.string ⟨#[97]⟩, .int .i64 5, .int .i64 1] 28) = w1 := ⟨_, rfl⟩
  rw [hw1] at k1 b1 ⊢
  clear hw1
  obtain ⟨g, hg⟩ : ∃ g, w.heap.size = g := ⟨_, rfl⟩
  rw [hg] at k1 ⊢
  have hgg : w.heap.size ≤ g := by omega
  clear hg
  have hE : ∀ W, Blk W g 28 [.string ⟨#[97]⟩, .int .i64 5, .int .i64 1] → Ents W W.heap.size (.slice (some ⟨g, 0, none⟩) 1 1) aL := fun W h => Rds.more (h.rds 0 1 1 3 (by show 0 + 1 * 3 ≤ 3; decide) (Nat.le_refl _) (by simp [maxLen])) h.lt
  have HE := Lib.hid hE
  clear hE
  refine (enc_any _ aL w1 (HE.out w1 k1) aL_short aL_may).mono ?_
  rintro e w2 ⟨u, rfl, hu, b2⟩
  rw [aL_enc] at hu
  have k2 := k1.ext b2
  have c2 := b1.trans (b2.mono b1.size)
  clear b2
  have p0 : w2.cell? ⟨g, 0, none⟩ = some (.string ⟨#[97]⟩) := k2.cell 0
  have p1 : w2.cell? ⟨g, 1, none⟩ = some (.int .i64 5) := k2.cell 1
  have p2 : w2.cell? ⟨g, 2, none⟩ = some (.int .i64 1) := k2.cell 2
  go_wp2_with fail
  refine (add_any _ aL [97] 5 1 w2 (HE.out w2 k2) aL_short (by decide)).mono ?_
  rintro e w3 ⟨u3, rfl, _, b3⟩
  rw [aL_add]
  have k3 := k2.ext b3
  have hu3 := (hu.ext (Nat.le_refl _) b3).more b3.size
  have c3 := c2.trans (b3.mono c2.size)
  clear b3 p0 p1 p2
  go_wp2_with fail
  refine (take_any _ aL [98] w3 (HE.out w3 k3) aL_short (by decide)).mono ?_
  rintro e w4 ⟨u4, rfl, _, b4⟩
  rw [aL_srch]
  have hu4 := hu3.ext (Nat.le_refl _) b4
  have c4 := c3.trans (b4.mono c3.size)
  have cv := run_string_of (P := Try.prog) hu4 29 9 5 Try.underlying29 Try.underlying5 Try.underlying9
  clear b4 hu3 hu4 hu k3 k2 k1 HE
  go_wp2
  go_ret
  exact ⟨rfl, c4⟩
end Go.Proofs.Ytahkhieoabbaaaa
