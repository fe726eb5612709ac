/-
  The walks of label.read, ReadSuper and ReadLabel. By an AI agent.
-/
import Derived.Test.YtmcgadhahhfflaaDoorLabelV
namespace Go.Proofs.YtmcgadhahhfflaaDoor
open Go.RowKit Go.ChangeShapes Go.WideShapes Go.ChangeAt

theorem infoInt : (Tryd.prog.info? 3).map (fun i => (i.zero, i.size, i.bytes)) = some (some (.int .i64 0), 1, 8) := by kernel_rfl
/-- s[a:b] of octets. -/
theorem Bs.mid {w : World} {B : Nat} {A : Option Addr} {c k m : Nat} {l : List UInt8} (h : Bs w B (.slice A l.length c) l) (hk : k ≤ m) (hm : m ≤ l.length) : Bs w B (.slice (if c = k then A else A.map (·.add k)) (m - k) (c - k)) ((l.take m).drop k) := by
  have h1 := h.head hm
  have h2 : Bs w B (.slice A (l.take m).length c) (l.take m) := by rw [List.length_take, Nat.min_eq_left hm]; exact h1
  have := h2.tail (k := k) (by rw [List.length_take]; omega)
  rw [List.length_take, Nat.min_eq_left hm] at this
  exact this
theorem rd_small (l : List UInt8) (ws : List Int) (h : ∀ w ∈ ws, w ≤ 7) : ∀ n ∈ Pk.nums l ws, n < 72057594037927936 := by
  induction ws generalizing l with
  | nil => intro n hn; simp [Pk.nums] at hn
  | cons w ws ih =>
    intro n hn
    rw [Pk.nums] at hn
    rcases List.mem_cons.1 hn with rfl | hn
    · have h7 := h w List.mem_cons_self
      exact Pk.val_small _ (by rw [List.length_take]; omega)
    · exact ih _ (fun y hy => h y (List.mem_cons_of_mem _ hy)) n hn
theorem Is.of_own {w : World} {base : Nat} {e : TypeId} {k : IntKind} {v : Value} {l : List Int} (h : w.ownsRow base e 1 v l.length (l.map fun c => .int k c)) : Is k w w.heap.size v l := Rds.of_own h

/-- What label.read leaves. -/
def Rd (l : List UInt8) (mark : Nat) (ws : List Int) (w : World) (e : Ending) (w' : World) : Prop :=
  ∃ x, e = .returned (.tuple #[x, .int .i64 (Lb.rdErr l mark ws : Nat)]) ∧ (Lb.rdErr l mark ws = 0 → Is .i64 w' w'.heap.size x ((Lb.rdVals l ws).map fun n : Nat => (n : Int))) ∧ Below w.heap.size w w'

set_option maxRecDepth 100000 in
set_option maxHeartbeats 4000000 in
theorem read_any (w : World) (v u : Value) (l : List UInt8) (mark : Nat) (ws : List Int) (hH : Halves w) (h : Bs w w.heap.size v l) (hu : Is .i64 w w.heap.size u ws) (hn : ws.length ≤ 20) (hw : ∀ x ∈ ws, Pk.isW x = true) (hw7 : ∀ x ∈ ws, x ≤ 7) (hneed : 4 + Pk.need ws ≤ 124) :
    Calls Tryd.prog 26 #[v, .int .u64 (mark : Int), u] w (Rd l mark ws w) := by
  obtain ⟨A, c, rfl, hc, hm, hcell⟩ := h.openD
  obtain ⟨A1, c1, rfl, hc1, hm1, hcell1⟩ := hu.open_
  have HCELL1 := Lib.hid hcell1
  have HCELL := Lib.hid hcell
  have HW := Lib.hid hw
  have HW7 := Lib.hid hw7
  clear hcell hcell1 hw hw7
  go_enter Tryd.func26, Tryd.ntmps26
  go_wp2_with fail
  refine (held_any _ _ _ l hH h (Nat.le_refl _)).mono ?_
  rintro e w1 ⟨rfl, b1⟩
  cases hh : Crc.held l with
  | false =>
    have HE := Lib.hid (show Lb.rdErr l mark ws = 5 by unfold Lb.rdErr; rw [hh]; rfl)
    clear hh
    go_wp2
    go_ret2
    exact ⟨_, by rw [HE.out]; rfl, (fun h0 => by rw [HE.out] at h0; cases h0), b1⟩
  | true =>
    have hlen := Cd.held_len hh
    have HL := Lib.hid hlen
    have hl1 : 128 ≤ l.length := by omega
    have hl2 : l.length ≤ 128 := by omega
    obtain ⟨ba, oa, rfl, hba, _⟩ := HCELL.out 0 (by omega)
    clear HCELL
    obtain ⟨ue, uv⟩ := Pk.uerr_one l 4 (by omega) (by omega)
    clear hlen
    go_wp2_with fail
    have b2 := b1.alloc b1.size (.cells #[.int .i64 4] 3)
    have hs1 := h.ext (Nat.le_refl _) b1
    refine (unpack_any _ _ _ (w1.heap.size + 1) l [4] (Bs.more (Rds.alloc hs1 b1.size _) (by have := b1.size; omega)) (Is.lit .i64 w1 _ _ [4] 1 rfl rfl (by simp [maxLen])) (by simp) (by simp)).mono ?_
    rintro e w2 ⟨x, rfl, hown, hb2⟩
    rw [show Pk.uerr l [4] = 0 from ue]
    rw [show Pk.unpacked l [4] = [Pk.val (l.take 4)] from uv] at hown
    have c2 := b2.trans (hb2.mono b2.size)
    have hsx : Us w2 w2.heap.size x [Pk.val (l.take 4)] := Us.of_own hown
    have hv4 := Pk.val_lt (l.take 4)
    have hv4' : Pk.val (l.take 4) < 4294967296 := by
      rw [List.length_take, Nat.min_eq_left (by omega)] at hv4
      exact hv4
    have HRD := Lib.hid (show Lb.rdErr l mark ws = if Pk.val (l.take 4) = mark then (if Pk.clr (l.take 124) (4 + Pk.need ws : Nat) then 0 else 3) else 3 by unfold Lb.rdErr; rw [hh]; rfl)
    obtain ⟨A2, c2', rfl, hc2, hm2, hcell2⟩ := hsx.openD
    obtain ⟨bx, ox, rfl, hbx, hex⟩ := hcell2 0 (by simp)
    simp only [List.getD_cons_zero, Nat.add_zero, List.length_cons, List.length_nil, Nat.zero_add] at hex hc2
    simp only [List.length_cons, List.length_nil, Nat.zero_add]
    generalize Pk.val (l.take 4) = V at *
    have hs2 := h.ext (Nat.le_refl _) c2
    have hu2 := Rds.ext hu (Nat.le_refl _) c2
    clear hown hsx hcell2 ue uv hh hv4 b2 hb2 hs1
    by_cases hV : V = mark
    · have hV' : ((V : Int) != (mark : Int)) = false := by rw [bne_eq_false_iff_eq]; omega
      rw [if_pos hV] at HRD
      clear hV
      have hbm := hs2.mid (k := 4) (m := 124) (by omega) (by omega)
      rw [if_neg (by omega)] at hbm
      simp only [Option.map_some, add_plain, Nat.reduceSub] at hbm
      have hlm : ((l.take 124).drop 4).length = 120 := by rw [List.length_drop, List.length_take]; omega
      have HUE := Lib.hid (show Pk.uerr ((l.take 124).drop 4) ws = 0 by unfold Pk.uerr; rw [if_pos (List.all_eq_true.2 HW.out), if_neg (by rw [hlm]; omega)])
      have HUV := Lib.hid (show Pk.unpacked ((l.take 124).drop 4) ws = Lb.rdVals l ws by
        unfold Pk.unpacked Lb.rdVals
        rw [if_pos HUE.out, Cd.nums_take l 124 ws 4 (by omega)])
      have hbh : Bs w2 w.heap.size (.slice (some ⟨ba, oa, none⟩) 124 c) (l.take 124) := hs2.head (by omega)
      have HBH := Lib.hid hbh
      have HBM := Lib.hid hbm
      have g1 : (124 : Int) ≤ c := by omega
      have g2 : (4 : Int) ≤ c := by omega
      have g3 : (124 : Nat) ≤ c := by omega
      have g4 : (4 : Nat) ≤ c := by omega
      clear hlm hbm hbh
      go_wp2_with fail
      refine (unpack_any _ _ _ w.heap.size ((l.take 124).drop 4) ws HBM.out hu2 c2.size (by omega)).mono ?_
      rintro e w3 ⟨x3, rfl, hown3, hb3⟩
      rw [HUE.out]
      rw [HUV.out] at hown3
      have hlr : (Lb.rdVals l ws).length = ws.length := Pk.length_nums _ _
      have hsm : ∀ n ∈ Lb.rdVals l ws, n < 72057594037927936 := rd_small _ ws HW7.out
      have HSM := Lib.hid hsm
      have hsx : Us w3 w3.heap.size x3 (Lb.rdVals l ws) := Us.of_own hown3
      have c3 := c2.trans (hb3.mono c2.size)
      have HBH3 := Lib.hid (HBH.out.ext c2.size hb3)
      generalize hrv : Lb.rdVals l ws = rv at *
      have HRV := Lib.hid hrv
      clear hrv
      obtain ⟨A3, c3', rfl, hc3, hm3, hcell3⟩ := hsx.openD
      have HC3 := Lib.hid hcell3
      have HLR := Lib.hid hlr
      have hr1 : rv.length ≤ ws.length := by omega
      have hr2 : ws.length ≤ rv.length := by omega
      have hmk' := run_mk (P := Tryd.prog) Tryd.underlying56 infoInt 0 rv.length (by omega) (by omega) (by omega)
      simp only [Int.natCast_zero] at hmk'
      clear hown3 hsx hcell3 HBM HUE HUV hsm hlr hs2 hu2 hu h HBH hex
      go_wp2
      clear hmk'
      have hown0 := World.ownsRow_made (e := 3) (size := 1) (base := w3.heap.size) w3 (madeCells #[.int .i64 0] rv.length) rv.length (Nat.le_refl _) (by rw [maxLen_eq]; omega) (by rw [size_madeCells, Nat.mul_one])
      have hb0 := (Below.refl w3.heap.size w3).alloc (Nat.le_refl _) (.cells (madeCells #[.int .i64 0] rv.length) 3)
      generalize w3.alloc (.cells (madeCells #[.int .i64 0] rv.length) 3) = W0 at *
      go_loopw [11, 12, 47] (fun n q i wr => ∃ k : Nat, k ≤ rv.length ∧ i = .int .i64 k ∧ n = .int .i64 ((4 + Pk.need (ws.take k) : Nat) : Int) ∧ wr.ownsRow w3.heap.size 3 1 q k ((rv.take k).map fun m : Nat => .int .i64 (m : Int)) ∧ Below w3.heap.size w3 wr) (fun _ _ i _ => rv.length - (intOf i).toNat)
      case atStart => exact ⟨0, Nat.zero_le _, rfl, rfl, hown0, hb0⟩
      case round =>
        obtain ⟨k, hk, rfl, rfl, hown, hbw⟩ := hrel
        clear hown0 hb0
        have cw := c3.trans (hbw.mono c3.size)
        by_cases hlt : k < rv.length
        · obtain ⟨b5, o5, rfl, hb5, he5⟩ := HC3.out k hlt
          obtain ⟨b6, o6, rfl, hb6, he6⟩ := HCELL1.out k (by omega)
          have he5' := (hbw.cell (p := ⟨b5, o5 + k, none⟩) hb5).trans he5
          have he6' := (cw.cell (p := ⟨b6, o6 + k, none⟩) hb6).trans he6
          have hvb := HSM.out (rv.getD k 0) (by simp [List.getD, hlt])
          have hwb := (Pk.isW_iff _).1 (HW.out (ws[k]'(by omega)) (List.getElem_mem _))
          have HS := Lib.hid (show (rv.take (k + 1)).map (fun m : Nat => Value.int .i64 (m : Int)) = (rv.take k).map (fun m : Nat => Value.int .i64 (m : Int)) ++ [.int .i64 ((rv.getD k 0 : Nat) : Int)] by
            rw [List.take_succ_eq_append_getElem hlt, List.map_append]
            simp [List.getD, hlt])
          have hN := Pk.need_snoc ws k (by omega)
          have HN := Lib.hid hN
          have hnd := Pk.need_take_le ws (k + 1)
          rw [hN] at hnd
          generalize rv.getD k 0 = vv at *
          generalize ws[k]'(by omega) = wd at *
          generalize Pk.need (ws.take k) = Nd at *
          obtain ⟨wn, rfl⟩ := Int.eq_ofNat_of_zero_le (show 0 ≤ wd by omega)
          rw [Int.toNat_natCast] at hnd HN
          have hlt2 : k < ws.length := by omega
          clear he5 he6 hN
          go_wp2_with (at_builtin; refine stop_ ?_)
          refine wpList_append_one rfl _ _ rfl rfl rfl rfl Tryd.underlying56 infoInt rfl hown rfl (by rw [maxLen_eq]; omega) (by omega) hbw.size ?_
          intro v' w5 hown' hgr
          have hb5' := hbw.grown hgr hbw.size (fun g hg => (hown.lt g hg).1)
          clear hgr hown he5' he6'
          go_wp2
          go_roundw
          case rel => exact ⟨k + 1, by omega, by go_num, by rw [HN.out]; go_num, by rw [HS.out]; exact hown', hb5'⟩
          case measure => simp [intOf]; omega
        · obtain rfl : k = rv.length := by omega
          have HTW := Lib.hid (show ws.take rv.length = ws from List.take_of_length_le (by omega))
          rw [List.take_length] at hown
          rw [HTW.out]
          have hIs : Is .i64 wr wr.heap.size u12 (rv.map fun n : Nat => (n : Int)) := Rds.of_own (by rw [List.length_map, List.map_map]; exact hown)
          clear hown
          generalize hND : Pk.need ws = ND at *
          clear hND
          go_wp2_with fail
          refine (clear_any _ _ w.heap.size (l.take 124) ((4 + ND : Nat) : Int) (HBH3.out.ext c3.size hbw) (by omega)).mono ?_
          rintro e w' ⟨rfl, rfl⟩
          cases hclr : Pk.clr (l.take 124) ((4 + ND : Nat) : Int) with
          | true =>
            rw [hclr, if_pos rfl] at HRD
            clear hclr
            go_wp2
            go_ret2
            exact ⟨_, by rw [HRD.out]; rfl, (fun _ => by rw [HRV.out]; exact hIs), cw⟩
          | false =>
            have HR3 := Lib.hid (show Lb.rdErr l mark ws = 3 by have := HRD.out; rw [hclr] at this; simpa using this)
            clear hclr
            go_wp2
            go_ret2
            exact ⟨_, by rw [HR3.out]; rfl, (fun h0 => by rw [HR3.out] at h0; cases h0), cw⟩
    · have hV' : ((V : Int) != (mark : Int)) = true := by rw [bne_iff_ne]; omega
      rw [if_neg hV] at HRD
      clear hV
      go_wp2
      go_ret2
      exact ⟨_, by rw [HRD.out]; rfl, (fun h0 => by rw [HRD.out] at h0; cases h0), c2⟩
end Go.Proofs.YtmcgadhahhfflaaDoor
