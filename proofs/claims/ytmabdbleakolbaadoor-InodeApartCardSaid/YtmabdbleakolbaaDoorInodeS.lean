/-
  The walks of the document's answers of layer 7, second part: May, Same. By an AI agent.
-/
import Derived.Test.YtmabdbleakolbaaDoorInodeR
namespace Go.Proofs.YtmabdbleakolbaaDoor
open Go.RowKit Go.ChangeShapes Go.WideShapes Go.ChangeAt

set_option maxRecDepth 100000 in
set_option maxHeartbeats 8000000 in
theorem rmay_any (x : Nd.In) (w : World) (hp : x.ps.length = 9) :
    Calls Tryd.prog 10 #[iagg x] w fun e w' => e = .returned (.bool (Nd.mayB x)) ∧ Below w.heap.size w w' := by
  have HM := Lib.hid (show Nd.mayB x = (Nd.headB x.t x.l x.v x.s x.k && x.ps.all Nd.ptrB) from rfl)
  unfold iagg
  go_enter Tryd.func10, Tryd.ntmps10
  go_upto_region 1 with (fail)
  have hk := Blk.new w 27 (icells x).toArray
  have hb := (Below.refl w.heap.size w).alloc (Nat.le_refl _) (.cells (icells x).toArray 27)
  change Blk _ _ _ (icells x) at hk
  generalize w.alloc (.cells (icells x).toArray 27) = w0 at *
  generalize w.heap.size = gq at hk ⊢
  have hps := hk.ptrs hp
  obtain ⟨t, l, v, s, k, ps⟩ := x
  simp only at HM hps hp
  have hgl := hk.lt
  have c0 := hk.cell 0
  have c1 := hk.cell 1
  have c2 := hk.cell 2
  have c3 := hk.cell 3
  have c4 := hk.cell 4
  unfold icells at c0 c1 c2 c3 c4
  simp only [List.getElem?_cons_zero, List.getElem?_cons_succ] at c0 c1 c2 c3 c4
  have HPC := Lib.hid hps.cells
  have hl1 : 9 ≤ ps.length := by omega
  have hl2 : ps.length ≤ 9 := by omega
  clear hps hp
  have HCC := Lib.hid (And.intro c0 (And.intro c1 (And.intro c2 (And.intro c3 c4))))
  clear c0 c1 c2 c3 c4
  have HH := Lib.hid (show Nd.headB t l v s k = decide ((t = 1 ∨ t = 2) ∧ 0 ≤ l ∧ l ≤ 200 ∧ 0 ≤ v ∧ v ≤ 2147483647 ∧ 0 ≤ s ∧ s ≤ 1099511627776 ∧ 0 ≤ k ∧ k ≤ 2147483647) from rfl)
  go_wp2
  go_loopw [3] (fun i wr => ∃ j : Nat, j ≤ 9 ∧ i = .int .i64 j ∧ (ps.take j).all Nd.ptrB = true ∧ Below w0.heap.size w0 wr) (fun i _ => 9 - (intOf i).toNat)
  case atStart => exact ⟨0, by omega, rfl, by simp, Below.refl _ _⟩
  case round =>
    obtain ⟨j, hj, rfl, hall, hbw⟩ := hrel
    by_cases hlt : j < 9
    · have hjl : j < ps.length := by omega
      obtain ⟨hc1, hc2, _⟩ := HPC.out j hjl
      have hx1 := (hbw.cell (p := ⟨gq, 5 + j * 2, none⟩) hgl).trans hc1
      have hx2 := (hbw.cell (p := ⟨gq, 5 + j * 2 + 1, none⟩) hgl).trans hc2
      have HY := Lib.hid (fun h => all_take hjl hall h)
      have HN := Lib.hid (fun h => all_no hjl h)
      clear hc1 hc2 HPC hall
      generalize ps[j] = p at *
      obtain ⟨pa, sm⟩ := p
      simp only at hx1 hx2
      go_wp2_with fail
      refine (rPointer_any pa sm _).mono ?_
      rintro e w1 ⟨rfl, hb1⟩
      cases hpb : Nd.ptrB (pa, sm) with
      | false =>
        have H := Lib.hid (HN.out hpb)
        clear HN HY hpb
        go_wp2
        go_ret
        exact ⟨by rw [HM.out, H.out, Bool.and_false]; rfl, hb.trans ((hbw.trans (hb1.mono hbw.size)).mono hb.size)⟩
      | true =>
        have H := Lib.hid (HY.out hpb)
        clear HN HY hpb
        go_wp2
        go_roundw
        case rel => exact ⟨j + 1, by omega, by go_num, H.out, hbw.trans (hb1.mono hbw.size)⟩
        case measure => simp [intOf]; omega
    · obtain rfl : j = 9 := by omega
      rw [List.take_of_length_le (by omega)] at hall
      rw [hall, Bool.and_true] at HM
      have c0 := (hbw.cell (p := ⟨gq, 0, none⟩) hgl).trans HCC.out.1
      have c1 := (hbw.cell (p := ⟨gq, 1, none⟩) hgl).trans HCC.out.2.1
      have c2 := (hbw.cell (p := ⟨gq, 2, none⟩) hgl).trans HCC.out.2.2.1
      have c3 := (hbw.cell (p := ⟨gq, 3, none⟩) hgl).trans HCC.out.2.2.2.1
      have c4 := (hbw.cell (p := ⟨gq, 4, none⟩) hgl).trans HCC.out.2.2.2.2
      clear hall HPC hk HCC
      by_cases t1 : t = 1 ∨ t = 2
      · rcases t1 with rfl | rfl
        · skip
          by_cases l1 : 0 ≤ l
          rotate_left
          · skip
            rw [HH.out, decide_eq_false (by omega)] at HM
            go_wp2
            go_ret
            exact ⟨by rw [HM.out]; rfl, hb.trans (hbw.mono hb.size)⟩
          by_cases l2 : l ≤ 200
          rotate_left
          · skip
            rw [HH.out, decide_eq_false (by omega)] at HM
            go_wp2
            go_ret
            exact ⟨by rw [HM.out]; rfl, hb.trans (hbw.mono hb.size)⟩
          by_cases v1 : 0 ≤ v
          rotate_left
          · skip
            rw [HH.out, decide_eq_false (by omega)] at HM
            go_wp2
            go_ret
            exact ⟨by rw [HM.out]; rfl, hb.trans (hbw.mono hb.size)⟩
          by_cases v2 : v ≤ 2147483647
          rotate_left
          · skip
            rw [HH.out, decide_eq_false (by omega)] at HM
            go_wp2
            go_ret
            exact ⟨by rw [HM.out]; rfl, hb.trans (hbw.mono hb.size)⟩
          by_cases s1 : 0 ≤ s
          rotate_left
          · skip
            rw [HH.out, decide_eq_false (by omega)] at HM
            go_wp2
            go_ret
            exact ⟨by rw [HM.out]; rfl, hb.trans (hbw.mono hb.size)⟩
          by_cases s2 : s ≤ 1099511627776
          rotate_left
          · skip
            rw [HH.out, decide_eq_false (by omega)] at HM
            go_wp2
            go_ret
            exact ⟨by rw [HM.out]; rfl, hb.trans (hbw.mono hb.size)⟩
          by_cases k1 : 0 ≤ k
          rotate_left
          · skip
            rw [HH.out, decide_eq_false (by omega)] at HM
            go_wp2
            go_ret
            exact ⟨by rw [HM.out]; rfl, hb.trans (hbw.mono hb.size)⟩
          by_cases k2 : k ≤ 2147483647
          rotate_left
          · skip
            rw [HH.out, decide_eq_false (by omega)] at HM
            go_wp2
            go_ret
            exact ⟨by rw [HM.out]; rfl, hb.trans (hbw.mono hb.size)⟩
          rw [HH.out, decide_eq_true (by omega)] at HM
          go_wp2
          go_ret
          exact ⟨by rw [HM.out]; rfl, hb.trans (hbw.mono hb.size)⟩
        · skip
          by_cases l1 : 0 ≤ l
          rotate_left
          · skip
            rw [HH.out, decide_eq_false (by omega)] at HM
            go_wp2
            go_ret
            exact ⟨by rw [HM.out]; rfl, hb.trans (hbw.mono hb.size)⟩
          by_cases l2 : l ≤ 200
          rotate_left
          · skip
            rw [HH.out, decide_eq_false (by omega)] at HM
            go_wp2
            go_ret
            exact ⟨by rw [HM.out]; rfl, hb.trans (hbw.mono hb.size)⟩
          by_cases v1 : 0 ≤ v
          rotate_left
          · skip
            rw [HH.out, decide_eq_false (by omega)] at HM
            go_wp2
            go_ret
            exact ⟨by rw [HM.out]; rfl, hb.trans (hbw.mono hb.size)⟩
          by_cases v2 : v ≤ 2147483647
          rotate_left
          · skip
            rw [HH.out, decide_eq_false (by omega)] at HM
            go_wp2
            go_ret
            exact ⟨by rw [HM.out]; rfl, hb.trans (hbw.mono hb.size)⟩
          by_cases s1 : 0 ≤ s
          rotate_left
          · skip
            rw [HH.out, decide_eq_false (by omega)] at HM
            go_wp2
            go_ret
            exact ⟨by rw [HM.out]; rfl, hb.trans (hbw.mono hb.size)⟩
          by_cases s2 : s ≤ 1099511627776
          rotate_left
          · skip
            rw [HH.out, decide_eq_false (by omega)] at HM
            go_wp2
            go_ret
            exact ⟨by rw [HM.out]; rfl, hb.trans (hbw.mono hb.size)⟩
          by_cases k1 : 0 ≤ k
          rotate_left
          · skip
            rw [HH.out, decide_eq_false (by omega)] at HM
            go_wp2
            go_ret
            exact ⟨by rw [HM.out]; rfl, hb.trans (hbw.mono hb.size)⟩
          by_cases k2 : k ≤ 2147483647
          rotate_left
          · skip
            rw [HH.out, decide_eq_false (by omega)] at HM
            go_wp2
            go_ret
            exact ⟨by rw [HM.out]; rfl, hb.trans (hbw.mono hb.size)⟩
          rw [HH.out, decide_eq_true (by omega)] at HM
          go_wp2
          go_ret
          exact ⟨by rw [HM.out]; rfl, hb.trans (hbw.mono hb.size)⟩
      · have t2 : (t == 1) = false := by rw [beq_eq_false_iff_ne]; omega
        have t3 : (t == 2) = false := by rw [beq_eq_false_iff_ne]; omega
        rw [HH.out, decide_eq_false (by omega)] at HM
        clear t1
        go_wp2
        go_ret
        exact ⟨by rw [HM.out]; rfl, hb.trans (hbw.mono hb.size)⟩
end Go.Proofs.YtmabdbleakolbaaDoor
