/-
  The reference of entries: Take. By an AI agent.
-/
import Derived.Test.YtahkhieoabbaaaaEntT
namespace Go.Proofs.Ytahkhieoabbaaaa
open Go.RowKit Go.ChangeShapes Go.WideShapes Go.ChangeAt Go.Lib
open Et (E)

set_option maxRecDepth 100000 in
set_option maxHeartbeats 4000000 in
theorem takeR_any (v : Value) (l : List E) (nm : List UInt8) (w : World) (hl : Ents w w.heap.size v l) (hs : Short l) (hn : nm.length < 1099511627776) :
    Calls Try.prog 17 #[v, .string ⟨nm.toArray⟩] w fun e w' => ∃ u, e = .returned (.tuple #[u, .int .i64 (Et.srchE l nm)]) ∧ Ents w' w'.heap.size u (Et.takeL l nm) ∧ Below w.heap.size w w' := by
  obtain ⟨A, c, rfl, hlc, hcm, hE⟩ := hl.open_
  have HE := Lib.hid hE
  have HT := Lib.hid (show Et.takeL l nm = if Et.srchE l nm = 0 then l.take (Et.pos l nm) ++ l.drop (Et.pos l nm + 1) else [] from rfl)
  clear hE
  go_enter Try.func17, Try.ntmps17
  go_wp2_with fail
  refine (findR_any _ l nm w hl hs hn).mono ?_
  rintro e w1 ⟨rfl, b1⟩
  clear hl
  generalize Et.findL l nm = x at *
  unfold eagg
  have b0 := b1.alloc b1.size (.cells #[.string ⟨x.n.toArray⟩, .int .i64 x.i, .int .i64 x.t] 28)
  clear b1
  by_cases hz : Et.srchE l nm = 0
  rotate_left
  · rw [if_neg hz] at HT
    have hz' : (Et.srchE l nm != 0) = true := bne_iff_ne.2 hz
    obtain ⟨er, her⟩ : ∃ er, Et.srchE l nm = er := ⟨_, rfl⟩
    have HER := Lib.hid her
    rw [her] at hz' ⊢
    clear hz her
    go_wp2
    go_ret2
    exact ⟨.slice none 0 0, by rw [HER.out]; rfl, by rw [HT.out]; exact Rds.nil_ _ _ _, b0⟩
  · have HF := Lib.hid (Et.take_filter hz)
    have HZ := Lib.hid hz
    have h30 := ((Et.may_iff l).1 (Et.srch_zero hz).1).1
    rw [hz]
    clear hz HT
    obtain ⟨N, hN⟩ : ∃ N, (⟨nm.toArray⟩ : ByteArray) = N := ⟨_, rfl⟩
    have HN := Lib.hid hN
    rw [hN]
    clear hN
    go_wp2
    generalize w1.alloc (.cells #[.string ⟨x.n.toArray⟩, .int .i64 x.i, .int .i64 x.t] 28) = w2 at *
    go_loopw [8, 9] (fun s i wr => ∃ k : Nat, k ≤ l.length ∧ i = .int .i64 k ∧ Hid (((l.take k).filter (fun y => y.n != nm)).length ≤ 30) ∧ wr.ownsRow w.heap.size 28 3 s ((l.take k).filter (fun y => y.n != nm)).length (ecells ((l.take k).filter (fun y => y.n != nm))) ∧ Below w.heap.size w wr) (fun _ i _ => l.length - (intOf i).toNat)
    case atStart => exact ⟨0, Nat.zero_le _, rfl, Lib.hid (Nat.zero_le _), World.ownsRow_nil _ _ _ _, b0⟩
    case round =>
      obtain ⟨k, hk, rfl, HC, hown, hbr⟩ := hrel
      by_cases hlt : k < l.length
      · obtain ⟨b, off, rfl, hbB, h0, h1, h2⟩ := (HE.out.below hbr) k hlt
        have HK := Lib.hid (show (l.take (k + 1)).filter (fun y => y.n != nm) = (l.take k).filter (fun y => y.n != nm) ++ [Et.at_ l k].filter (fun y => y.n != nm) by rw [List.take_succ_eq_append_getElem hlt, List.filter_append, Et.at_get l k hlt])
        have HC2 := Lib.hid (show ((l.take (k + 1)).filter (fun y => y.n != nm)).length ≤ 30 from Nat.le_trans (List.length_filter_le _ _) (by rw [List.length_take]; omega))
        have hcl := HC.out
        obtain ⟨f2, hf2⟩ : ∃ f2, (l.take (k + 1)).filter (fun y => y.n != nm) = f2 := ⟨_, rfl⟩
        have HF2 := Lib.hid hf2
        rw [hf2] at HK HC2
        clear hf2
        generalize (l.take k).filter (fun y => y.n != nm) = f1 at *
        generalize Et.at_ l k = y at *
        obtain ⟨yn, yi, yt⟩ := y
        dsimp only at h0 h1 h2
        have hcmp : (((⟨yn.toArray⟩ : ByteArray).toList == N.toList)) = decide (yn = nm) := by
          rw [← HN.out, Bool.eq_iff_iff, beq_iff_eq, decide_eq_true_iff]
          exact ba_inj _ _
        by_cases hyz : yn = nm
        · have H := Lib.hid (show f2 = f1 by rw [HK.out, List.filter_cons, if_neg (by simp [hyz])]; simp)
          rw [decide_eq_true hyz] at hcmp
          generalize (⟨yn.toArray⟩ : ByteArray) = Y at *
          clear hyz
          have hcmp2 : (Y.toList != N.toList) = false := by rw [bne, hcmp]; rfl
          go_wp2
          go_roundw
          case rel => exact ⟨k + 1, by omega, by go_num, by rw [HF2.out]; exact HC2, by rw [HF2.out, H.out]; exact hown, hbr⟩
          case measure => simp [intOf]; omega
        · have H := Lib.hid (show f2 = f1 ++ [⟨yn, yi, yt⟩] by rw [HK.out, List.filter_cons, if_pos (by simp [hyz])]; simp)
          rw [decide_eq_false hyz] at hcmp
          obtain ⟨Y, hY⟩ : ∃ Y, (⟨yn.toArray⟩ : ByteArray) = Y := ⟨_, rfl⟩
          have HY := Lib.hid hY
          rw [hY] at hcmp h0
          clear hyz hY
          have hcmp2 : (Y.toList != N.toList) = true := by rw [bne, hcmp]; rfl
          go_wp2_with (at_builtin; refine stop_ ?_)
          refine wpList_append_elem rfl _ _ rfl rfl rfl (by simp) Try.underlying22 infoEty rfl (by decide) hown rfl (by simp [Value.oneCell']) (by rw [maxLen_eq]; omega) (by omega) hbr.size ?_
          rintro v2 wb hownb hgrb
          have hBb := hbr.grown hgrb hbr.size (fun j e => (hown.lt j e).1)
          obtain ⟨A2, c2, rfl⟩ := own_slice hownb
          clear hgrb hown hcmp hcmp2 h0 h1 h2
          go_wp2
          go_roundw
          case rel =>
            refine ⟨k + 1, by omega, by go_num, by rw [HF2.out]; exact HC2, ?_, hBb⟩
            rw [HF2.out, H.out, ecells_app, List.length_append]
            rw [← HY.out] at hownb
            exact hownb
          case measure => simp [intOf]; omega
      · obtain rfl : k = l.length := by omega
        rw [List.take_length] at hown
        obtain ⟨A2, c2, rfl⟩ := own_slice hown
        go_wp2
        go_ret2
        exact ⟨.slice A2 (l.filter (fun y => y.n != nm)).length c2, by rw [HZ.out]; rfl, Ents.of_own hown HF.out.symm (by rw [HF.out]), hbr⟩
end Go.Proofs.Ytahkhieoabbaaaa
