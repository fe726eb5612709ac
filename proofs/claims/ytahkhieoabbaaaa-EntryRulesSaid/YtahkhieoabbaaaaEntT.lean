/-
  The reference of entries: At, Find, Take. By an AI agent.
-/
import Derived.Test.YtahkhieoabbaaaaEntR
import Derived.Test.YtahkhieoabbaaaaEntQ
namespace Go.Proofs.Ytahkhieoabbaaaa
open Go.RowKit Go.ChangeShapes Go.WideShapes Go.ChangeAt Go.Lib
open Et (E)

def atR (l : List E) (nm : List UInt8) : Int := if Et.hasN l nm then (Et.pos l nm : Int) else -1
theorem atR_hit {l : List E} {nm : List UInt8} (h : Et.mayB l = true) {k : Nat} (hk : k < l.length) (he : (Et.at_ l k).n = nm) : atR l nm = k := by
  have hh : Et.hasN l nm = true := (Et.hasN_iff l nm).2 ⟨Et.at_ l k, by rw [Et.at_get l k hk]; exact List.getElem_mem hk, he⟩
  have hp := (Et.has_pos (Et.may_pw h)).1 hh
  have := Et.eq_name (Et.may_pw h) (show Et.at_ l (Et.pos l nm) ∈ l by rw [Et.at_get l _ hp.1]; exact List.getElem_mem hp.1) (show Et.at_ l k ∈ l by rw [Et.at_get l k hk]; exact List.getElem_mem hk) (by rw [hp.2, he])
  unfold atR
  rw [if_pos hh, Et.at_inj (Et.may_pw h) hp.1 hk this]
theorem atR_no {l : List E} {nm : List UInt8} (h : ∀ j, j < l.length → (Et.at_ l j).n ≠ nm) : atR l nm = -1 ∧ Et.hasN l nm = false := by
  have hh : Et.hasN l nm = false := by
    cases hh : Et.hasN l nm with
    | false => rfl
    | true =>
      obtain ⟨y, hy, he⟩ := (Et.hasN_iff l nm).1 hh
      obtain ⟨k, hk, rfl⟩ := List.mem_iff_getElem.1 hy
      exact absurd he (by have := h k hk; rw [Et.at_get l k hk] at this; exact this)
  unfold atR
  rw [hh]
  exact ⟨rfl, rfl⟩

set_option maxRecDepth 100000 in
set_option maxHeartbeats 2000000 in
theorem at_any (v : Value) (l : List E) (nm : List UInt8) (w : World) (hl : Ents w w.heap.size v l) (hm : Et.mayB l = true) :
    Calls Try.prog 28 #[v, .string ⟨nm.toArray⟩] w fun e w' => e = .returned (.int .i64 (atR l nm)) ∧ w = w' := by
  obtain ⟨A, c, rfl, hlc, hcm, hE⟩ := hl.open_
  have HE := Lib.hid hE
  have HM := Lib.hid hm
  clear hl hE hm
  obtain ⟨N, hN⟩ : ∃ N, (⟨nm.toArray⟩ : ByteArray) = N := ⟨_, rfl⟩
  have HN := Lib.hid hN
  rw [hN]
  clear hN
  go_enter Try.func28, Try.ntmps28
  go_wp2
  go_loop [5] (fun i => ∃ k : Nat, k ≤ l.length ∧ i = .int .i64 k ∧ (∀ j, j < k → (Et.at_ l j).n ≠ nm)) (fun i => l.length - (intOf i).toNat)
  case atStart => exact ⟨0, Nat.zero_le _, rfl, fun j hj => absurd hj (by omega)⟩
  case round =>
    obtain ⟨k, hk, rfl, hall⟩ := hrel
    by_cases hlt : k < l.length
    · obtain ⟨b, off, rfl, hbB, h0, h1, h2⟩ := HE.out k hlt
      have HHIT := Lib.hid (fun h => atR_hit (nm := nm) HM.out hlt h)
      have HST : Hid ((Et.at_ l k).n ≠ nm → ∀ j, j < k + 1 → (Et.at_ l j).n ≠ nm) := Lib.hid (fun h j hj => by
        rcases Nat.lt_or_ge j k with h2 | h2
        · exact hall j h2
        · rw [show j = k by omega]; exact h)
      generalize Et.at_ l k = y at *
      clear hall
      have hcmp : (((⟨y.n.toArray⟩ : ByteArray).toList == N.toList)) = decide (y.n = nm) := by
        rw [← HN.out, Bool.eq_iff_iff, beq_iff_eq, decide_eq_true_iff]
        exact ba_inj _ _
      by_cases hyz : y.n = nm
      · have H := Lib.hid (HHIT.out hyz)
        rw [decide_eq_true hyz] at hcmp
        generalize (⟨y.n.toArray⟩ : ByteArray) = Y at *
        clear hyz
        go_wp2
        go_ret
        exact ⟨by rw [H.out]; rfl, rfl⟩
      · have H := Lib.hid (HST.out hyz)
        rw [decide_eq_false hyz] at hcmp
        generalize (⟨y.n.toArray⟩ : ByteArray) = Y at *
        clear hyz
        go_wp2
        go_round
        case rel => exact ⟨k + 1, by omega, by go_num, H.out⟩
        case measure => simp [intOf]; omega
    · obtain rfl : k = l.length := by omega
      have H := Lib.hid (atR_no hall).1
      go_wp2
      go_ret
      exact ⟨by rw [H.out]; rfl, rfl⟩

set_option maxRecDepth 100000 in
set_option maxHeartbeats 4000000 in
theorem findR_any (v : Value) (l : List E) (nm : List UInt8) (w : World) (hl : Ents w w.heap.size v l) (hs : Short l) (hn : nm.length < 1099511627776) :
    Calls Try.prog 14 #[v, .string ⟨nm.toArray⟩] w fun e w' => e = .returned (.tuple #[eagg (Et.findL l nm), .int .i64 (Et.srchE l nm)]) ∧ Below w.heap.size w w' := by
  obtain ⟨A, c, rfl, hlc, hcm, hE⟩ := hl.open_
  have HL := Lib.hid hl
  have HE := Lib.hid hE
  have HF := Lib.hid (show Et.findL l nm = if Et.srchE l nm = 0 then Et.at_ l (Et.pos l nm) else E.zero from rfl)
  have HS := Lib.hid (show Et.srchE l nm = if Et.mayB l then (if Tl.isN nm then (if Et.hasN l nm then 0 else 6) else 11) else 1 from rfl)
  clear hl hE
  go_enter Try.func14, Try.ntmps14
  go_upto_region 1 with fail
  generalize hW : w.alloc (.cells _ 28) = w0
  have k4 : Blk w0 w.heap.size 28 [.string ⟨#[]⟩, .int .i64 0, .int .i64 0] := by rw [← hW]; exact Blk.new w _ _
  have b0 : Below w.heap.size w w0 := by rw [← hW]; exact (Below.refl _ _).alloc (Nat.le_refl _) _
  clear hW
  obtain ⟨g, hg⟩ : ∃ g, w.heap.size = g := ⟨_, rfl⟩
  have hg1 : w.heap.size ≤ g := by omega
  rw [hg] at k4 ⊢
  clear hg
  go_wp2_with fail
  refine (mayR_any _ l w0 ((HL.out.below b0).more b0.size) hs).mono ?_
  rintro e w1 ⟨rfl, b1⟩
  replace k4 := k4.ext b1
  replace b0 := b0.trans (b1.mono b0.size)
  clear b1
  have e0 := k4.cell 0
  have e1 := k4.cell 1
  have e2 := k4.cell 2
  have ef := k4.frozen
  cases hm : Et.mayB l with
  | false =>
    rw [hm, if_neg (by decide)] at HS
    clear hm
    go_wp2
    have z4 := ((k4.set_ 0 (.string ⟨#[]⟩)).set_ 1 (.int .i64 0)).set_ 2 (.int .i64 0)
    have bz := ((b0.setCell (p := ⟨g, 0, none⟩) hg1 (.string ⟨#[]⟩)).setCell (p := ⟨g, 1, none⟩) hg1 (.int .i64 0)).setCell (p := ⟨g, 2, none⟩) hg1 (.int .i64 0)
    refine bodyPost_ret (v := .tuple #[eagg E.zero, .int .i64 1]) (res_cell2 [.string ⟨#[]⟩, .int .i64 0, .int .i64 0] _ Try.results14 rfl z4.range Try.underlying28 rfl (by kernel_rfl) rfl) rfl ?_
    exact ⟨by rw [HF.out, HS.out, if_neg (by decide)], bz⟩
  | true =>
    rw [hm, if_pos rfl] at HS
    have HM := Lib.hid hm
    clear hm e0 e1 e2 ef
    go_wp2_with fail
    refine (isR_any nm w1 hn).mono ?_
    rintro e w2 ⟨rfl, b2⟩
    replace k4 := k4.ext b2
    replace b0 := b0.trans (b2.mono b0.size)
    clear b2
    have e0 := k4.cell 0
    have e1 := k4.cell 1
    have e2 := k4.cell 2
    have ef := k4.frozen
    cases hin : Tl.isN nm with
    | false =>
      rw [hin, if_neg (by decide)] at HS
      clear hin
      go_wp2
      have z4 := ((k4.set_ 0 (.string ⟨#[]⟩)).set_ 1 (.int .i64 0)).set_ 2 (.int .i64 0)
      have bz := ((b0.setCell (p := ⟨g, 0, none⟩) hg1 (.string ⟨#[]⟩)).setCell (p := ⟨g, 1, none⟩) hg1 (.int .i64 0)).setCell (p := ⟨g, 2, none⟩) hg1 (.int .i64 0)
      refine bodyPost_ret (v := .tuple #[eagg E.zero, .int .i64 11]) (res_cell2 [.string ⟨#[]⟩, .int .i64 0, .int .i64 0] _ Try.results14 rfl z4.range Try.underlying28 rfl (by kernel_rfl) rfl) rfl ?_
      exact ⟨by rw [HF.out, HS.out, if_neg (by decide)], bz⟩
    | true =>
      rw [hin, if_pos rfl] at HS
      clear hin
      go_wp2_with fail
      refine (at_any _ l nm w2 ((HL.out.below b0).more b0.size) HM.out).mono ?_
      rintro e w3 ⟨rfl, rfl⟩
      cases hh : Et.hasN l nm with
      | false =>
        rw [hh, if_neg (by decide)] at HS
        have hat : atR l nm = -1 := by unfold atR; rw [hh]; rfl
        rw [hat]
        clear hh hat
        go_wp2
        have z4 := ((k4.set_ 0 (.string ⟨#[]⟩)).set_ 1 (.int .i64 0)).set_ 2 (.int .i64 0)
        have bz := ((b0.setCell (p := ⟨g, 0, none⟩) hg1 (.string ⟨#[]⟩)).setCell (p := ⟨g, 1, none⟩) hg1 (.int .i64 0)).setCell (p := ⟨g, 2, none⟩) hg1 (.int .i64 0)
        refine bodyPost_ret (v := .tuple #[eagg E.zero, .int .i64 6]) (res_cell2 [.string ⟨#[]⟩, .int .i64 0, .int .i64 0] _ Try.results14 rfl z4.range Try.underlying28 rfl (by kernel_rfl) rfl) rfl ?_
        exact ⟨by rw [HF.out, HS.out, if_neg (by decide)], bz⟩
      | true =>
        rw [hh, if_pos rfl] at HS
        have hat : atR l nm = (Et.pos l nm : Int) := by unfold atR; rw [hh]; rfl
        have hpl := ((Et.has_pos (Et.may_pw HM.out)).1 hh).1
        rw [hat]
        obtain ⟨b, off, rfl, hbB, h0, h1, h2⟩ := (HE.out.below b0) _ hpl
        rw [HS.out, if_pos rfl] at HF
        clear hh hat
        generalize Et.pos l nm = ps at *
        generalize Et.at_ l ps = y at *
        go_wp2
        have z4 := ((k4.set_ 0 (.string ⟨y.n.toArray⟩)).set_ 1 (.int .i64 y.i)).set_ 2 (.int .i64 y.t)
        have bz := ((b0.setCell (p := ⟨g, 0, none⟩) hg1 (.string ⟨y.n.toArray⟩)).setCell (p := ⟨g, 1, none⟩) hg1 (.int .i64 y.i)).setCell (p := ⟨g, 2, none⟩) hg1 (.int .i64 y.t)
        refine bodyPost_ret (v := .tuple #[eagg y, .int .i64 0]) (res_cell2 [.string ⟨y.n.toArray⟩, .int .i64 y.i, .int .i64 y.t] _ Try.results14 rfl z4.range Try.underlying28 rfl (by kernel_rfl) rfl) rfl ?_
        exact ⟨by rw [HF.out, HS.out], bz⟩
end Go.Proofs.Ytahkhieoabbaaaa
