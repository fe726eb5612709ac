/-
  SummaryApart: two parts have the same summary just if they are the same. For every input.
-/
import Derived.Test.YtieajlpkiheebaaDoorSumL
import Derived.Test.YtieajlpkiheebaaDoorRegG
namespace Go.Proofs.YtieajlpkiheebaaDoor
open Go.ChangeShapes Go.WideShapes Go.ChangeAt Go.RowKit

theorem encodeS_any (s n : Int) (e : Bool) (vl : Value) (l : List Sm.En) (w : World) (hl : Ents w w.heap.size vl l) (hg : Sm.Good ⟨s, n, e, l⟩) (hH : Halves w) :
    Calls Tryd.prog 9 #[.agg #[.int .i64 s, .int .i64 n, .bool e, vl]] w fun r w' => ∃ ua la ea, r = .returned (.tuple #[ua, .int .i64 ea]) ∧ Bs w' w'.heap.size ua la ∧ Below w.heap.size w w' ∧
      ((ea = 0 ∧ Sm.mayB ⟨s, n, e, l⟩ = true ∧ la = Sm.smE ⟨s, n, e, l⟩) ∨ (ea = 1 ∧ Sm.mayB ⟨s, n, e, l⟩ = false ∧ la = [])) := by
  cases hm : Sm.mayB ⟨s, n, e, l⟩ with
  | true =>
    refine (encodeS_yes s n e vl l w hl hg hm hH).mono ?_
    rintro r w' ⟨u, rfl, hb, hw⟩
    exact ⟨u, _, 0, rfl, hb, hw, .inl ⟨rfl, rfl, rfl⟩⟩
  | false =>
    refine (encodeS_no s n e vl l w hl hm).mono ?_
    rintro r w' ⟨rfl, hw⟩
    exact ⟨_, [], 1, rfl, Rds.nil_ _ _ _, hw, .inr ⟨rfl, rfl, rfl⟩⟩
theorem fewS_eq (w : World) (A : Option Addr) (c : Nat) (B : Nat) (l m : List Sm.En) (h : Ents w B (.slice A l.length c) l) (hm : m = l.take 20) :
    Calls Tryd.prog 8 #[.slice A l.length c] w fun e w' => e = .returned (.slice A m.length c) ∧ w = w' := by
  obtain ⟨A', c', hA, hc, hm9, _⟩ := h.open_
  injection hA with e1 e2 e3
  subst e1 e3
  clear e2
  by_cases h20 : 20 < l.length
  · have g1 : (20 : Int) < (l.length : Int) := by omega
    have g2 : (20 : Int) ≤ c := by omega
    have g3 : (20 : Nat) ≤ c := by omega
    have HT := Lib.hid (show m.length = 20 by rw [hm, List.length_take]; omega)
    clear hm
    go_enter Tryd.func8, Tryd.ntmps8
    go_wp2
    go_ret
    exact ⟨by rw [HT.out]; rfl, rfl⟩
  · have g1 : ¬ (20 : Int) < (l.length : Int) := by omega
    have HT := Lib.hid (show m.length = l.length by rw [hm, List.length_take]; omega)
    clear hm
    go_enter Tryd.func8, Tryd.ntmps8
    go_wp2
    go_ret
    exact ⟨by rw [HT.out]; rfl, rfl⟩
theorem ents_few {w : World} {A : Option Addr} {c B : Nat} {l : List Sm.En} (h : Ents w B (.slice A l.length c) l) : Ents w B (.slice A (l.take 20).length c) (l.take 20) := by
  by_cases h20 : 20 < l.length
  · have := h.head (k := 20) (by omega)
    rw [show (l.take 20).length = 20 by rw [List.length_take]; omega]
    exact this
  · rw [List.take_of_length_le (by omega)]; exact h
/-- What is known between the operations that turn both parts. -/
structure GA (w : World) (g : Nat) (t : TypeId) (P0 P1 Q0 Q1 : List Value) (f : Nat → Bool) (x : World) : Prop where
  a : f 7 = true → f 2 = true
  b : f 2 = true → f 1 = true
  c : f 9 = true → f 5 = true
  d : f 5 = true → f 4 = true
  p0 : f 7 = false → Blk x g t P0
  p1 : f 7 = true → Blk x g t P1
  q0 : f 9 = false → Blk x (g + 1) t Q0
  q1 : f 9 = true → Blk x (g + 1) t Q1
  h : Below w.heap.size w x
section
variable {w x : World} {g : Nat} {t : TypeId} {P0 P1 Q0 Q1 : List Value} {f : Nat → Bool}
theorem GA.quiet (h : GA w g t P0 P1 Q0 Q1 f x) (i : Nat) (h7 : i ≠ 7) (h9 : i ≠ 9) (h2 : i = 2 → f 1 = true) (h5 : i = 5 → f 4 = true) : GA w g t P0 P1 Q0 Q1 (fun j => decide (j = i) || f j) x := by
  have e7 : (decide (7 = i) || f 7) = f 7 := by rw [decide_eq_false (fun e => h7 e.symm), Bool.false_or]
  have e9 : (decide (9 = i) || f 9) = f 9 := by rw [decide_eq_false (fun e => h9 e.symm), Bool.false_or]
  have up : ∀ k, f k = true → (decide (k = i) || f k) = true := fun k hk => by rw [hk, Bool.or_true]
  refine ⟨fun e => up 2 (h.a (e7 ▸ e)), fun e => ?_, fun e => up 5 (h.c (e9 ▸ e)), fun e => ?_, fun e => h.p0 (e7 ▸ e), fun e => h.p1 (e7 ▸ e), fun e => h.q0 (e9 ▸ e), fun e => h.q1 (e9 ▸ e), h.h⟩
  · by_cases hi : (2 : Nat) = i
    · exact up 1 (h2 hi.symm)
    · rw [decide_eq_false hi, Bool.false_or] at e; exact up 1 (h.b e)
  · by_cases hi : (5 : Nat) = i
    · exact up 4 (h5 hi.symm)
    · rw [decide_eq_false hi, Bool.false_or] at e; exact up 4 (h.d e)
theorem GA.st7 (h : GA w g t P0 P1 Q0 Q1 f x) (h2 : f 2 = true) (u : Value) (h7 : f 7 = false) (hg : w.heap.size ≤ g) (hP : P0.set 3 u = P1) : GA w g t P0 P1 Q0 Q1 (fun j => decide (j = 7) || f j) (x.setCell ⟨g, 3, none⟩ u) :=
  ⟨fun _ => by simp [h2], fun e => by simp at e ⊢; exact h.b e, fun e => by simp at e ⊢; exact h.c e, fun e => by simp at e ⊢; exact h.d e, fun e => by simp at e, fun _ => hP ▸ (h.p0 h7).set_ 3 u,
    fun e => by simp at e; exact (h.q0 e).far (by show g + 1 ≠ g; omega) u, fun e => by simp at e; exact (h.q1 e).far (by show g + 1 ≠ g; omega) u, h.h.setCell hg u⟩
theorem GA.st9 (h : GA w g t P0 P1 Q0 Q1 f x) (h5 : f 5 = true) (u : Value) (h9 : f 9 = false) (hg : w.heap.size ≤ g + 1) (hP : Q0.set 3 u = Q1) : GA w g t P0 P1 Q0 Q1 (fun j => decide (j = 9) || f j) (x.setCell ⟨g + 1, 3, none⟩ u) :=
  ⟨fun e => by simp at e ⊢; exact h.a e, fun e => by simp at e ⊢; exact h.b e, fun _ => by simp [h5], fun e => by simp at e ⊢; exact h.d e,
    fun e => by simp at e; exact (h.p0 e).far (by show g ≠ g + 1; omega) u, fun e => by simp at e; exact (h.p1 e).far (by show g ≠ g + 1; omega) u, fun e => by simp at e, fun _ => hP ▸ (h.q0 h9).set_ 3 u, h.h.setCell hg u⟩
end
set_option maxRecDepth 100000 in
set_option maxHeartbeats 8000000 in
theorem summaryApart_walk (w : World) (s n : Int) (e : Bool) (vl : Value) (l : List Sm.En) (s2 n2 : Int) (e2 : Bool) (vm : Value) (l2 : List Sm.En) (hl : Ents w w.heap.size vl l) (hl2 : Ents w w.heap.size vm l2) (hg : ∀ y ∈ l, y.s < 4294967296) (hg2 : ∀ y ∈ l2, y.s < 4294967296) (hH : Halves w) :
    Calls Tryd.prog 7 #[.agg #[.int .i64 s, .int .i64 n, .bool e, vl], .agg #[.int .i64 s2, .int .i64 n2, .bool e2, vm]] w fun r w' => r = .returned (.bool true) ∧ Below w.heap.size w w' := by
  obtain ⟨A, c, rfl, hc, hm, _⟩ := hl.open_
  obtain ⟨A2, c2, rfl, hc2, hm2, _⟩ := hl2.open_
  have HL := Lib.hid hl
  have HL2 := Lib.hid hl2
  have HG := Lib.hid (show Sm.Good ⟨s, n, e, l.take 20⟩ from fun y hy => hg y (List.mem_of_mem_take hy))
  have HG2 := Lib.hid (show Sm.Good ⟨s2, n2, e2, l2.take 20⟩ from fun y hy => hg2 y (List.mem_of_mem_take hy))
  clear hl hg hl2 hg2
  have k2 : Blk ((w.alloc (.cells #[.int .i64 s, .int .i64 n, .bool e, .slice A l.length c] 24)).alloc (.cells #[.int .i64 s2, .int .i64 n2, .bool e2, .slice A2 l2.length c2] 24)) w.heap.size 24 [.int .i64 s, .int .i64 n, .bool e, .slice A l.length c] := (Blk.new w 24 _).alloc _
  have k3 := Blk.new (w.alloc (.cells #[.int .i64 s, .int .i64 n, .bool e, .slice A l.length c] 24)) 24 #[.int .i64 s2, .int .i64 n2, .bool e2, .slice A2 l2.length c2]
  rw [World.size_alloc] at k3
  have b0 := ((Below.refl w.heap.size w).alloc (Nat.le_refl _) (.cells #[.int .i64 s, .int .i64 n, .bool e, .slice A l.length c] 24)).alloc (by simp) (.cells #[.int .i64 s2, .int .i64 n2, .bool e2, .slice A2 l2.length c2] 24)
  go_enter Tryd.func7, Tryd.ntmps7
  go_upto_region 1 with (fail)
  obtain ⟨w0, hw0⟩ : ∃ w0, (w.alloc (.cells #[.int .i64 s, .int .i64 n, .bool e, .slice A l.length c] 24)).alloc (.cells #[.int .i64 s2, .int .i64 n2, .bool e2, .slice A2 l2.length c2] 24) = w0 := ⟨_, rfl⟩
  rw [hw0] at k2 k3 b0 ⊢
  clear hw0
  obtain ⟨gq, hgq⟩ : ∃ gq, w.heap.size = gq := ⟨_, rfl⟩
  have hgb : w.heap.size ≤ gq := by omega
  rw [hgq] at k2 k3 ⊢
  have hgb1 : w.heap.size ≤ gq + 1 := by omega
  clear hgq
  have HEM := Lib.hid (ents_few HL.out)
  have HEM2 := Lib.hid (ents_few HL2.out)
  obtain ⟨m, hm9⟩ : ∃ m, m = l.take 20 := ⟨_, rfl⟩
  obtain ⟨m2, hm8⟩ : ∃ m2, m2 = l2.take 20 := ⟨_, rfl⟩
  rw [← hm9] at HEM HG
  rw [← hm8] at HEM2 HG2
  have HM := Lib.hid hm9
  have HM2 := Lib.hid hm8
  clear hm9 hm8
  have hG0 : GA w gq 24 [.int .i64 s, .int .i64 n, .bool e, .slice A l.length c] [.int .i64 s, .int .i64 n, .bool e, .slice A m.length c] [.int .i64 s2, .int .i64 n2, .bool e2, .slice A2 l2.length c2] [.int .i64 s2, .int .i64 n2, .bool e2, .slice A2 m2.length c2] (fun _ => false) w0.drew :=
    ⟨fun e => (by cases e), fun e => (by cases e), fun e => (by cases e), fun e => (by cases e), fun _ => k2.drew, fun e => (by cases e), fun _ => k3.drew, fun e => (by cases e), b0.drew⟩
  clear k2 k3
  refine wp_region_flags 10 [.pointer (some ⟨gq, 3, none⟩), .slice A l.length c, .slice A m.length c, .pointer (some ⟨gq + 1, 3, none⟩), .slice A2 l2.length c2, .slice A2 m2.length c2, .pointer (some ⟨gq, 3, none⟩), undef, .pointer (some ⟨gq + 1, 3, none⟩), undef] (GA w gq 24 [.int .i64 s, .int .i64 n, .bool e, .slice A l.length c] [.int .i64 s, .int .i64 n, .bool e, .slice A m.length c] [.int .i64 s2, .int .i64 n2, .bool e2, .slice A2 l2.length c2] [.int .i64 s2, .int .i64 n2, .bool e2, .slice A2 m2.length c2]) (by kernel_rfl) rfl (by kernel_rfl) ?_ ?_ ?_
  · exact hG0
  · refine ⟨?_, ?_, ?_, ?_, ?_, ?_, ?_, ?_, ?_, ?_, trivial⟩
    · intro f a x hfi hdf hG hd hs K hK
      replace hG : (GA w gq 24 [.int .i64 s, .int .i64 n, .bool e, .slice A l.length c] [.int .i64 s, .int .i64 n, .bool e, .slice A m.length c] [.int .i64 s2, .int .i64 n2, .bool e2, .slice A2 l2.length c2] [.int .i64 s2, .int .i64 n2, .bool e2, .slice A2 m2.length c2]) f x := hG
      have h2 : a.tmps.getD 2 undef = .pointer (some ⟨gq, 0, none⟩) := hs 2 (by kernel_rfl)
      clear hd hs
      refine wpOp_plain rfl rfl ?_
      go_simp
      exact hK _ _ rfl (hG.quiet 0 (by decide) (by decide) (fun h => by cases h) (fun h => by cases h))
    · intro f a x hfi hdf hG hd hs K hK
      replace hG : (GA w gq 24 [.int .i64 s, .int .i64 n, .bool e, .slice A l.length c] [.int .i64 s, .int .i64 n, .bool e, .slice A m.length c] [.int .i64 s2, .int .i64 n2, .bool e2, .slice A2 l2.length c2] [.int .i64 s2, .int .i64 n2, .bool e2, .slice A2 m2.length c2]) f x := hG
      have h9 : a.tmps.getD 9 undef = .pointer (some ⟨gq, 3, none⟩) := hd 0 9 (by kernel_rfl)
      clear hd hs
      refine wpOp_plain rfl rfl ?_
      have h7 : f 7 = false := by
        cases h : f 7 with
        | false => rfl
        | true => rw [hG.b (hG.a h)] at hfi; cases hfi
      have hc : x.cell? ⟨gq, 3, none⟩ = some (.slice A l.length c) := (hG.p0 h7).cell 3
      go_simp
      exact hK _ _ rfl (hG.quiet 1 (by decide) (by decide) (fun h => by cases h) (fun h => by cases h))
    · intro f a x hfi hdf hG hd hs K hK
      replace hG : (GA w gq 24 [.int .i64 s, .int .i64 n, .bool e, .slice A l.length c] [.int .i64 s, .int .i64 n, .bool e, .slice A m.length c] [.int .i64 s2, .int .i64 n2, .bool e2, .slice A2 l2.length c2] [.int .i64 s2, .int .i64 n2, .bool e2, .slice A2 m2.length c2]) f x := hG
      have h10 : a.tmps.getD 10 undef = .slice A l.length c := hd 1 10 (by kernel_rfl)
      clear hd hs
      refine wpOp_plain rfl rfl ?_
      go_simp
      refine (fewS_eq _ A c w.heap.size l m (HL.out.below hG.h) HM.out).mono ?_
      rintro r w' ⟨rfl, rfl⟩
      exact hK _ _ rfl (hG.quiet 2 (by decide) (by decide) (fun _ => hdf 1 10 (by kernel_rfl)) (fun h => by cases h))
    · intro f a x hfi hdf hG hd hs K hK
      replace hG : (GA w gq 24 [.int .i64 s, .int .i64 n, .bool e, .slice A l.length c] [.int .i64 s, .int .i64 n, .bool e, .slice A m.length c] [.int .i64 s2, .int .i64 n2, .bool e2, .slice A2 l2.length c2] [.int .i64 s2, .int .i64 n2, .bool e2, .slice A2 m2.length c2]) f x := hG
      have h3 : a.tmps.getD 3 undef = .pointer (some ⟨gq + 1, 0, none⟩) := hs 3 (by kernel_rfl)
      clear hd hs
      refine wpOp_plain rfl rfl ?_
      go_simp
      exact hK _ _ rfl (hG.quiet 3 (by decide) (by decide) (fun h => by cases h) (fun h => by cases h))
    · intro f a x hfi hdf hG hd hs K hK
      replace hG : (GA w gq 24 [.int .i64 s, .int .i64 n, .bool e, .slice A l.length c] [.int .i64 s, .int .i64 n, .bool e, .slice A m.length c] [.int .i64 s2, .int .i64 n2, .bool e2, .slice A2 l2.length c2] [.int .i64 s2, .int .i64 n2, .bool e2, .slice A2 m2.length c2]) f x := hG
      have h12 : a.tmps.getD 12 undef = .pointer (some ⟨gq + 1, 3, none⟩) := hd 3 12 (by kernel_rfl)
      clear hd hs
      refine wpOp_plain rfl rfl ?_
      have h9 : f 9 = false := by
        cases h : f 9 with
        | false => rfl
        | true => rw [hG.d (hG.c h)] at hfi; cases hfi
      have hc : x.cell? ⟨gq + 1, 3, none⟩ = some (.slice A2 l2.length c2) := (hG.q0 h9).cell 3
      go_simp
      exact hK _ _ rfl (hG.quiet 4 (by decide) (by decide) (fun h => by cases h) (fun h => by cases h))
    · intro f a x hfi hdf hG hd hs K hK
      replace hG : (GA w gq 24 [.int .i64 s, .int .i64 n, .bool e, .slice A l.length c] [.int .i64 s, .int .i64 n, .bool e, .slice A m.length c] [.int .i64 s2, .int .i64 n2, .bool e2, .slice A2 l2.length c2] [.int .i64 s2, .int .i64 n2, .bool e2, .slice A2 m2.length c2]) f x := hG
      have h13 : a.tmps.getD 13 undef = .slice A2 l2.length c2 := hd 4 13 (by kernel_rfl)
      clear hd hs
      refine wpOp_plain rfl rfl ?_
      go_simp
      refine (fewS_eq _ A2 c2 w.heap.size l2 m2 (HL2.out.below hG.h) HM2.out).mono ?_
      rintro r w' ⟨rfl, rfl⟩
      exact hK _ _ rfl (hG.quiet 5 (by decide) (by decide) (fun h => by cases h) (fun _ => hdf 4 13 (by kernel_rfl)))
    · intro f a x hfi hdf hG hd hs K hK
      replace hG : (GA w gq 24 [.int .i64 s, .int .i64 n, .bool e, .slice A l.length c] [.int .i64 s, .int .i64 n, .bool e, .slice A m.length c] [.int .i64 s2, .int .i64 n2, .bool e2, .slice A2 l2.length c2] [.int .i64 s2, .int .i64 n2, .bool e2, .slice A2 m2.length c2]) f x := hG
      have h2 : a.tmps.getD 2 undef = .pointer (some ⟨gq, 0, none⟩) := hs 2 (by kernel_rfl)
      clear hd hs
      refine wpOp_plain rfl rfl ?_
      go_simp
      exact hK _ _ rfl (hG.quiet 6 (by decide) (by decide) (fun h => by cases h) (fun h => by cases h))
    · intro f a x hfi hdf hG hd hs K hK
      replace hG : (GA w gq 24 [.int .i64 s, .int .i64 n, .bool e, .slice A l.length c] [.int .i64 s, .int .i64 n, .bool e, .slice A m.length c] [.int .i64 s2, .int .i64 n2, .bool e2, .slice A2 l2.length c2] [.int .i64 s2, .int .i64 n2, .bool e2, .slice A2 m2.length c2]) f x := hG
      have h15 : a.tmps.getD 15 undef = .pointer (some ⟨gq, 3, none⟩) := hd 6 15 (by kernel_rfl)
      have h11 : a.tmps.getD 11 undef = .slice A m.length c := hd 2 11 (by kernel_rfl)
      clear hd hs
      refine wpOp_plain rfl rfl ?_
      have hc : x.cell? ⟨gq, 3, none⟩ = some (.slice A l.length c) := (hG.p0 hfi).cell 3
      have hf := (hG.p0 hfi).frozen 3
      go_simp
      exact hK _ _ rfl (hG.st7 (hdf 2 11 (by kernel_rfl)) _ hfi hgb rfl)
    · intro f a x hfi hdf hG hd hs K hK
      replace hG : (GA w gq 24 [.int .i64 s, .int .i64 n, .bool e, .slice A l.length c] [.int .i64 s, .int .i64 n, .bool e, .slice A m.length c] [.int .i64 s2, .int .i64 n2, .bool e2, .slice A2 l2.length c2] [.int .i64 s2, .int .i64 n2, .bool e2, .slice A2 m2.length c2]) f x := hG
      have h3 : a.tmps.getD 3 undef = .pointer (some ⟨gq + 1, 0, none⟩) := hs 3 (by kernel_rfl)
      clear hd hs
      refine wpOp_plain rfl rfl ?_
      go_simp
      exact hK _ _ rfl (hG.quiet 8 (by decide) (by decide) (fun h => by cases h) (fun h => by cases h))
    · intro f a x hfi hdf hG hd hs K hK
      replace hG : (GA w gq 24 [.int .i64 s, .int .i64 n, .bool e, .slice A l.length c] [.int .i64 s, .int .i64 n, .bool e, .slice A m.length c] [.int .i64 s2, .int .i64 n2, .bool e2, .slice A2 l2.length c2] [.int .i64 s2, .int .i64 n2, .bool e2, .slice A2 m2.length c2]) f x := hG
      have h16 : a.tmps.getD 16 undef = .pointer (some ⟨gq + 1, 3, none⟩) := hd 8 16 (by kernel_rfl)
      have h14 : a.tmps.getD 14 undef = .slice A2 m2.length c2 := hd 5 14 (by kernel_rfl)
      clear hd hs
      refine wpOp_plain rfl rfl ?_
      have hc : x.cell? ⟨gq + 1, 3, none⟩ = some (.slice A2 l2.length c2) := (hG.q0 hfi).cell 3
      have hf := (hG.q0 hfi).frozen 3
      go_simp
      exact hK _ _ rfl (hG.st9 (hdf 5 14 (by kernel_rfl)) _ hfi hgb1 rfl)
  · intro x hG
    rintro _ rfl _ rfl _ rfl _ rfl _ rfl _ rfl _ rfl _ rfl
    simp only [Act.put, List.setIfInBounds_toArray, List.set_cons_zero, List.set_cons_succ, REnd]
    try simp only [Exit.then]
    have k2 := hG.p1 rfl
    have k3 := hG.q1 rfl
    have b1 := hG.h
    clear hG hG0 b0 HL HL2 HM HM2
    have p0 := k2.cell 0
    have p1 := k2.cell 1
    have p2 := k2.cell 2
    have p3 := k2.cell 3
    go_wp2_with fail
    refine (encodeS_any s n e _ m x ((HEM.out.below b1).more b1.size) HG.out (hH.ext b1)).mono ?_
    rintro r w3 ⟨ua, la, ea, rfl, hBa, b3, hca⟩
    replace k2 := k2.ext b3
    replace k3 := k3.ext b3
    replace b1 := b1.trans (b3.mono b1.size)
    obtain ⟨Aa, ca, rfl, _⟩ := hBa.open_
    have HBa := Lib.hid hBa
    have HCa := Lib.hid hca
    clear p0 p1 p2 p3 b3 hBa hca
    have p0 := k3.cell 0
    have p1 := k3.cell 1
    have p2 := k3.cell 2
    have p3 := k3.cell 3
    go_wp2_with fail
    refine (encodeS_any s2 n2 e2 _ m2 w3 ((HEM2.out.below b1).more b1.size) HG2.out (hH.ext b1)).mono ?_
    rintro r w4 ⟨ub, lb, eb, rfl, hBb, b4, hcb⟩
    replace k2 := k2.ext b4
    replace k3 := k3.ext b4
    replace b1 := b1.trans (b4.mono b1.size)
    obtain ⟨Ab, cb, rfl, _⟩ := hBb.open_
    have HBa4 := Lib.hid ((HBa.out.ext (Nat.le_refl _) b4).more b4.size)
    have HBb := Lib.hid hBb
    have HCb := Lib.hid hcb
    clear p0 p1 p2 p3 b4 hBb hcb HBa
    have a0 := k2.cell 0
    have a1 := k2.cell 1
    have a2 := k2.cell 2
    have a3 := k2.cell 3
    have q0 := k3.cell 0
    have q1 := k3.cell 1
    have q2 := k3.cell 2
    have q3 := k3.cell 3
    rcases HCa.out with ⟨rfl, ma, hla⟩ | ⟨rfl, ma, hla⟩ <;> rcases HCb.out with ⟨rfl, mb, hlb⟩ | ⟨rfl, mb, hlb⟩
    · obtain ⟨bb, hbb⟩ : ∃ bb, sameB ⟨s, n, e, m⟩ ⟨s2, n2, e2, m2⟩ = bb := ⟨_, rfl⟩
      have HSA := Lib.hid hbb
      have HSE := Lib.hid (show ((⟨la.toArray⟩ : ByteArray).toList == (⟨lb.toArray⟩ : ByteArray).toList) = bb by
        rw [ByteArray.toList_eq, ByteArray.toList_eq, ← hbb, hla, hlb]
        have hi := Sm.sm_inj ⟨s, n, e, m⟩ ⟨s2, n2, e2, m2⟩ ma mb HG.out HG2.out
        unfold sameB
        rw [Bool.eq_iff_iff, decide_eq_true_iff, ← hi]
        simp)
      clear hbb ma mb hla hlb
      go_upto_region 6 with (fail)
      clear a0 a1 a2 a3 q0 q1 q2 q3
      have hG0 : Below w4.heap.size w4 w4.drew := (Below.refl _ _).drew
      refine wp_region_list 13 [(fun y_ _ => y_ = .slice Aa la.length ca),
        (fun y_ _ => y_ = .string ⟨la.toArray⟩),
        (fun y_ _ => y_ = .slice Ab lb.length cb),
        (fun y_ _ => y_ = .string ⟨lb.toArray⟩),
        (fun y_ _ => y_ = .bool bb),
        (fun y_ _ => y_ = .agg #[.int .i64 s, .int .i64 n, .bool e, .slice A m.length c]),
        (fun y_ _ => y_ = .agg #[.int .i64 s2, .int .i64 n2, .bool e2, .slice A2 m2.length c2]),
        (fun y_ _ => y_ = .bool bb),
        (fun y_ _ => y_ = .bool true),
        (fun y_ _ => y_ = .bool true),
        (fun y_ _ => y_ = .bool true),
        (fun y_ _ => y_ = .bool true),
        (fun y_ _ => y_ = .bool true)]
        (fun q => Below w4.heap.size w4 q) (by kernel_rfl) rfl (by kernel_rfl) ?_ ?_ ?_ ?_
      · exact hG0
      · exact ⟨stab_eq _, stab_eq _, stab_eq _, stab_eq _, stab_eq _, stab_eq _, stab_eq _, stab_eq _, stab_eq _, stab_eq _, stab_eq _, stab_eq _, stab_eq _, trivial⟩
      · refine ⟨?_, ?_, ?_, ?_, ?_, ?_, ?_, ?_, ?_, ?_, ?_, ?_, ?_, trivial⟩
        · intro a x hG hd hs K hK
          have h5 : a.tmps.getD 5 undef = .slice Aa la.length ca := hs 5 (by kernel_rfl)
          clear hd hs
          refine wpOp_plain rfl rfl ?_
          go_simp
          exact hK _ _ rfl hG (Below.refl _ _)
        · intro a x hG hd hs K hK
          have h52 : a.tmps.getD 52 undef = .slice Aa la.length ca := hd 0 52 (by kernel_rfl)
          clear hd hs
          refine wpOp_plain rfl rfl ?_
          have hst := run_string_of (P := Tryd.prog) (HBa4.out.ext (Nat.le_refl _) hG) 26 9 5 Tryd.underlying26 Tryd.underlying5 Tryd.underlying9
          go_simp
          exact hK _ _ rfl hG (Below.refl _ _)
        · intro a x hG hd hs K hK
          have h7 : a.tmps.getD 7 undef = .slice Ab lb.length cb := hs 7 (by kernel_rfl)
          clear hd hs
          refine wpOp_plain rfl rfl ?_
          go_simp
          exact hK _ _ rfl hG (Below.refl _ _)
        · intro a x hG hd hs K hK
          have h54 : a.tmps.getD 54 undef = .slice Ab lb.length cb := hd 2 54 (by kernel_rfl)
          clear hd hs
          refine wpOp_plain rfl rfl ?_
          have hst := run_string_of (P := Tryd.prog) (HBb.out.ext (Nat.le_refl _) hG) 26 9 5 Tryd.underlying26 Tryd.underlying5 Tryd.underlying9
          go_simp
          exact hK _ _ rfl hG (Below.refl _ _)
        · intro a x hG hd hs K hK
          have h53 : a.tmps.getD 53 undef = .string ⟨la.toArray⟩ := hd 1 53 (by kernel_rfl)
          have h55 : a.tmps.getD 55 undef = .string ⟨lb.toArray⟩ := hd 3 55 (by kernel_rfl)
          clear hd hs
          refine wpOp_plain rfl rfl ?_
          have hse := HSE.out
          generalize (⟨la.toArray⟩ : ByteArray) = S1 at *
          generalize (⟨lb.toArray⟩ : ByteArray) = S2 at *
          go_simp
          exact hK _ _ rfl hG (Below.refl _ _)
        · intro a x hG hd hs K hK
          have h2 : a.tmps.getD 2 undef = .pointer (some ⟨gq, 0, none⟩) := hs 2 (by kernel_rfl)
          clear hd hs
          refine wpOp_plain rfl rfl ?_
          refine wp_load_mid 24 (.tmp 2) rfl gq 0 h2 [.int .i64 s, .int .i64 n, .bool e, .slice A m.length c] _ (k2.ext hG).range Tryd.underlying24 rfl (by kernel_rfl) ?_
          exact hK _ _ rfl hG (Below.refl _ _)
        · intro a x hG hd hs K hK
          have h3 : a.tmps.getD 3 undef = .pointer (some ⟨gq + 1, 0, none⟩) := hs 3 (by kernel_rfl)
          clear hd hs
          refine wpOp_plain rfl rfl ?_
          refine wp_load_mid 24 (.tmp 3) rfl (gq + 1) 0 h3 [.int .i64 s2, .int .i64 n2, .bool e2, .slice A2 m2.length c2] _ (k3.ext hG).range Tryd.underlying24 rfl (by kernel_rfl) ?_
          exact hK _ _ rfl hG (Below.refl _ _)
        · intro a x hG hd hs K hK
          have h57 : a.tmps.getD 57 undef = .agg #[.int .i64 s, .int .i64 n, .bool e, .slice A m.length c] := hd 5 57 (by kernel_rfl)
          have h58 : a.tmps.getD 58 undef = .agg #[.int .i64 s2, .int .i64 n2, .bool e2, .slice A2 m2.length c2] := hd 6 58 (by kernel_rfl)
          clear hd hs
          refine wpOp_plain rfl rfl ?_
          go_simp
          have y9 := b1.trans (hG.mono b1.size)
          refine (rsameS_any s n s2 n2 e e2 _ _ m m2 _ ((HEM.out.below y9).more y9.size) ((HEM2.out.below y9).more y9.size)).mono ?_
          rintro r w' ⟨rfl, hb⟩
          rw [HSA.out]
          exact hK _ _ rfl (hG.trans (hb.mono hG.size)) hb
        · intro a x hG hd hs K hK
          have h56 : a.tmps.getD 56 undef = .bool bb := hd 4 56 (by kernel_rfl)
          have h59 : a.tmps.getD 59 undef = .bool bb := hd 7 59 (by kernel_rfl)
          clear hd hs
          refine wpOp_plain rfl rfl ?_
          go_simp
          exact hK _ _ rfl hG (Below.refl _ _)
        · intro a x hG hd hs K hK
          have h60 : a.tmps.getD 60 undef = .bool true := hd 8 60 (by kernel_rfl)
          clear hd hs
          refine wpOp_plain rfl rfl ?_
          go_simp
          exact hK _ _ rfl hG (Below.refl _ _)
        · intro a x hG hd hs K hK
          have h61 : a.tmps.getD 61 undef = .bool true := hd 9 61 (by kernel_rfl)
          clear hd hs
          refine wpOp_yes rfl rfl rfl h61 ?_
          go_simp
          refine (awakeS_any _ (hH.ext (b1.trans (hG.mono b1.size)))).mono ?_
          rintro r w' ⟨rfl, hb⟩
          exact hK _ _ rfl (hG.trans (hb.mono hG.size)) hb
        · intro a x hG hd hs K hK
          have h61 : a.tmps.getD 61 undef = .bool true := hd 9 61 (by kernel_rfl)
          have h62 : a.tmps.getD 62 undef = .bool true := hd 10 62 (by kernel_rfl)
          clear hd hs
          refine wpOp_plain rfl rfl ?_
          go_simp
          exact hK _ _ rfl hG (Below.refl _ _)
        · intro a x hG hd hs K hK
          have h63 : a.tmps.getD 63 undef = .bool true := hd 11 63 (by kernel_rfl)
          clear hd hs
          refine wpOp_plain rfl rfl ?_
          go_simp
          exact hK _ _ rfl hG (Below.refl _ _)
      · intro x hG
        rintro _ rfl _ rfl _ rfl _ rfl _ rfl _ rfl _ rfl _ rfl _ rfl _ rfl _ rfl _ rfl _ rfl
        simp only [Act.put, List.setIfInBounds_toArray, List.set_cons_zero, List.set_cons_succ, REnd]
        try simp only [Exit.then]
        have c9 := b1.trans (hG.mono b1.size)
        clear hG hG0 k2 k3 b1
        go_wp2
        go_ret
        exact ⟨rfl, c9⟩
    · have HMB := Lib.hid mb
      clear ma mb hla hlb
      go_wp2_with fail
      refine (mayS_any s2 n2 e2 _ m2 w4 ((HEM2.out.below b1).more b1.size)).mono ?_
      rintro r w5 ⟨rfl, b5⟩
      rw [HMB.out]
      replace b1 := b1.trans (b5.mono b1.size)
      clear a0 a1 a2 a3 q0 q1 q2 q3 b5
      go_wp2_with fail
      refine (awakeS_any w5 (hH.ext b1)).mono ?_
      rintro r w6 ⟨rfl, b6⟩
      go_wp2
      go_ret
      exact ⟨rfl, b1.trans (b6.mono b1.size)⟩
    · have HMA := Lib.hid ma
      clear ma mb hla hlb
      go_wp2_with fail
      refine (mayS_any s n e _ m w4 ((HEM.out.below b1).more b1.size)).mono ?_
      rintro r w5 ⟨rfl, b5⟩
      rw [HMA.out]
      replace b1 := b1.trans (b5.mono b1.size)
      clear a0 a1 a2 a3 q0 q1 q2 q3 b5
      go_wp2_with fail
      refine (awakeS_any w5 (hH.ext b1)).mono ?_
      rintro r w6 ⟨rfl, b6⟩
      go_wp2
      go_ret
      exact ⟨rfl, b1.trans (b6.mono b1.size)⟩
    · have HMA := Lib.hid ma
      have HMB := Lib.hid mb
      clear ma mb hla hlb
      go_wp2_with fail
      refine (mayS_any s n e _ m w4 ((HEM.out.below b1).more b1.size)).mono ?_
      rintro r w5 ⟨rfl, b5⟩
      rw [HMA.out]
      replace b1 := b1.trans (b5.mono b1.size)
      replace k3 := k3.ext b5
      clear a0 a1 a2 a3 q0 q1 q2 q3 b5
      have q0 := k3.cell 0
      have q1 := k3.cell 1
      have q2 := k3.cell 2
      have q3 := k3.cell 3
      go_wp2_with fail
      refine (mayS_any s2 n2 e2 _ m2 w5 ((HEM2.out.below b1).more b1.size)).mono ?_
      rintro r w6 ⟨rfl, b6⟩
      rw [HMB.out]
      replace b1 := b1.trans (b6.mono b1.size)
      clear q0 q1 q2 q3 b6
      go_wp2_with fail
      refine (awakeS_any w6 (hH.ext b1)).mono ?_
      rintro r w7 ⟨rfl, b7⟩
      go_wp2
      go_ret
      exact ⟨rfl, b1.trans (b7.mono b1.size)⟩

/-- What the walk gives, for every argument and every world that holds the table. -/
theorem summaryApart_contract (H : Type) (enc : TypeId × Value → H) (W : World) (base : Nat) (args : Array Value) (ds gs : List (DataW H)) (before : List MemPlace)
    (hval : ∀ (j : Nat) t v, Tryd.f7.params[j]? = some t → args[j]? = some v → Value.okWide Tryd.prog W .any base t v)
    (hW : DataW.Whole enc Tryd.prog Tryd.f7.params.toList Rows.summaryApartSpec.vars false W args.toList ds gs before) (hL : laidMetH Tryd.prog Rows.summaryApartRow.laid W) :
    Calls Tryd.prog 7 args W fun e W' => ∃ v, e = .returned v ∧ Rows.summaryApartSpec.post enc Tryd.prog Tryd.f7 false true false false W args v W' := by
  have hW' := hW
  obtain ⟨p, q, hA0, hV, hps, hfz, hnd⟩ := hW
  have hA : DataW.TrodAll enc Tryd.prog W 0 (fun _ => true) true Tryd.f7.params.toList args.toList ds p := hA0
  rw [Tryd.params7] at hA hval
  obtain ⟨v0, vs0, d0, ds0, p0, q0, hargs, rfl, rfl, h0, r0⟩ := trodAll_cons hA
  obtain ⟨v1, vs1, d1, ds1, p1, q1, rfl, rfl, rfl, h1, r1⟩ := trodAll_cons r0
  obtain ⟨rfl, rfl, rfl⟩ := trodAll_nil r1
  obtain rfl : args = #[v0, v1] := by cases args; simp_all
  obtain ⟨rfl, rfl⟩ := trodVars_none hV
  obtain ⟨s0, n0, e0, vl0, l0, rfl, b0, g0⟩ := part_of_trod (hval 0 24 v0 rfl rfl) h0
  obtain ⟨s1, n1, e1, vl1, l1, rfl, b1, g1⟩ := part_of_trod (hval 1 24 v1 rfl rfl) h1
  clear hA0
  refine (summaryApart_walk W s0 n0 e0 vl0 l0 s1 n1 e1 vl1 l1 b0 b1 g0 g1 (halves_of hL)).mono fun e W' ⟨he, hb⟩ => ?_
  subst he
  exact ⟨_, rfl, law_post laidOut (by rw [Tryd.params7]; decide +kernel) rfl Tryd.underlying4 rfl rfl hW' hb⟩

theorem summaryApart_met (os : Os) : laidMet Tryd.prog Rows.summaryApartRow.laid ((laidWorld os).forCall (fun _ _ => 0) ⟨#[], #[.agg #[.int .i64 0, .int .i64 0, .bool false, .slice none 0 0], .agg #[.int .i64 0, .int .i64 0, .bool false, .slice none 0 0]], []⟩).memory :=
  laidMet_of_run' 8 (by kernel_rfl) (by kernel_rfl)
theorem summaryApart_reads (os : Os) {H : Type} (enc : TypeId × Value → H) : ∃ places, DataW.whole enc Tryd.prog ((laidWorld os).forCall (fun _ _ => 0) ⟨#[], #[.agg #[.int .i64 0, .int .i64 0, .bool false, .slice none 0 0], .agg #[.int .i64 0, .int .i64 0, .bool false, .slice none 0 0]], []⟩).memory Tryd.f7.params.toList Rows.summaryApartSpec.vars false (#[.agg #[.int .i64 0, .int .i64 0, .bool false, .slice none 0 0], .agg #[.int .i64 0, .int .i64 0, .bool false, .slice none 0 0]] : Array Value).toList 8 = some ([.agg [.lit (.int .i64 0), .lit (.int .i64 0), .lit (.bool false), .nil], .agg [.lit (.int .i64 0), .lit (.int .i64 0), .lit (.bool false), .nil]], [], places) :=
  ⟨[], by kernel_rfl⟩

set_option maxRecDepth 100000 in
theorem summaryApart_lifted (os : Os) (started : os.Started) (H : Type) (enc : TypeId × Value → H) (F : Stop.Interp) :
    ReturnsInHanded {} Tryd.checked os 7 .any ((OpenSpec.ofChange Rows.summaryApartSpec).preRow enc Tryd.prog Tryd.f7 Rows.summaryApartRow.domain false Rows.summaryApartRow.laid) (((OpenSpec.ofChange Rows.summaryApartSpec).at F).post enc Tryd.prog Tryd.f7 false true false false) := by
  obtain ⟨places, hx⟩ := summaryApart_reads os enc
  refine returnsInHanded_of_row (C := Tryd.checked) (s := OpenSpec.ofChange Rows.summaryApartSpec) own started (by kernel_rfl) Tryd.func7
    (witness_row_at (enc := enc) (C := Tryd.checked) false (laidWorld os) #[.agg #[.int .i64 0, .int .i64 0, .bool false, .slice none 0 0], .agg #[.int .i64 0, .int .i64 0, .bool false, .slice none 0 0]] rfl (by kernel_rfl) (by kernel_rfl) (by kernel_rfl)
      (OpenSpec.preRow_of_cond 8 hx (by kernel_rfl) (fun k hk => by cases hk) (by kernel_rfl) (summaryApart_met os))) ?_
  intro W base args ds gs before hval hW _ _ _ hL _ _
  exact summaryApart_contract H enc W base args ds gs before hval hW hL

theorem summaryApart_said : Rows.SummaryApartSaid :=
  OpenClaim.holds_of_cond 7 Tryd.f7 rfl rfl rfl rfl rfl rfl rfl ⟨rfl, rfl, rfl, rfl, rfl⟩ rfl rfl rfl rfl rfl (by kernel_rfl) Tryd.func7 (by kernel_rfl)
    (of_decide_eq_true (by kernel_rfl)) (by unfold Func.isWrapper; first | (rw [if_pos (by decide +kernel)]; kernel_rfl) | (rw [if_neg (by decide +kernel)]; exact ⟨rfl, rfl⟩))
    (fun os started H enc _ F => by rw [OpenClaim.pre_eq_preRow]; exact summaryApart_lifted os started H enc F)

theorem summaryApart_plain (f : FuncId) (fn : Func) (hf : Tryd.pinned.checked.prog.funcNamed "haymow/haymowlaw06.SummaryApart" = some f) (hfn : Tryd.pinned.checked.prog.funcs[f]? = some fn) :
    false = Tryd.pinned.checked.prog.looks [] ∧ ∀ (j : Nat) t, fn.params[j]? = some t → Tryd.pinned.checked.prog.wantsStandIn t = false := by
  obtain rfl : f = 7 := Option.some.inj ((show Tryd.prog.funcNamed "haymow/haymowlaw06.SummaryApart" = some 7 by kernel_rfl).symm.trans hf) |>.symm
  obtain rfl : fn = Tryd.f7 := (Option.some.inj (Tryd.func7.symm.trans hfn)).symm
  refine ⟨by kernel_rfl, fun j t ht => ?_⟩
  rw [Tryd.params7] at ht
  have hall : ∀ t ∈ (Tryd.f7).params.toList, Tryd.prog.wantsStandIn t = false := by rw [Tryd.params7]; decide +kernel
  exact hall t (by rw [Tryd.params7]; exact Array.mem_toList_iff.2 (Array.mem_of_getElem? ht))

/-- THE CARD. -/
theorem summaryApart_holds : Rows.SummaryApartCardSaid :=
  Claim7.holds_tied_plain_at .later [] _ _ _ _ summaryApart_said (fun _ h => by cases h) (by kernel_rfl) (fun _ h => by cases h) summaryApart_row_tie rfl ⟨rfl, rfl⟩ (by kernel_rfl) rfl summaryApart_plain (by kernel_rfl)

end Go.Proofs.YtieajlpkiheebaaDoor
