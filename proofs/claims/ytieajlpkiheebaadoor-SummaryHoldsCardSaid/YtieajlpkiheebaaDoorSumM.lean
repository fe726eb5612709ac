/-
  May of package summary. By an AI agent.
-/
import Derived.Test.YtieajlpkiheebaaDoorSumI
namespace Go.Proofs.YtieajlpkiheebaaDoor
open Go.RowKit

attribute [local go_sem] Oper.semAt_some

theorem ownFrom_blk {β : Type} (B g : Nat) (t : TypeId) (f : β → List Value) : OwnFrom B (fun s W => Blk W g t (f s)) := fun s A W row hs hg hr =>
  hs.grown hg (fun e => by
    obtain ⟨_, o, ho, hc⟩ := hr g e.symm
    have h1 : A.heap[g]? = some (.cells (f s).toArray t (0, 0)) := hs
    rw [h1] at ho
    cases ho
    cases hc)

def allE (pre : List (Nat × Sm.En)) : Bool := pre.all fun x => Sm.enB x.2
theorem allE_snoc (pre : List (Nat × Sm.En)) (x : Nat × Sm.En) : allE (pre ++ [x]) = (allE pre && Sm.enB x.2) := by
  unfold allE
  rw [List.all_append, List.all_cons, List.all_nil, Bool.and_true]
theorem allE_idx (l : List Sm.En) (k : Nat) (hk : k ≤ l.length) : allE (idx l k) = (l.take k).all Sm.enB := by
  unfold allE
  rw [← idx_snd l k hk, List.all_map]; rfl

set_option maxRecDepth 100000 in
set_option maxHeartbeats 4000000 in
theorem mayS_in (s n : Int) (e : Bool) (vl : Value) (l : List Sm.En) (w : World) (hl : Ents w w.heap.size vl l) :
    CallsIn Fence.wide 9 Tryd.prog 10 #[.agg #[.int .i64 s, .int .i64 n, .bool e, vl]] w fun r w' => r = .returned (.bool (Sm.mayB ⟨s, n, e, l⟩)) ∧ Below w.heap.size w w' := by
  obtain ⟨A, c, rfl, hlc, hcm, hE⟩ := hl.open_
  refine callsIn_of_wp_marks Tryd.func10 rfl trivial ?_ rfl
  simp only [Tryd.ntmps10, List.size_toArray, List.length_cons, List.length_nil, Nat.reduceAdd, Nat.reduceSub, Array.replicate_succ, Array.replicate_zero, List.push_toArray, List.append_toArray, List.nil_append, List.cons_append]
  have hb2 : Below w.heap.size w ((w.alloc (.cells #[.int .i64 s, .int .i64 n, .bool e, .slice A l.length c] 24)).alloc (.cells #[.bool false] 4)) := ((Below.refl _ w).alloc (Nat.le_refl _) _).alloc (by simp) _
  have k2 := Blk.new (w.alloc (.cells #[.int .i64 s, .int .i64 n, .bool e, .slice A l.length c] 24)) 4 #[.bool false]
  rw [World.size_alloc] at k2
  have hc2 := k2.cell 0
  by_cases h1 : 1 ≤ s ∧ s ≤ 281474976710655 ∧ 0 ≤ n ∧ n ≤ 2147483647
  · obtain ⟨h1, h2, h3, h4⟩ := h1
    by_cases h5 : 1 ≤ l.length ∧ l.length ≤ 13
    · obtain ⟨h5, h6⟩ := h5
      have hM : Sm.mayB ⟨s, n, e, l⟩ = l.all Sm.enB := by unfold Sm.mayB Sm.hdB; simp [h1, h2, h3, h4, h5, h6]
      clear hc2
      gi_wp2_with (refine ⟨trivial, ?_⟩; gi_at_call 23; refine (callsIn_wide.2 (entries_any _ _ _ _)).mono ?_; rintro e w' ⟨rfl, rfl⟩)
      have k3 := Blk.new ((w.alloc (.cells #[.int .i64 s, .int .i64 n, .bool e, .slice A l.length c] 24)).alloc (.cells #[.bool false] 4)) 22 #[.slice A l.length c]
      replace k2 := k2.alloc (.cells #[.slice A l.length c] 22)
      replace hb2 := hb2.alloc (by simp; omega) (.cells #[.slice A l.length c] 22)
      rw [World.size_alloc, World.size_alloc] at k3
      have hsz : (((w.alloc (.cells #[.int .i64 s, .int .i64 n, .bool e, .slice A l.length c] 24)).alloc (.cells #[.bool false] 4)).alloc (.cells #[.slice A l.length c] 22)).heap.size = w.heap.size + 3 := by simp
      obtain ⟨W0, hW0⟩ : ∃ W0, ((w.alloc (.cells #[.int .i64 s, .int .i64 n, .bool e, .slice A l.length c] 24)).alloc (.cells #[.bool false] 4)).alloc (.cells #[.slice A l.length c] 22) = W0 := ⟨_, rfl⟩
      rw [hW0] at k2 k3 hb2 hsz ⊢
      clear hW0
      generalize hT : Act.mk _ _ = a0
      refine wpIn_rangeFunc_ownH rfl (by decide) (gf := 35) (lb := #[.pointer (some ⟨w.heap.size + 1 + 1, 0, none⟩)]) (by subst hT; rfl) trivial (enters_of Tryd.func35 (by kernel_rfl) rfl)
        (entries_stops 8 (by decide) (w.heap.size + 1 + 1) w.heap.size _ l W0 (by omega) (by omega) (k3.cell 0) (hl.below hb2)) belowK_t (belowK_b (by omega)) (Below.refl _ _) (fun _ => rfl)
        (fun pre W => (Blk W (w.heap.size + 1) 4 [.bool false] ∧ allE (pre.map (·.1)) = true) ∧ Below w.heap.size w W)
        (fun c pre W => ((c = .ret ∧ allE (pre.map (·.1)) = false) ∧ Blk W (w.heap.size + 1) 4 [.bool false]) ∧ Below w.heap.size w W)
        (OwnFrom.and (OwnFrom.and (ownFrom_blk _ _ _ _) (ownFrom_pure _ _)) (ownFrom_below (Nat.le_refl _) (by omega)))
        (fun c => OwnFrom.and (OwnFrom.and (ownFrom_pure _ _) (ownFrom_blk _ _ _ _)) (ownFrom_below (Nat.le_refl _) (by omega)))
        ⟨⟨k2, rfl⟩, hb2⟩
        (fun x a' W => ∃ B, w.heap.size + 1 < B ∧ Blk W B 62 [.int .i64 x.1.2.k, .int .i64 x.1.2.i, .int .i64 x.1.2.x, .int .u32 (x.1.2.s : Int)] ∧
          a' = { tmps := ((a0.tmps.setIfInBounds 36 (.int .i64 (x.1.1 : Int))).setIfInBounds 37 (.agg #[.int .i64 x.1.2.k, .int .i64 x.1.2.i, .int .i64 x.1.2.x, .int .u32 (x.1.2.s : Int)])).setIfInBounds 4 (.pointer (some ⟨B, 0, none⟩)), defers := [] })
        (fun x a' => by
          intro _ A1 A2 row hs hg hr
          obtain ⟨B, hB, hk, ha⟩ := hs
          exact ⟨B, hB, ownFrom_blk W0.heap.size B _ (fun (_ : Unit) => _) () A1 A2 row hk hg hr, ha⟩)
        ?assign ?body ?done ?stop
      case assign =>
        rintro l9 pre ⟨x, hx9⟩ W K ⟨⟨k21, hpre⟩, hB1⟩ hK
        subst hT
        unfold encE at *
        dsimp only at *
        gi_wp2
        exact hK _ _ ((KeepsOthers.alloc _ _).from _) ((Below.refl _ W).alloc hB1.size _) ⟨⟨k21.alloc _, hpre⟩, hB1.alloc hB1.size _⟩ ⟨W.heap.size, k21.lt, Blk.new W _ _, rfl⟩
      case body =>
        rintro l9 pre ⟨x, hx9⟩ a' W hl9 ⟨r9, hr9⟩ ⟨⟨k21, hpre⟩, hB1⟩ ⟨Bx, hBx, bX, rfl⟩ hlt
        subst hT
        dsimp only at bX
        simp only [List.setIfInBounds_toArray, List.set_cons_succ, List.set_cons_zero]
        have cS := k21.cell 0
        have fS := k21.frozen 0
        have c0 : W.cell? ⟨Bx, 0, none⟩ = some (.int .i64 x.2.k) := bX.cell 0
        have c1 : W.cell? ⟨Bx, 1, none⟩ = some (.int .i64 x.2.i) := bX.cell 1
        have c2 : W.cell? ⟨Bx, 2, none⟩ = some (.int .i64 x.2.x) := bX.cell 2
        have hB3 := hB1.setCell (p := ⟨w.heap.size + 1, 0, none⟩) (by simp) (.bool false)
        by_cases hx : 1 ≤ x.2.k ∧ x.2.k ≤ 4
        · obtain ⟨hx1, hx2⟩ := hx
          by_cases hy : 0 ≤ x.2.i ∧ x.2.i ≤ 255 ∧ 0 ≤ x.2.x ∧ x.2.x ≤ 65535
          · obtain ⟨hy1, hy2, hy3, hy4⟩ := hy
            have hen : Sm.enB x.2 = true := by unfold Sm.enB; simp [hx1, hx2, hy1, hy2, hy3, hy4]
            gi_wp2
            exact ⟨KeepsFrom.refl _ _, Below.refl _ _, ⟨k21, by rw [List.map_append, List.map_cons, List.map_nil, allE_snoc, hpre, hen]; rfl⟩, hB1⟩
          · have hen : Sm.enB x.2 = false := by unfold Sm.enB; simp; omega
            gi_wp2
            all_goals exact ⟨(KeepsOthers.setCell _ _ _).from _, ⟨⟨rfl, by rw [List.map_append, List.map_cons, List.map_nil, allE_snoc, hen, Bool.and_false]⟩, k21.set_ 0 _⟩, hB3⟩
        · have hen : Sm.enB x.2 = false := by unfold Sm.enB; simp; omega
          gi_wp2
          all_goals exact ⟨(KeepsOthers.setCell _ _ _).from _, ⟨⟨rfl, by rw [List.map_append, List.map_cons, List.map_nil, allE_snoc, hen, Bool.and_false]⟩, k21.set_ 0 _⟩, hB3⟩
      case done =>
        rintro D ys W hD hys ⟨⟨k21, hpre⟩, hB1⟩ hK
        subst hT
        have cS := k21.cell 0
        have fS := k21.frozen 0
        gi_wp2
        have hK' := (KeepsOthers.setCell W ⟨w.heap.size + 1, 0, none⟩ (.bool true)).same D _ hK rfl
        refine ⟨by simp, .inl ⟨_, _, rfl, run_takeDeferred hK', ?_⟩⟩
        have k22 := (k21.set_ 0 (.bool true)).grown (grownBy_putObj' _ D (.deferred none)) (fun e => by injection e with e; omega)
        have hc5 := k22.cell 0
        rw [hys, allE_idx _ _ (Nat.le_refl _), List.take_length] at hpre
        exact ⟨.bool true, by simp [results, Tryd.results10, go_sem, hc5], by rw [hpre], (hB1.setCell (p := ⟨w.heap.size + 1, 0, none⟩) (by simp) _).trans (belowK_b (w := w) (Nat.le_refl _) _ D _ _ (by omega) hK' rfl rfl)⟩
      case stop =>
        rintro D c9 pre W hD ⟨k, hk, hys⟩ ⟨⟨⟨rfl, hpre⟩, k21⟩, hB1⟩ hK
        subst hT
        gi_wp2
        refine ⟨by simp, .inl ⟨_, _, rfl, run_takeDeferred hK, ?_⟩⟩
        have k22 := k21.grown (grownBy_putObj' _ D (.deferred none)) (fun e => by injection e with e; omega)
        have hc5 := k22.cell 0
        rw [hys, allE_idx _ _ hk] at hpre
        have hall : l.all Sm.enB = false := by
          cases h : l.all Sm.enB with
          | false => rfl
          | true =>
            rw [List.all_eq_true.2 fun y hy => List.all_eq_true.1 h y (List.mem_of_mem_take hy)] at hpre
            cases hpre
        exact ⟨.bool false, by simp [results, Tryd.results10, go_sem, hc5], by rw [hall], hB1.trans (belowK_b (w := w) (Nat.le_refl _) _ D _ _ (by omega) hK rfl rfl)⟩
    · have hM : Sm.mayB ⟨s, n, e, l⟩ = false := by unfold Sm.mayB Sm.hdB; simp; omega
      rw [hM]
      gi_wp2
      all_goals exact ⟨_, by simp [results, Tryd.results10, go_sem, hc2], rfl, hb2⟩
  · have hM : Sm.mayB ⟨s, n, e, l⟩ = false := by unfold Sm.mayB Sm.hdB; simp; omega
    rw [hM]
    gi_wp2
    all_goals exact ⟨_, by simp [results, Tryd.results10, go_sem, hc2], rfl, hb2⟩
theorem mayS_any (s n : Int) (e : Bool) (vl : Value) (l : List Sm.En) (w : World) (hl : Ents w w.heap.size vl l) :
    Calls Tryd.prog 10 #[.agg #[.int .i64 s, .int .i64 n, .bool e, vl]] w fun r w' => r = .returned (.bool (Sm.mayB ⟨s, n, e, l⟩)) ∧ Below w.heap.size w w' :=
  callsIn_wide.1 (mayS_in s n e vl l w hl)
end Go.Proofs.YtieajlpkiheebaaDoor
