/-
  Of of package summary. By an AI agent.
-/
import Derived.Test.YtieajlpkiheebaaDoorSumO
namespace Go.Proofs.YtieajlpkiheebaaDoor
open Go.RowKit

attribute [local go_sem] Oper.semAt_some

/-- The entries with the checksums of their blocks. -/
def sumE (bl : List (List UInt8)) (x : Nat × Sm.En) : Sm.En := { x.2 with s := Crc.sum (bl.getD x.1 []) }
def ofL (l : List Sm.En) (bl : List (List UInt8)) : List Sm.En := (idx l l.length).map (sumE bl)
/-- Of gives an answer. -/
def lenE (bl : List (List UInt8)) (x : Nat × Sm.En) : Bool := (bl.getD x.1 []).length == 128
def allL (bl : List (List UInt8)) (pre : List (Nat × Sm.En)) : Bool := pre.all (lenE bl)
theorem allL_snoc (bl : List (List UInt8)) (pre : List (Nat × Sm.En)) (x : Nat × Sm.En) : allL bl (pre ++ [x]) = (allL bl pre && lenE bl x) := by
  unfold allL
  rw [List.all_append, List.all_cons, List.all_nil, Bool.and_true]
def ofB (p : Sm.Pt) (bl : List (List UInt8)) : Bool := (bl.length == p.l.length) && Sm.mayB p && allL bl (idx p.l p.l.length)

theorem ecells_one (l : List Sm.En) : ∀ u ∈ ecells l, u.oneCell' = true := by
  intro u hu
  unfold ecells at hu
  obtain ⟨p, _, hp⟩ := List.mem_flatMap.1 hu
  simp only [ecell, List.mem_cons, List.not_mem_nil, or_false] at hp
  rcases hp with rfl | rfl | rfl | rfl <;> rfl
theorem infoEnt : (Tryd.prog.info? 62).map (fun i => (i.zero, i.size, i.bytes)) = some (some (.agg #[.int .i64 0, .int .i64 0, .int .i64 0, .int .u32 0]), 4, 32) := by kernel_rfl
theorem res_of {W : World} {g h : Nat} {cs : List Value} {er : Int} (k10 : Blk W g 24 cs) (k11 : Blk W h 27 [.int .i64 er]) (hi : (Tryd.prog.info? 24).map (·.size) = some cs.length) (tmps : Array Value) (h10 : tmps.getD 10 undef = .pointer (some ⟨g, 0, none⟩)) (h11 : tmps.getD 11 undef = .pointer (some ⟨h, 0, none⟩)) :
    (results Tryd.f20 tmps).run Tryd.prog W = .ok (.tuple #[.agg cs.toArray, .int .i64 er]) W := by
  have hl := run_loadVar_mid (P := Tryd.prog) W g 0 24 cs _ k10.range Tryd.underlying24 rfl hi
  have hc : W.cell? ⟨h, 0, none⟩ = some (.int .i64 er) := k11.cell 0
  have hl2 : (loadVar 27 ⟨h, 0, none⟩).run Tryd.prog W = .ok (.int .i64 er) W := by simp [go_sem, hc]
  rw [Array.getD_eq_getD_getElem?] at h10 h11
  unfold results
  rw [Tryd.results20]
  simp [h10, h11, hl, hl2, asAddr]

/-- A block that holds a row's slice value among other cells, and the row, abide the turn of what is no cells. -/
theorem ownFrom_row {β : Type} (B base g : Nat) (t e : TypeId) (sz : Nat) (k : β → Nat) (f : β → List Value) (cs : β → Value → List Value) : OwnFrom B (fun s W => ∃ v, Blk W g t (cs s v) ∧ W.ownsRow base e sz v (k s) (f s)) := by
  rintro s A W row ⟨v, hv, ho⟩ hg hr
  refine ⟨v, ownFrom_blk B g t (fun (_ : Unit) => cs s v) () A W row hv hg hr, ho.kept hg ?_⟩
  rcases ho.2 with ⟨rfl, _⟩ | ⟨g', cap, cur, rfl, _, hgb, _⟩
  · exact .inl rfl
  · refine .inr fun er => ?_
    obtain ⟨_, o, ho2, hc⟩ := hr g' er.symm
    rw [hgb] at ho2
    cases ho2
    cases hc

theorem grown_set1 (w : World) (b i : Nat) (v : Value) : w.grownBy (w.setCell ⟨b, i, none⟩ v) (some b) := grown_setCells [v] w i
/-- A row of the call's own abides a store into a block of another type. -/
theorem own_far {w : World} {g : Nat} {t : TypeId} {cs : List Value} {base : Nat} {e : TypeId} {sz n : Nat} {v : Value} {xs : List Value} (h : w.ownsRow base e sz v n xs) (hg : Blk w g t cs) (hne : e ≠ t) (i : Nat) (u : Value) : (w.setCell ⟨g, i, none⟩ u).ownsRow base e sz v n xs :=
  h.kept (grown_set1 w g i u) (.inr (fun e => own_blk_ne h hg hne e.symm))
theorem own_slice {w : World} {base : Nat} {e : TypeId} {sz n : Nat} {v : Value} {xs : List Value} (h : w.ownsRow base e sz v n xs) : ∃ A c, v = .slice A n c := by
  rcases h.2 with ⟨rfl, rfl⟩ | ⟨g', cap', cur, rfl, _⟩
  · exact ⟨_, _, rfl⟩
  · exact ⟨_, _, rfl⟩

set_option maxRecDepth 100000 in
set_option maxHeartbeats 4000000 in
theorem of_in (s n : Int) (e : Bool) (vl vb : Value) (l : List Sm.En) (bl : List (List UInt8)) (w : World) (hl : Ents w w.heap.size vl l) (hb : Bss w w.heap.size vb bl) (hH : Halves w) :
    CallsIn Fence.wide 9 Tryd.prog 20 #[.int .i64 s, .int .i64 n, .bool e, vl, vb] w fun r w' =>
      (∃ u er, r = .returned (.tuple #[.agg #[.int .i64 s, .int .i64 n, .bool e, u], .int .i64 er]) ∧ ofB ⟨s, n, e, l⟩ bl = true ∧ er = 0 ∧ Ents w' w'.heap.size u (ofL l bl) ∧ Below w.heap.size w w') ∨
      (r = .returned (.tuple #[.agg #[.int .i64 0, .int .i64 0, .bool false, .slice none 0 0], .int .i64 1]) ∧ ofB ⟨s, n, e, l⟩ bl = false ∧ Below w.heap.size w w') := by
  obtain ⟨A, c, rfl, hlc, hcm, _⟩ := hl.open_
  obtain ⟨Ab, cb, rfl, hbc, hbm, _⟩ := hb.open_
  have HW := Lib.hid (show ofB ⟨s, n, e, l⟩ bl = ((bl.length == l.length) && Sm.mayB ⟨s, n, e, l⟩ && allL bl (idx l l.length)) from rfl)
  refine callsIn_of_wp_marks Tryd.func20 rfl trivial ?_ rfl
  simp only [Tryd.ntmps20, List.size_toArray, List.length_cons, List.length_nil, Nat.reduceAdd, Nat.reduceSub, Array.replicate_succ, Array.replicate_zero, List.push_toArray, List.append_toArray, List.nil_append, List.cons_append]
  gi_upto_region 2 with fail
  have k9 := (((Blk.new w 39 #[.slice Ab bl.length cb]).alloc (.cells #[.int .i64 0, .int .i64 0, .bool false, .slice none 0 0] 24)).alloc (.cells #[.int .i64 0] 27)).alloc (.cells #[.int .i64 s, .int .i64 n, .bool e, .slice A l.length c] 24)
  have k10 := ((Blk.new (w.alloc (.cells #[.slice Ab bl.length cb] 39)) 24 #[.int .i64 0, .int .i64 0, .bool false, .slice none 0 0]).alloc (.cells #[.int .i64 0] 27)).alloc (.cells #[.int .i64 s, .int .i64 n, .bool e, .slice A l.length c] 24)
  have k11 := (Blk.new ((w.alloc (.cells #[.slice Ab bl.length cb] 39)).alloc (.cells #[.int .i64 0, .int .i64 0, .bool false, .slice none 0 0] 24)) 27 #[.int .i64 0]).alloc (.cells #[.int .i64 s, .int .i64 n, .bool e, .slice A l.length c] 24)
  have k12 := Blk.new (((w.alloc (.cells #[.slice Ab bl.length cb] 39)).alloc (.cells #[.int .i64 0, .int .i64 0, .bool false, .slice none 0 0] 24)).alloc (.cells #[.int .i64 0] 27)) 24 #[.int .i64 s, .int .i64 n, .bool e, .slice A l.length c]
  have hb0 := ((((Below.refl w.heap.size w).alloc (Nat.le_refl _) (.cells #[.slice Ab bl.length cb] 39)).alloc (by simp) (.cells #[.int .i64 0, .int .i64 0, .bool false, .slice none 0 0] 24)).alloc (by simp; omega) (.cells #[.int .i64 0] 27)).alloc (by simp; omega) (.cells #[.int .i64 s, .int .i64 n, .bool e, .slice A l.length c] 24)
  simp only [World.size_alloc] at k10 k11 k12
  obtain ⟨w0, hw0⟩ : ∃ w0, (((w.alloc (.cells #[.slice Ab bl.length cb] 39)).alloc (.cells #[.int .i64 0, .int .i64 0, .bool false, .slice none 0 0] 24)).alloc (.cells #[.int .i64 0] 27)).alloc (.cells #[.int .i64 s, .int .i64 n, .bool e, .slice A l.length c] 24) = w0 := ⟨_, rfl⟩
  rw [hw0] at k9 k10 k11 k12 hb0 ⊢
  clear hw0
  have hl0 : Ents w0 w0.heap.size (.slice A l.length c) l := (hl.below hb0).more hb0.size
  have c9 := k9.cell 0
  by_cases hlen : bl.length = l.length
  · have hlz : ((bl.length : Int) != (l.length : Int)) = false := by rw [hlen]; simp
    have HLEN := Lib.hid hlen
    have hle : (bl.length == l.length) = true := beq_iff_eq.2 hlen
    clear hlen
    have c0 := k12.cell 0
    have c1 := k12.cell 1
    have c2 := k12.cell 2
    have c3 := k12.cell 3
    gi_wp2_with fail
    refine ⟨trivial, ?_⟩
    refine (callsIn_wide.2 (mayS_any s n e _ l w0 hl0)).mono ?_
    rintro e9 w1 ⟨rfl, hb1⟩
    replace k9 := k9.ext hb1
    replace k10 := k10.ext hb1
    replace k11 := k11.ext hb1
    replace k12 := k12.ext hb1
    have hw1 := hb0.trans (hb1.mono hb0.size)
    clear c0 c1 c2 c3 c9 hl0 hb1 hb0
    have d0 := k10.cell 0
    have d1 := k10.cell 1
    have d2 := k10.cell 2
    have d3 := k10.cell 3
    have d11 := k11.cell 0
    have f10 := k10.frozen
    have f11 := k11.frozen 0
    rw [hle, Bool.true_and] at HW
    clear hle
    cases hm : Sm.mayB ⟨s, n, e, l⟩ with
    | false =>
      rw [hm, Bool.false_and] at HW
      gi_wp2
      have z10 := ((((k10.set_ 0 (.int .i64 0)).set_ 1 (.int .i64 0)).set_ 2 (.bool false)).set_ 3 (.slice none 0 0)).far (p := ⟨w.heap.size + 1 + 1, 0, none⟩) (by simp) (.int .i64 1)
      have z11 := ((((k11.far (p := ⟨w.heap.size + 1, 0, none⟩) (by simp) (.int .i64 0)).far (p := ⟨w.heap.size + 1, 1, none⟩) (by simp) (.int .i64 0)).far (p := ⟨w.heap.size + 1, 2, none⟩) (by simp) (.bool false)).far (p := ⟨w.heap.size + 1, 3, none⟩) (by simp) (.slice none 0 0)).set_ 0 (.int .i64 1)
      have zb := ((((hw1.setCell (p := ⟨w.heap.size + 1, 0, none⟩) (by simp) (.int .i64 0)).setCell (p := ⟨w.heap.size + 1, 1, none⟩) (by simp) (.int .i64 0)).setCell (p := ⟨w.heap.size + 1, 2, none⟩) (by simp) (.bool false)).setCell (p := ⟨w.heap.size + 1, 3, none⟩) (by simp) (.slice none 0 0)).setCell (p := ⟨w.heap.size + 1 + 1, 0, none⟩) (by simp; omega) (.int .i64 1)
      exact ⟨_, res_of z10 z11 (by kernel_rfl) _ rfl rfl, .inr ⟨rfl, HW.out, zb⟩⟩
    | true =>
      rw [hm, Bool.true_and] at HW
      clear d0 d1 d2 d3 d11 f10 f11
      gi_upto_region 4 with fail
      refine wpIn_wide.2 ?_
      have m6 : l.length ≤ 13 := (Sm.may_parts hm).1.2.2.2.2.2
      have hmk := run_mk (P := Tryd.prog) Tryd.underlying22 infoEnt 0 l.length (by omega) (by omega) (by omega) w1
      rw [show (((0 : Nat)) : Int) = 0 from rfl] at hmk
      have k12a := k12.alloc (.cells (madeCells (Value.agg #[.int .i64 0, .int .i64 0, .int .i64 0, .int .u32 0]).cells (l.length * 4)) 62)
      have c3 : World.cell? _ ⟨w.heap.size + 1 + 1 + 1, 3, none⟩ = some (.slice A l.length c) := k12a.cell 3
      have f3 := k12a.frozen 3
      have kmk := Blk.new w1 62 (madeCells (Value.agg #[.int .i64 0, .int .i64 0, .int .i64 0, .int .u32 0]).cells (l.length * 4))
      have k9a := k9.alloc (.cells (madeCells (Value.agg #[.int .i64 0, .int .i64 0, .int .i64 0, .int .u32 0]).cells (l.length * 4)) 62)
      have k10a := k10.alloc (.cells (madeCells (Value.agg #[.int .i64 0, .int .i64 0, .int .i64 0, .int .u32 0]).cells (l.length * 4)) 62)
      have k11a := k11.alloc (.cells (madeCells (Value.agg #[.int .i64 0, .int .i64 0, .int .i64 0, .int .u32 0]).cells (l.length * 4)) 62)
      have hw1a := hw1.alloc hw1.size (.cells (madeCells (Value.agg #[.int .i64 0, .int .i64 0, .int .i64 0, .int .u32 0]).cells (l.length * 4)) 62)
      generalize w1.alloc (.cells (madeCells (Value.agg #[.int .i64 0, .int .i64 0, .int .i64 0, .int .u32 0]).cells (l.length * 4)) 62) = w2 at *
      go_wp2_with fail
      have hg12 : w.heap.size + 1 + 1 + 1 < w1.heap.size := k12.lt
      have hnew : w1.heap.size < w2.heap.size := kmk.lt
      have k12b := k12a.set_ 3 (.slice (some ⟨w1.heap.size, 0, none⟩) 0 l.length)
      have k9b := k9a.far (p := ⟨w.heap.size + 1 + 1 + 1, 3, none⟩) (by show w.heap.size ≠ w.heap.size + 1 + 1 + 1; omega) (.slice (some ⟨w1.heap.size, 0, none⟩) 0 l.length)
      have k10b := k10a.far (p := ⟨w.heap.size + 1 + 1 + 1, 3, none⟩) (by show w.heap.size + 1 ≠ w.heap.size + 1 + 1 + 1; omega) (.slice (some ⟨w1.heap.size, 0, none⟩) 0 l.length)
      have k11b := k11a.far (p := ⟨w.heap.size + 1 + 1 + 1, 3, none⟩) (by show w.heap.size + 1 + 1 ≠ w.heap.size + 1 + 1 + 1; omega) (.slice (some ⟨w1.heap.size, 0, none⟩) 0 l.length)
      have kmb := kmk.far (p := ⟨w.heap.size + 1 + 1 + 1, 3, none⟩) (by show w1.heap.size ≠ w.heap.size + 1 + 1 + 1; omega) (.slice (some ⟨w1.heap.size, 0, none⟩) 0 l.length)
      have hwb := hw1a.setCell (p := ⟨w.heap.size + 1 + 1 + 1, 3, none⟩) (by show w.heap.size ≤ w.heap.size + 1 + 1 + 1; omega) (.slice (some ⟨w1.heap.size, 0, none⟩) 0 l.length)
      have howl := kmb.own (base := w.heap.size) (by omega) 0 l.length 4 (by simp [size_madeCells]) (Nat.zero_le _) (by unfold maxLen; omega)
      rw [Nat.zero_mul, List.take_zero] at howl
      simp only [List.set_cons_succ, List.set_cons_zero] at k12b
      clear hmk c3 f3 kmk k9a k10a k11a hw1a k12a kmb k9 k10 k11 k12 hw1 hg12
      obtain ⟨w3, hw3⟩ : ∃ w3, w2.setCell ⟨w.heap.size + 1 + 1 + 1, 3, none⟩ (.slice (some ⟨w1.heap.size, 0, none⟩) 0 l.length) = w3 := ⟨_, rfl⟩
      rw [hw3] at k9b k10b k11b k12b howl hwb ⊢
      have hs3 : w2.heap.size = w3.heap.size := by rw [← hw3]; simp
      rw [hs3] at hnew
      generalize w1.heap.size = g33 at *
      clear hw3 hs3 w1 w2
      gi_wp2_with (refine ⟨trivial, ?_⟩; gi_at_call 23; refine (callsIn_wide.2 (entries_any _ _ _ _)).mono ?_; rintro e w' ⟨rfl, rfl⟩)
      have k6 := Blk.new w3 22 #[.slice A l.length c]
      replace k9b := k9b.alloc (.cells #[.slice A l.length c] 22)
      replace k10b := k10b.alloc (.cells #[.slice A l.length c] 22)
      replace k11b := k11b.alloc (.cells #[.slice A l.length c] 22)
      replace k12b := k12b.alloc (.cells #[.slice A l.length c] 22)
      replace howl := howl.alloc (.cells #[.slice A l.length c] 22)
      replace hwb := hwb.alloc hwb.size (.cells #[.slice A l.length c] 22)
      have hsz : w3.heap.size < (w3.alloc (.cells #[.slice A l.length c] 22)).heap.size := by simp
      obtain ⟨W0, hW0⟩ : ∃ W0, w3.alloc (.cells #[.slice A l.length c] 22) = W0 := ⟨_, rfl⟩
      rw [hW0] at k9b k10b k11b k12b k6 howl hwb hsz ⊢
      clear hW0
      generalize w3.heap.size = g6 at *
      clear w3
      have hg12 := k12b.lt
      generalize hT : Act.mk _ _ = a0
      refine wpIn_rangeFunc_ownH rfl (by decide) (gf := 35) (lb := #[.pointer (some ⟨g6, 0, none⟩)]) (by subst hT; rfl) trivial (enters_of Tryd.func35 (by kernel_rfl) rfl)
        (entries_stops 8 (by decide) g6 w.heap.size _ l W0 hsz hwb.size (k6.cell 0) (hl.below hwb)) belowK_t (belowK_b hwb.size) (Below.refl _ _) (fun _ => rfl)
        (fun pre W => (((((∃ v, Blk W (w.heap.size + 1 + 1 + 1) 24 [.int .i64 s, .int .i64 n, .bool e, v] ∧ W.ownsRow w.heap.size 62 4 v pre.length (ecells ((pre.map (·.1)).map (sumE bl)))) ∧ Blk W w.heap.size 39 [.slice Ab bl.length cb]) ∧ Blk W (w.heap.size + 1) 24 [.int .i64 0, .int .i64 0, .bool false, .slice none 0 0]) ∧ Blk W (w.heap.size + 1 + 1) 27 [.int .i64 0]) ∧ allL bl (pre.map (·.1)) = true) ∧ Below w.heap.size w W)
        (fun c pre W => (((c = .ret ∧ allL bl (pre.map (·.1)) = false) ∧ Blk W (w.heap.size + 1) 24 [.int .i64 0, .int .i64 0, .bool false, .slice none 0 0]) ∧ Blk W (w.heap.size + 1 + 1) 27 [.int .i64 1]) ∧ Below w.heap.size w W)
        (OwnFrom.and (OwnFrom.and (OwnFrom.and (OwnFrom.and (OwnFrom.and (ownFrom_row _ _ _ _ _ _ (fun pre : List (EntOf l) => pre.length) (fun pre => ecells ((pre.map (·.1)).map (sumE bl))) (fun _ v => [.int .i64 s, .int .i64 n, .bool e, v])) (ownFrom_blk _ _ _ _)) (ownFrom_blk _ _ _ _)) (ownFrom_blk _ _ _ _)) (ownFrom_pure _ _)) (ownFrom_below (Nat.le_refl _) hwb.size))
        (fun c => OwnFrom.and (OwnFrom.and (OwnFrom.and (ownFrom_pure _ _) (ownFrom_blk _ _ _ _)) (ownFrom_blk _ _ _ _)) (ownFrom_below (Nat.le_refl _) hwb.size))
        ⟨⟨⟨⟨⟨⟨_, k12b, howl⟩, k9b⟩, k10b⟩, k11b⟩, rfl⟩, hwb⟩
        (fun x a' W => ∃ B, w.heap.size + 1 + 1 + 1 < B ∧ Blk W B 62 [.int .i64 x.1.2.k, .int .i64 x.1.2.i, .int .i64 x.1.2.x, .int .u32 (x.1.2.s : Int)] ∧
          a' = { tmps := (((a0.tmps.setIfInBounds 37 (.int .i64 (x.1.1 : Int))).setIfInBounds 38 (.agg #[.int .i64 x.1.2.k, .int .i64 x.1.2.i, .int .i64 x.1.2.x, .int .u32 (x.1.2.s : Int)])).setIfInBounds 13 (.int .i64 (x.1.1 : Int))).setIfInBounds 14 (.pointer (some ⟨B, 0, none⟩)), defers := [] })
        (fun x a' => by
          intro _ A1 A2 row hs hg hr
          obtain ⟨B, hB, hk, ha⟩ := hs
          exact ⟨B, hB, ownFrom_blk W0.heap.size B _ (fun (_ : Unit) => _) () A1 A2 row hk hg hr, ha⟩)
        ?assign ?body ?done ?stop
      case assign =>
        rintro l9 pre ⟨x, hx9⟩ W K ⟨⟨⟨⟨⟨⟨v, bv, hown⟩, k21⟩, k22⟩, k23⟩, hpre⟩, hB1⟩ hK
        subst hT
        unfold encE at *
        dsimp only at *
        gi_wp2
        exact hK _ _ ((KeepsOthers.alloc _ _).from _) ((Below.refl _ W).alloc hB1.size _) ⟨⟨⟨⟨⟨⟨v, bv.alloc _, hown.alloc _⟩, k21.alloc _⟩, k22.alloc _⟩, k23.alloc _⟩, hpre⟩, hB1.alloc hB1.size _⟩ ⟨W.heap.size, bv.lt, Blk.new W _ _, rfl⟩
      case body =>
        rintro l9 pre ⟨⟨ix, y⟩, hx9⟩ a' W hl9 ⟨r9, hr9⟩ ⟨⟨⟨⟨⟨⟨v, bv, hown⟩, k9v⟩, k10v⟩, k11v⟩, hpre⟩, hB1⟩ ⟨Bx, hBx, bX, rfl⟩ hlt
        subst hT
        dsimp only at bX
        simp only [List.setIfInBounds_toArray, List.set_cons_succ, List.set_cons_zero]
        have hix : ix < bl.length := by
          have := (List.getElem?_eq_some_iff.1 hx9).1
          dsimp only at this
          have := HLEN.out
          omega
        have hpx : allL bl ((pre ++ [(⟨(ix, y), hx9⟩ : EntOf l)]).map (·.1)) = (allL bl (pre.map (·.1)) && lenE bl (ix, y)) := by rw [List.map_append]; exact allL_snoc _ _ _
        have hpE : ((pre ++ [(⟨(ix, y), hx9⟩ : EntOf l)]).map (·.1)).map (sumE bl) = (pre.map (·.1)).map (sumE bl) ++ [sumE bl (ix, y)] := by rw [List.map_append, List.map_append]; rfl
        have hpl : (pre ++ [(⟨(ix, y), hx9⟩ : EntOf l)]).length = pre.length + 1 := by simp
        generalize pre ++ [(⟨(ix, y), hx9⟩ : EntOf l)] = px at *
        clear hx9 hl9 hr9
        have hbb := hb.ext (Nat.le_refl _) hB1
        obtain ⟨A2, c2, hA2, _, _, hcell⟩ := hbb.open_
        obtain ⟨b, off, u, hAe, hbl, hcu, hbs⟩ := hcell ix hix
        have hgd : bl.getD ix [] = bl[ix] := by rw [List.getD_eq_getElem?_getD, List.getElem?_eq_getElem hix]; rfl
        have HO := Lib.hid (show lenE bl (ix, y) = (bl[ix].length == 128) by unfold lenE; rw [hgd])
        have HS := Lib.hid (show sumE bl (ix, y) = { y with s := Crc.sum bl[ix] } by unfold sumE; rw [hgd])
        injection hA2 with e1 e2 e3
        subst e1 e3
        clear hcell e2
        generalize bl[ix] = bi at *
        obtain ⟨Au, cu, rfl, _, _, _⟩ := hbs.open_
        have hbs2 := hbs.more hB1.size
        subst hAe
        clear hgd hbs hbb
        have c9 := k9v.cell 0
        by_cases h128 : bi.length = 128
        · have hz : ((bi.length : Int) != 128) = false := by rw [h128]; rfl
          have hok : (bi.length == 128) = true := beq_iff_eq.2 h128
          have H128 := Lib.hid h128
          clear h128
          gi_upto_region 10 with fail
          clear c9
          have hG0 : Below W.heap.size W W.drew := (Below.refl _ _).drew
          have hbW : b < W.heap.size := Nat.lt_of_lt_of_le hbl hB1.size
          refine wpIn_region_then (by rintro ⟨_, _, h⟩; exact h) (by kernel_rfl) 12 9 [(fun y_ _ => y_ = .pointer (some ⟨w.heap.size + 1 + 1 + 1, 3, none⟩)),
            (fun y_ _ => y_ = v),
            (fun y_ _ => y_ = .agg #[.int .i64 y.k, .int .i64 y.i, .int .i64 y.x, .int .u32 (y.s : Int)]),
            (fun y_ _ => y_ = .slice (some ⟨b, off, none⟩) bl.length cb),
            (fun y_ _ => y_ = .int .i64 ((ix : Nat) : Int)),
            (fun y_ _ => y_ = .pointer (some ⟨b, off + ix, none⟩)),
            (fun y_ _ => y_ = .slice Au bi.length cu),
            (fun y_ _ => y_ = .agg #[.int .i64 y.k, .int .i64 y.i, .int .i64 y.x, .int .u32 (Crc.sum bi : Int)]),
            (fun u q => ∃ g, u = .slice (some ⟨g, 0, none⟩) 1 1 ∧ Blk q g 62 (ecells [{ y with s := Crc.sum bi }]) ∧ W.heap.size ≤ g)]
            (fun q => Below W.heap.size W q) (by kernel_rfl) rfl (by decide) (by kernel_rfl) (by kernel_rfl) ?_ ?_ ?_ ?_
          · exact hG0
          · exact ⟨stab_eq _, stab_eq _, stab_eq _, stab_eq _, stab_eq _, stab_eq _, stab_eq _, stab_eq _, fun _ _ _ ⟨g, h1, h2, h3⟩ hb => ⟨g, h1, h2.ext hb, h3⟩, trivial⟩
          · refine ⟨?_, ?_, ?_, ?_, ?_, ?_, ?_, ?_, ?_, trivial⟩
            · intro a x hG hd hs K hK
              have h12 : a.tmps.getD 12 undef = .pointer (some ⟨w.heap.size + 1 + 1 + 1, 0, none⟩) := hs 12 (by kernel_rfl)
              clear hd hs
              refine wpOp_plain rfl rfl ?_
              go_simp
              exact hK _ _ rfl hG (Below.refl _ _)
            · intro a x hG hd hs K hK
              have h46 : a.tmps.getD 46 undef = .pointer (some ⟨w.heap.size + 1 + 1 + 1, 3, none⟩) := hd 0 46 (by kernel_rfl)
              clear hd hs
              refine wpOp_plain rfl rfl ?_
              have hc : x.cell? ⟨w.heap.size + 1 + 1 + 1, 3, none⟩ = some v := (hG.cell (p := ⟨w.heap.size + 1 + 1 + 1, 3, none⟩) bv.lt).trans (bv.cell 3)
              go_simp
              exact hK _ _ rfl hG (Below.refl _ _)
            · intro a x hG hd hs K hK
              have h14 : a.tmps.getD 14 undef = .pointer (some ⟨Bx, 0, none⟩) := hs 14 (by kernel_rfl)
              clear hd hs
              refine wpOp_plain rfl rfl ?_
              refine wp_load_mid 62 (.tmp 14) rfl Bx 0 h14 [.int .i64 y.k, .int .i64 y.i, .int .i64 y.x, .int .u32 (y.s : Int)] _ (Blk.ext bX hG).range Tryd.underlying62 rfl (by kernel_rfl) ?_
              exact hK _ _ rfl hG (Below.refl _ _)
            · intro a x hG hd hs K hK
              have h9 : a.tmps.getD 9 undef = .pointer (some ⟨w.heap.size, 0, none⟩) := hs 9 (by kernel_rfl)
              clear hd hs
              refine wpOp_plain rfl rfl ?_
              have hc : x.cell? ⟨w.heap.size, 0, none⟩ = some (.slice (some ⟨b, off, none⟩) bl.length cb) := (hG.cell (p := ⟨w.heap.size, 0, none⟩) k9v.lt).trans (k9v.cell 0)
              go_simp
              exact hK _ _ rfl hG (Below.refl _ _)
            · intro a x hG hd hs K hK
              have h13 : a.tmps.getD 13 undef = .int .i64 ((ix : Nat) : Int) := hs 13 (by kernel_rfl)
              clear hd hs
              refine wpOp_plain rfl rfl ?_
              go_simp
              exact hK _ _ rfl hG (Below.refl _ _)
            · intro a x hG hd hs K hK
              have h49 : a.tmps.getD 49 undef = .slice (some ⟨b, off, none⟩) bl.length cb := hd 3 49 (by kernel_rfl)
              have h50 : a.tmps.getD 50 undef = .int .i64 ((ix : Nat) : Int) := hd 4 50 (by kernel_rfl)
              clear hd hs
              refine wpOp_plain rfl rfl ?_
              go_simp
              exact hK _ _ rfl hG (Below.refl _ _)
            · intro a x hG hd hs K hK
              have h51 : a.tmps.getD 51 undef = .pointer (some ⟨b, off + ix, none⟩) := hd 5 51 (by kernel_rfl)
              clear hd hs
              refine wpOp_plain rfl rfl ?_
              have hc : x.cell? ⟨b, off + ix, none⟩ = some (.slice Au bi.length cu) := (hG.cell (p := ⟨b, off + ix, none⟩) hbW).trans hcu
              go_simp
              exact hK _ _ rfl hG (Below.refl _ _)
            · intro a x hG hd hs K hK
              have h48 : a.tmps.getD 48 undef = .agg #[.int .i64 y.k, .int .i64 y.i, .int .i64 y.x, .int .u32 (y.s : Int)] := hd 2 48 (by kernel_rfl)
              have h52 : a.tmps.getD 52 undef = .slice Au bi.length cu := hd 6 52 (by kernel_rfl)
              clear hd hs
              refine wpOp_plain rfl rfl ?_
              go_simp
              refine (summed_any y _ bi _ ((hbs2.ext (Nat.le_refl _) hG).more hG.size) (hH.ext (hB1.trans (hG.mono hB1.size)))).mono ?_
              rintro e w' ⟨rfl, hb⟩
              exact hK _ _ rfl (hG.trans (hb.mono hG.size)) hb
            · intro a x hG hd hs K hK
              have h53 : a.tmps.getD 53 undef = .agg #[.int .i64 y.k, .int .i64 y.i, .int .i64 y.x, .int .u32 (Crc.sum bi : Int)] := hd 7 53 (by kernel_rfl)
              have h53o := getD_opt h53
              clear hd hs
              refine wpOp_plain rfl rfl ?_
              go_simp
              exact hK _ _ ⟨x.heap.size, rfl, Blk.new x _ _, hG.size⟩ (hG.alloc hG.size _) ((Below.refl _ _).alloc (Nat.le_refl _) _)
          · intro x hG
            rintro _ rfl _ rfl _ rfl _ rfl _ rfl _ rfl _ rfl _ rfl v8 hv8
            simp only [Act.put, List.setIfInBounds_toArray, List.set_cons_zero, List.set_cons_succ, List.take_zero, REnd]
            rw [show List.range' 9 (12 - 9) = [9, 10, 11] from rfl, wpOps_cons]
            rename_i v
            obtain ⟨gn, rfl, kn, hgn⟩ := hv8
            have hown2 := hown.kept (grown_of_below hG none) (by cases h : v.ownBlock with | none => exact .inl rfl | some _ => exact .inr (by simp))
            have hr := kn.rds 0 1 1 4 (by show 0 + 1 * 4 ≤ 4; decide) (Nat.le_refl _) (by simp [maxLen])
            rw [List.drop_zero, List.take_of_length_le (show (4 : Nat) ≤ 1 * 4 by decide)] at hr
            obtain ⟨v', wa, hruna, howna, hgra, _⟩ := run_append_rds (P := Tryd.prog) (ty := 22) Tryd.underlying22 infoEnt rfl (by decide) hown2 hr (ecells_one _) (by rw [maxLen_eq]; omega) (by omega) (Nat.le_trans hB1.size hG.size)
            refine wpOp_plain rfl rfl ?_
            refine wp_append 47 54 22 rfl rfl rfl hruna ?_
            rw [wpOps_cons]
            refine wpOp_plain rfl rfl ?_
            have bx : Blk x (w.heap.size + 1 + 1 + 1) 24 [.int .i64 s, .int .i64 n, .bool e, v] := Blk.ext bv hG
            have ba := bx.grown hgra (own_blk_ne hown2 bx (by decide))
            have b9 := (Blk.ext k9v hG).grown hgra (own_blk_ne hown2 (Blk.ext k9v hG) (by decide))
            have b10 := (Blk.ext k10v hG).grown hgra (own_blk_ne hown2 (Blk.ext k10v hG) (by decide))
            have b11 := (Blk.ext k11v hG).grown hgra (own_blk_ne hown2 (Blk.ext k11v hG) (by decide))
            have cS : wa.cell? ⟨w.heap.size + 1 + 1 + 1, 3, none⟩ = some v := ba.cell 3
            have fS := ba.frozen 3
            obtain ⟨A', c', rfl⟩ := own_slice howna
            have hcl : ∀ (j : Nat) (o : Obj), v.ownBlock = some j → x.heap[j]? = some o → o.isCells = true := fun j o e ho => by
              rcases hown2.2 with ⟨rfl, _⟩ | ⟨g', cap', cur, rfl, _, hgb, _⟩
              · cases e
              · cases e
                rw [hgb] at ho
                cases ho
                rfl
            have hbl2 := ((hG.mono hB1.size).grown hgra (Nat.le_trans hB1.size hG.size) (fun g e => (hown2.lt g e).1)).setCell (p := ⟨w.heap.size + 1 + 1 + 1, 3, none⟩) (by show w.heap.size ≤ w.heap.size + 1 + 1 + 1; omega) (.slice A' (pre.length + 1) c')
            have hko := ((KeepsOthers.of_grownBy (grown_of_below hG none) (fun j o e => by cases e)).trans (KeepsOthers.of_grownBy hgra hcl)).trans (KeepsOthers.setCell wa ⟨w.heap.size + 1 + 1 + 1, 3, none⟩ (.slice A' (pre.length + 1) c'))
            have hfin := own_far howna ba (by decide) 3 (.slice A' (pre.length + 1) c')
            have hbf := ba.set_ 3 (.slice A' (pre.length + 1) c')
            replace b9 := b9.far (p := ⟨w.heap.size + 1 + 1 + 1, 3, none⟩) (by show w.heap.size ≠ w.heap.size + 1 + 1 + 1; omega) (.slice A' (pre.length + 1) c')
            replace b10 := b10.far (p := ⟨w.heap.size + 1 + 1 + 1, 3, none⟩) (by show w.heap.size + 1 ≠ w.heap.size + 1 + 1 + 1; omega) (.slice A' (pre.length + 1) c')
            replace b11 := b11.far (p := ⟨w.heap.size + 1 + 1 + 1, 3, none⟩) (by show w.heap.size + 1 + 1 ≠ w.heap.size + 1 + 1 + 1; omega) (.slice A' (pre.length + 1) c')
            have hcat : ecells ((pre.map (·.1)).map (sumE bl)) ++ ecells [{ y with s := Crc.sum bi }] = ecells ((px.map (·.1)).map (sumE bl)) := by rw [hpE, HS.out, ecells_app]
            rw [hcat] at hfin
            have hap : allL bl (px.map (·.1)) = true := by rw [hpx, HO.out, hok, hpre]; rfl
            clear hcl hgra howna hown2 hown bx kn hcat hpE hr hpx hpre hok hz
            refine Oper.wp_mono (K := fun a9 w' => w' = wa ∧ a9.tmps.getD 55 undef = .slice A' (pre.length + 1) c' ∧ a9.tmps.getD 56 undef = .pointer (some ⟨w.heap.size + 1 + 1 + 1, 3, none⟩)) ?_ ?_
            · rintro a9 w9 ⟨e9, h55, h56⟩
              rw [e9]
              clear e9 w9
              rw [wpOps_cons]
              refine wpOp_plain rfl rfl ?_
              refine Oper.wp_mono (K := fun _ w' => w' = World.setCell wa ⟨w.heap.size + 1 + 1 + 1, 3, none⟩ (.slice A' (pre.length + 1) c')) ?_ ?_
              · rintro a8 _ rfl
                show KeepsFrom W0.heap.size W _ ∧ Below w.heap.size W _ ∧ _
                refine ⟨hko.from _, hbl2, ⟨⟨⟨⟨⟨_, hbf, ?_⟩, b9⟩, b10⟩, b11⟩, hap⟩, hB1.trans hbl2⟩
                rw [hpl]; exact hfin
              · clear hko hbl2 hfin hbf b9 b10 b11
                go_simp
            · clear hko hbl2 hfin hbf b9 b10 b11
              simp only [Act.put]
              go_simp
        · have hz : ((bi.length : Int) != 128) = true := bne_iff_ne.2 (by omega)
          have hok : (bi.length == 128) = false := beq_eq_false_iff_ne.2 h128
          clear h128
          have d0 := k10v.cell 0
          have d1 := k10v.cell 1
          have d2 := k10v.cell 2
          have d3 := k10v.cell 3
          have d11 := k11v.cell 0
          have f10 := k10v.frozen
          have f11 := k11v.frozen 0
          gi_wp2
          have z10 := ((((k10v.set_ 0 (.int .i64 0)).set_ 1 (.int .i64 0)).set_ 2 (.bool false)).set_ 3 (.slice none 0 0)).far (p := ⟨w.heap.size + 1 + 1, 0, none⟩) (by simp) (.int .i64 1)
          have z11 := ((((k11v.far (p := ⟨w.heap.size + 1, 0, none⟩) (by simp) (.int .i64 0)).far (p := ⟨w.heap.size + 1, 1, none⟩) (by simp) (.int .i64 0)).far (p := ⟨w.heap.size + 1, 2, none⟩) (by simp) (.bool false)).far (p := ⟨w.heap.size + 1, 3, none⟩) (by simp) (.slice none 0 0)).set_ 0 (.int .i64 1)
          have zb := ((((hB1.setCell (p := ⟨w.heap.size + 1, 0, none⟩) (by simp) (.int .i64 0)).setCell (p := ⟨w.heap.size + 1, 1, none⟩) (by simp) (.int .i64 0)).setCell (p := ⟨w.heap.size + 1, 2, none⟩) (by simp) (.bool false)).setCell (p := ⟨w.heap.size + 1, 3, none⟩) (by simp) (.slice none 0 0)).setCell (p := ⟨w.heap.size + 1 + 1, 0, none⟩) (by simp; omega) (.int .i64 1)
          have zk := ((((KeepsOthers.setCell W ⟨w.heap.size + 1, 0, none⟩ (.int .i64 0)).trans (KeepsOthers.setCell _ ⟨w.heap.size + 1, 1, none⟩ (.int .i64 0))).trans (KeepsOthers.setCell _ ⟨w.heap.size + 1, 2, none⟩ (.bool false))).trans (KeepsOthers.setCell _ ⟨w.heap.size + 1, 3, none⟩ (.slice none 0 0))).trans (KeepsOthers.setCell _ ⟨w.heap.size + 1 + 1, 0, none⟩ (.int .i64 1))
          exact ⟨zk.from _, ⟨⟨⟨rfl, by rw [hpx, HO.out, hok, Bool.and_false]⟩, z10⟩, z11⟩, zb⟩
      case done =>
        rintro D ys W hD hys ⟨⟨⟨⟨⟨⟨v, bv, hown⟩, k9v⟩, k10v⟩, k11v⟩, hpre⟩, hB1⟩ hK
        subst hT
        obtain ⟨Av, cv, rfl⟩ := own_slice hown
        have c0 := bv.cell 0
        have c1 := bv.cell 1
        have c2 := bv.cell 2
        have c3 := bv.cell 3
        have d0 := k10v.cell 0
        have d1 := k10v.cell 1
        have d2 := k10v.cell 2
        have d3 := k10v.cell 3
        have d11 := k11v.cell 0
        have f10 := k10v.frozen
        have f11 := k11v.frozen 0
        rw [hys] at hpre hown
        have HY := Lib.hid hys
        clear hys
        gi_wp2
        have hlen : ys.length = l.length := by have := congrArg List.length HY.out; rw [List.length_map, idx_len] at this; exact this
        have z10 := ((((k10v.set_ 0 (.int .i64 s)).set_ 1 (.int .i64 n)).set_ 2 (.bool e)).set_ 3 (.slice Av ys.length cv)).far (p := ⟨w.heap.size + 1 + 1, 0, none⟩) (by simp) (.int .i64 0)
        have z11 := ((((k11v.far (p := ⟨w.heap.size + 1, 0, none⟩) (by simp) (.int .i64 s)).far (p := ⟨w.heap.size + 1, 1, none⟩) (by simp) (.int .i64 n)).far (p := ⟨w.heap.size + 1, 2, none⟩) (by simp) (.bool e)).far (p := ⟨w.heap.size + 1, 3, none⟩) (by simp) (.slice Av ys.length cv)).set_ 0 (.int .i64 0)
        have zb := ((((hB1.setCell (p := ⟨w.heap.size + 1, 0, none⟩) (by simp) (.int .i64 s)).setCell (p := ⟨w.heap.size + 1, 1, none⟩) (by simp) (.int .i64 n)).setCell (p := ⟨w.heap.size + 1, 2, none⟩) (by simp) (.bool e)).setCell (p := ⟨w.heap.size + 1, 3, none⟩) (by simp) (.slice Av ys.length cv)).setCell (p := ⟨w.heap.size + 1 + 1, 0, none⟩) (by simp; omega) (.int .i64 0)
        have zk := ((((KeepsOthers.setCell W ⟨w.heap.size + 1, 0, none⟩ (.int .i64 s)).trans (KeepsOthers.setCell _ ⟨w.heap.size + 1, 1, none⟩ (.int .i64 n))).trans (KeepsOthers.setCell _ ⟨w.heap.size + 1, 2, none⟩ (.bool e))).trans (KeepsOthers.setCell _ ⟨w.heap.size + 1, 3, none⟩ (.slice Av ys.length cv))).trans (KeepsOthers.setCell _ ⟨w.heap.size + 1 + 1, 0, none⟩ (.int .i64 0))
        have y1 := k10v.set_ 0 (.int .i64 s)
        have y2 := y1.set_ 1 (.int .i64 n)
        have y3 := y2.set_ 2 (.bool e)
        have y4 := y3.set_ 3 (.slice Av ys.length cv)
        have y5 := (((k11v.far (p := ⟨w.heap.size + 1, 0, none⟩) (by simp) (.int .i64 s)).far (p := ⟨w.heap.size + 1, 1, none⟩) (by simp) (.int .i64 n)).far (p := ⟨w.heap.size + 1, 2, none⟩) (by simp) (.bool e)).far (p := ⟨w.heap.size + 1, 3, none⟩) (by simp) (.slice Av ys.length cv)
        have zo := own_far (own_far (own_far (own_far (own_far hown k10v (by decide) 0 (.int .i64 s)) y1 (by decide) 1 (.int .i64 n)) y2 (by decide) 2 (.bool e)) y3 (by decide) 3 (.slice Av ys.length cv)) y5 (by decide) 0 (.int .i64 0)
        have hK' := zk.same D _ hK rfl
        refine ⟨by simp, .inl ⟨_, _, rfl, run_takeDeferred hK', ?_⟩⟩
        have w10 := z10.grown (grownBy_putObj' _ D (.deferred none)) (fun e => by injection e with e; omega)
        have w11 := z11.grown (grownBy_putObj' _ D (.deferred none)) (fun e => by injection e with e; omega)
        have hfs : Ents _ _ (.slice Av ys.length cv) (ofL l bl) := Rds.of_own (sz := 4) (n := (ofL l bl).length) (by rw [show (ofL l bl).length = ys.length by unfold ofL; rw [List.length_map, idx_len, hlen]]; exact ownsRow_putObj zo (.deferred none) hK' rfl)
        exact ⟨_, res_of w10 w11 (by kernel_rfl) _ rfl rfl, .inl ⟨_, 0, rfl, by rw [HW.out, hpre], rfl, hfs, zb.trans (belowK_b (w := w) (Nat.le_refl _) _ D _ _ (Nat.le_trans hwb.size hD) hK' rfl rfl)⟩⟩
      case stop =>
        rintro D c9 pre W hD ⟨k, hk, hys⟩ ⟨⟨⟨⟨rfl, hpre⟩, k10v⟩, k11v⟩, hB1⟩ hK
        subst hT
        gi_wp2
        refine ⟨by simp, .inl ⟨_, _, rfl, run_takeDeferred hK, ?_⟩⟩
        have z10 := k10v.grown (grownBy_putObj' _ D (.deferred none)) (fun e => by injection e with e; omega)
        have z11 := k11v.grown (grownBy_putObj' _ D (.deferred none)) (fun e => by injection e with e; omega)
        rw [hys] at hpre
        have hall : allL bl (idx l l.length) = false := by
          cases h : allL bl (idx l l.length) with
          | false => rfl
          | true =>
            unfold allL at h hpre
            rw [List.all_eq_true.2 fun y hy => List.all_eq_true.1 h y (idx_sub l k hk y hy)] at hpre
            cases hpre
        exact ⟨_, res_of z10 z11 (by kernel_rfl) _ rfl rfl, .inr ⟨rfl, by rw [HW.out, hall], hB1.trans (belowK_b (w := w) (Nat.le_refl _) _ D _ _ (Nat.le_trans hwb.size hD) hK rfl rfl)⟩⟩
  · have hlz : ((bl.length : Int) != (l.length : Int)) = true := bne_iff_ne.2 (by omega)
    rw [show (bl.length == l.length) = false from beq_eq_false_iff_ne.2 hlen, Bool.false_and, Bool.false_and] at HW
    clear hlen
    have d0 := k10.cell 0
    have d1 := k10.cell 1
    have d2 := k10.cell 2
    have d3 := k10.cell 3
    have d11 := k11.cell 0
    have f10 := k10.frozen
    have f11 := k11.frozen 0
    gi_wp2
    refine ⟨trivial, ?_⟩
    gi_wp2
    have z10 := ((((k10.set_ 0 (.int .i64 0)).set_ 1 (.int .i64 0)).set_ 2 (.bool false)).set_ 3 (.slice none 0 0)).far (p := ⟨w.heap.size + 1 + 1, 0, none⟩) (by simp) (.int .i64 1)
    have z11 := ((((k11.far (p := ⟨w.heap.size + 1, 0, none⟩) (by simp) (.int .i64 0)).far (p := ⟨w.heap.size + 1, 1, none⟩) (by simp) (.int .i64 0)).far (p := ⟨w.heap.size + 1, 2, none⟩) (by simp) (.bool false)).far (p := ⟨w.heap.size + 1, 3, none⟩) (by simp) (.slice none 0 0)).set_ 0 (.int .i64 1)
    have zb := ((((hb0.setCell (p := ⟨w.heap.size + 1, 0, none⟩) (by simp) (.int .i64 0)).setCell (p := ⟨w.heap.size + 1, 1, none⟩) (by simp) (.int .i64 0)).setCell (p := ⟨w.heap.size + 1, 2, none⟩) (by simp) (.bool false)).setCell (p := ⟨w.heap.size + 1, 3, none⟩) (by simp) (.slice none 0 0)).setCell (p := ⟨w.heap.size + 1 + 1, 0, none⟩) (by simp; omega) (.int .i64 1)
    exact ⟨_, res_of z10 z11 (by kernel_rfl) _ rfl rfl, .inr ⟨rfl, HW.out, zb⟩⟩
theorem of_any (s n : Int) (e : Bool) (vl vb : Value) (l : List Sm.En) (bl : List (List UInt8)) (w : World) (hl : Ents w w.heap.size vl l) (hb : Bss w w.heap.size vb bl) (hH : Halves w) :
    Calls Tryd.prog 20 #[.int .i64 s, .int .i64 n, .bool e, vl, vb] w fun r w' =>
      (∃ u er, r = .returned (.tuple #[.agg #[.int .i64 s, .int .i64 n, .bool e, u], .int .i64 er]) ∧ ofB ⟨s, n, e, l⟩ bl = true ∧ er = 0 ∧ Ents w' w'.heap.size u (ofL l bl) ∧ Below w.heap.size w w') ∨
      (r = .returned (.tuple #[.agg #[.int .i64 0, .int .i64 0, .bool false, .slice none 0 0], .int .i64 1]) ∧ ofB ⟨s, n, e, l⟩ bl = false ∧ Below w.heap.size w w') :=
  callsIn_wide.1 (of_in s n e vl vb l bl w hl hb hH)
end Go.Proofs.YtieajlpkiheebaaDoor
