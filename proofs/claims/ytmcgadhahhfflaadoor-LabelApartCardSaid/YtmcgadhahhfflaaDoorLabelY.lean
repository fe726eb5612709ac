/-
  The walks of label.ReadSuper and label.ReadLabel. By an AI agent.
-/
import Derived.Test.YtmcgadhahhfflaaDoorLabelX
namespace Go.Proofs.YtmcgadhahhfflaaDoor
open Go.RowKit

def SupIs (l : List UInt8) (w : World) (e : Ending) (w' : World) : Prop :=
  ∃ a b c d : Int, e = .returned (.tuple #[.agg #[.int .i64 a, .int .i64 b, .int .i64 c, .int .i64 d], .int .i64 (Lb.rsErr l : Nat)]) ∧
    ((Lb.rsErr l = 0 ∧ a = (Lb.fa l : Nat) ∧ b = (Lb.fb l : Nat) ∧ c = (Lb.fc l : Nat) ∧ d = (Lb.fd l : Nat)) ∨ (Lb.rsErr l ≠ 0 ∧ a = 0 ∧ b = 0 ∧ c = 0 ∧ d = 0)) ∧ Below w.heap.size w w'
def LabIs (l : List UInt8) (w : World) (e : Ending) (w' : World) : Prop :=
  ∃ a b : Int, e = .returned (.tuple #[.int .i64 a, .int .i64 b, .int .i64 (Lb.rlErr l : Nat)]) ∧
    ((Lb.rlErr l = 0 ∧ a = (Lb.ga l : Nat) ∧ b = (Lb.gb l : Nat)) ∨ (Lb.rlErr l ≠ 0 ∧ a = 0 ∧ b = 0)) ∧ Below w.heap.size w w'

set_option maxRecDepth 100000 in
set_option maxHeartbeats 4000000 in
theorem readSuper_any (w : World) (v : Value) (l : List UInt8) (hH : Halves w) (h : Bs w w.heap.size v l) :
    Calls Tryd.prog 11 #[v] w (SupIs l w) := by
  obtain ⟨A, c, rfl, hc, hm, _⟩ := h.openD
  have hlt := Lb.f_lt l
  go_enter Tryd.func11, Tryd.ntmps11
  go_wp2_with fail
  have hk0 := Blk.new w 23 #[.int .i64 0, .int .i64 0, .int .i64 0, .int .i64 0]
  have b0 := (Below.refl w.heap.size w).alloc (Nat.le_refl _) (.cells #[.int .i64 0, .int .i64 0, .int .i64 0, .int .i64 0] 23)
  have h0 := h.ext (Nat.le_refl _) b0
  have z0 : (w.alloc (.cells #[.int .i64 0, .int .i64 0, .int .i64 0, .int .i64 0] 23)).heap.size = w.heap.size + 1 := by simp
  generalize w.alloc (.cells #[.int .i64 0, .int .i64 0, .int .i64 0, .int .i64 0] 23) = w0 at *
  have b1 := b0.alloc b0.size (.cells #[.int .i64 2, .int .i64 2, .int .i64 1, .int .i64 2] 3)
  have hk1 := hk0.alloc (.cells #[.int .i64 2, .int .i64 2, .int .i64 1, .int .i64 2] 3)
  have hw := Is.lit .i64 w0 3 #[.int .i64 2, .int .i64 2, .int .i64 1, .int .i64 2] [2, 2, 1, 2] 4 rfl rfl (by simp [maxLen])
  have hs1 := Rds.alloc h0 b0.size (.cells #[.int .i64 2, .int .i64 2, .int .i64 1, .int .i64 2] 3)
  have z1 : (w0.alloc (.cells #[.int .i64 2, .int .i64 2, .int .i64 1, .int .i64 2] 3)).heap.size = w0.heap.size + 1 := by simp
  rw [z0] at hw
  generalize w0.alloc (.cells #[.int .i64 2, .int .i64 2, .int .i64 1, .int .i64 2] 3) = w1 at *
  clear h0 hk0
  refine (read_any w1 _ _ l 1751218541 [2, 2, 1, 2] (hH.ext b1) (Rds.more hs1 b1.size) (Rds.more hw (by omega)) (by simp) (by decide) (by decide) (by decide)).mono ?_
  rintro e w2 ⟨x, rfl, hx, b2⟩
  have c2 := b1.trans (b2.mono b1.size)
  have hk2 := hk1.below b2 (by omega)
  have HRS := Lib.hid (show Lb.rsErr l = if Lb.rdErr l 1751218541 [2, 2, 1, 2] = 0 then (if Lb.geoB (Lb.fa l) (Lb.fb l) (Lb.fc l) (Lb.fd l) then 0 else 3) else Lb.rdErr l 1751218541 [2, 2, 1, 2] from rfl)
  clear hs1 hw hk1 b1 b0 b2
  rcases Lb.rdErr_cases l 1751218541 [2, 2, 1, 2] with hr | hr | hr
  · have hx := hx hr
    rw [Lb.sup_vals] at hx
    rw [if_pos hr] at HRS
    rw [hr]
    clear hr
    obtain ⟨A2, c3, rfl, hc3, hm3, hcell⟩ := hx.open_
    obtain ⟨bx, ox, rfl, hbx, e0⟩ := hcell 0 (by simp)
    obtain ⟨_, _, he, _, e1⟩ := hcell 1 (by simp)
    injection he with he
    injection he with he1 he2
    subst he1 he2
    obtain ⟨_, _, he, _, e2⟩ := hcell 2 (by simp)
    injection he with he
    injection he with he1 he2
    subst he1 he2
    obtain ⟨_, _, he, _, e3⟩ := hcell 3 (by simp)
    injection he with he
    injection he with he1 he2
    subst he1 he2
    simp only [List.map_cons, List.map_nil, List.getElem_cons_zero, List.getElem_cons_succ, Nat.add_zero, List.length_cons, List.length_nil, Nat.zero_add, Nat.reduceAdd] at e0 e1 e2 e3 hc3
    simp only [List.map_cons, List.map_nil, List.length_cons, List.length_nil, Nat.zero_add, Nat.reduceAdd]
    clear hcell hx h
    generalize hA : Lb.fa l = fa at *
    generalize hB : Lb.fb l = fb at *
    generalize hC : Lb.fc l = fc at *
    generalize hD : Lb.fd l = fd at *
    have HA := Lib.hid hA
    have HB := Lib.hid hB
    have HC := Lib.hid hC
    have HD := Lib.hid hD
    clear hA hB hC hD
    have k4 : (0 : Int) ≤ 4 := by omega
    go_wp2_with fail
    go_region
    have hk3 := (Blk.new w2 23 #[.int .i64 (fa : Int), .int .i64 (fb : Int), .int .i64 (fc : Int), .int .i64 (fd : Int)]).drew
    have hr3 := (hk2.alloc (.cells #[.int .i64 (fa : Int), .int .i64 (fb : Int), .int .i64 (fc : Int), .int .i64 (fd : Int)] 23)).drew
    have c3 := (c2.alloc c2.size (.cells #[.int .i64 (fa : Int), .int .i64 (fb : Int), .int .i64 (fc : Int), .int .i64 (fd : Int)] 23)).drew
    generalize (w2.alloc (.cells #[.int .i64 (fa : Int), .int .i64 (fb : Int), .int .i64 (fc : Int), .int .i64 (fd : Int)] 23)).drew = W at *
    have x0 := hk3.cell 0
    have x1 := hk3.cell 1
    have x2 := hk3.cell 2
    have x3 := hk3.cell 3
    simp only [List.getElem?_cons_zero, List.getElem?_cons_succ] at x0 x1 x2 x3
    clear e0 e1 e2 e3 hk2 c2
    go_wp2_with fail
    refine (addrMay_any fa fb fc fd _ (by omega)).mono ?_
    rintro e w3 ⟨rfl, b3⟩
    have hk4 := hk3.ext b3
    have hr4 := hr3.ext b3
    have c4 := c3.trans (b3.mono c3.size)
    clear x0 x1 x2 x3 hk3 hr3 b3 c3
    have x0 := hk4.cell 0
    have x1 := hk4.cell 1
    have x2 := hk4.cell 2
    have x3 := hk4.cell 3
    have y0 := hr4.cell 0
    have y1 := hr4.cell 1
    have y2 := hr4.cell 2
    have y3 := hr4.cell 3
    have f0 := hr4.frozen 0
    have f1 := hr4.frozen 1
    have f2 := hr4.frozen 2
    have f3 := hr4.frozen 3
    simp only [List.getElem?_cons_zero, List.getElem?_cons_succ] at x0 x1 x2 x3 y0 y1 y2 y3
    cases hg : Lb.geoB fa fb fc fd with
    | true =>
      rw [hg, if_pos rfl] at HRS
      clear hg
      go_wp2
      have hf := (((hr4.set_ 0 (.int .i64 (fa : Int))).set_ 1 (.int .i64 (fb : Int))).set_ 2 (.int .i64 (fc : Int))).set_ 3 (.int .i64 (fd : Int))
      have cf := ((((c4.setCell (p := ⟨w.heap.size, 0, none⟩) (Nat.le_refl _) (.int .i64 (fa : Int))).setCell (p := ⟨w.heap.size, 1, none⟩) (Nat.le_refl _) (.int .i64 (fb : Int))).setCell (p := ⟨w.heap.size, 2, none⟩) (Nat.le_refl _) (.int .i64 (fc : Int))).setCell (p := ⟨w.heap.size, 3, none⟩) (Nat.le_refl _) (.int .i64 (fd : Int)))
      generalize (((w3.setCell ⟨w.heap.size, 0, none⟩ (.int .i64 (fa : Int))).setCell ⟨w.heap.size, 1, none⟩ (.int .i64 (fb : Int))).setCell ⟨w.heap.size, 2, none⟩ (.int .i64 (fc : Int))).setCell ⟨w.heap.size, 3, none⟩ (.int .i64 (fd : Int)) = WF at *
      have p0 := hf.cell 0
      have p1 := hf.cell 1
      have p2 := hf.cell 2
      have p3 := hf.cell 3
      simp only [List.set_cons_zero, List.set_cons_succ, List.getElem?_cons_zero, List.getElem?_cons_succ] at p0 p1 p2 p3
      refine bodyPost_ret (v := .tuple #[.agg #[.int .i64 (fa : Int), .int .i64 (fb : Int), .int .i64 (fc : Int), .int .i64 (fd : Int)], .int .i64 0]) (by simp [results, Tryd.results11, go_sem, p0, p1, p2, p3]) rfl ?_
      exact ⟨_, _, _, _, by rw [HRS.out]; rfl, .inl ⟨HRS.out, by rw [HA.out], by rw [HB.out], by rw [HC.out], by rw [HD.out]⟩, cf⟩
    | false =>
      rw [hg] at HRS
      clear hg
      go_wp2
      have hf := (((hr4.set_ 0 (.int .i64 0)).set_ 1 (.int .i64 0)).set_ 2 (.int .i64 0)).set_ 3 (.int .i64 0)
      have cf := ((((c4.setCell (p := ⟨w.heap.size, 0, none⟩) (Nat.le_refl _) (.int .i64 0)).setCell (p := ⟨w.heap.size, 1, none⟩) (Nat.le_refl _) (.int .i64 0)).setCell (p := ⟨w.heap.size, 2, none⟩) (Nat.le_refl _) (.int .i64 0)).setCell (p := ⟨w.heap.size, 3, none⟩) (Nat.le_refl _) (.int .i64 0))
      generalize (((w3.setCell ⟨w.heap.size, 0, none⟩ (.int .i64 0)).setCell ⟨w.heap.size, 1, none⟩ (.int .i64 0)).setCell ⟨w.heap.size, 2, none⟩ (.int .i64 0)).setCell ⟨w.heap.size, 3, none⟩ (.int .i64 0) = WF at *
      have p0 := hf.cell 0
      have p1 := hf.cell 1
      have p2 := hf.cell 2
      have p3 := hf.cell 3
      simp only [List.set_cons_zero, List.set_cons_succ, List.getElem?_cons_zero, List.getElem?_cons_succ] at p0 p1 p2 p3
      refine bodyPost_ret (v := .tuple #[.agg #[.int .i64 0, .int .i64 0, .int .i64 0, .int .i64 0], .int .i64 3]) (by simp [results, Tryd.results11, go_sem, p0, p1, p2, p3]) rfl ?_
      exact ⟨_, _, _, _, by rw [HRS.out]; rfl, .inr ⟨by rw [HRS.out]; decide, rfl, rfl, rfl, rfl⟩, cf⟩
  · rw [if_neg (by rw [hr]; decide), hr] at HRS
    rw [hr]
    clear hr hx h
    have y0 := hk2.cell 0
    have y1 := hk2.cell 1
    have y2 := hk2.cell 2
    have y3 := hk2.cell 3
    have f0 := hk2.frozen 0
    have f1 := hk2.frozen 1
    have f2 := hk2.frozen 2
    have f3 := hk2.frozen 3
    simp only [List.getElem?_cons_zero, List.getElem?_cons_succ] at y0 y1 y2 y3
    go_wp2
    have hf := (((hk2.set_ 0 (.int .i64 0)).set_ 1 (.int .i64 0)).set_ 2 (.int .i64 0)).set_ 3 (.int .i64 0)
    have cf := ((((c2.setCell (p := ⟨w.heap.size, 0, none⟩) (Nat.le_refl _) (.int .i64 0)).setCell (p := ⟨w.heap.size, 1, none⟩) (Nat.le_refl _) (.int .i64 0)).setCell (p := ⟨w.heap.size, 2, none⟩) (Nat.le_refl _) (.int .i64 0)).setCell (p := ⟨w.heap.size, 3, none⟩) (Nat.le_refl _) (.int .i64 0))
    generalize (((w2.setCell ⟨w.heap.size, 0, none⟩ (.int .i64 0)).setCell ⟨w.heap.size, 1, none⟩ (.int .i64 0)).setCell ⟨w.heap.size, 2, none⟩ (.int .i64 0)).setCell ⟨w.heap.size, 3, none⟩ (.int .i64 0) = WF at *
    have p0 := hf.cell 0
    have p1 := hf.cell 1
    have p2 := hf.cell 2
    have p3 := hf.cell 3
    simp only [List.set_cons_zero, List.set_cons_succ, List.getElem?_cons_zero, List.getElem?_cons_succ] at p0 p1 p2 p3
    refine bodyPost_ret (v := .tuple #[.agg #[.int .i64 0, .int .i64 0, .int .i64 0, .int .i64 0], .int .i64 3]) (by simp [results, Tryd.results11, go_sem, p0, p1, p2, p3]) rfl ?_
    exact ⟨_, _, _, _, by rw [HRS.out]; rfl, .inr ⟨by rw [HRS.out]; decide, rfl, rfl, rfl, rfl⟩, cf⟩
  · rw [if_neg (by rw [hr]; decide), hr] at HRS
    rw [hr]
    clear hr hx h
    have y0 := hk2.cell 0
    have y1 := hk2.cell 1
    have y2 := hk2.cell 2
    have y3 := hk2.cell 3
    have f0 := hk2.frozen 0
    have f1 := hk2.frozen 1
    have f2 := hk2.frozen 2
    have f3 := hk2.frozen 3
    simp only [List.getElem?_cons_zero, List.getElem?_cons_succ] at y0 y1 y2 y3
    go_wp2
    have hf := (((hk2.set_ 0 (.int .i64 0)).set_ 1 (.int .i64 0)).set_ 2 (.int .i64 0)).set_ 3 (.int .i64 0)
    have cf := ((((c2.setCell (p := ⟨w.heap.size, 0, none⟩) (Nat.le_refl _) (.int .i64 0)).setCell (p := ⟨w.heap.size, 1, none⟩) (Nat.le_refl _) (.int .i64 0)).setCell (p := ⟨w.heap.size, 2, none⟩) (Nat.le_refl _) (.int .i64 0)).setCell (p := ⟨w.heap.size, 3, none⟩) (Nat.le_refl _) (.int .i64 0))
    generalize (((w2.setCell ⟨w.heap.size, 0, none⟩ (.int .i64 0)).setCell ⟨w.heap.size, 1, none⟩ (.int .i64 0)).setCell ⟨w.heap.size, 2, none⟩ (.int .i64 0)).setCell ⟨w.heap.size, 3, none⟩ (.int .i64 0) = WF at *
    have p0 := hf.cell 0
    have p1 := hf.cell 1
    have p2 := hf.cell 2
    have p3 := hf.cell 3
    simp only [List.set_cons_zero, List.set_cons_succ, List.getElem?_cons_zero, List.getElem?_cons_succ] at p0 p1 p2 p3
    refine bodyPost_ret (v := .tuple #[.agg #[.int .i64 0, .int .i64 0, .int .i64 0, .int .i64 0], .int .i64 5]) (by simp [results, Tryd.results11, go_sem, p0, p1, p2, p3]) rfl ?_
    exact ⟨_, _, _, _, by rw [HRS.out]; rfl, .inr ⟨by rw [HRS.out]; decide, rfl, rfl, rfl, rfl⟩, cf⟩

set_option maxRecDepth 100000 in
set_option maxHeartbeats 4000000 in
theorem readLabel_any (w : World) (v : Value) (l : List UInt8) (hH : Halves w) (h : Bs w w.heap.size v l) :
    Calls Tryd.prog 12 #[v] w (LabIs l w) := by
  obtain ⟨A, c, rfl, hc, hm, _⟩ := h.openD
  have hlt := Lb.g_lt l
  go_enter Tryd.func12, Tryd.ntmps12
  go_wp2_with fail
  have b1 := (Below.refl w.heap.size w).alloc (Nat.le_refl _) (.cells #[.int .i64 1, .int .i64 4] 3)
  have hw := Is.lit .i64 w 3 #[.int .i64 1, .int .i64 4] [1, 4] 2 rfl rfl (by simp [maxLen])
  have hs1 := Rds.alloc h (Nat.le_refl _) (.cells #[.int .i64 1, .int .i64 4] 3)
  have z1 : (w.alloc (.cells #[.int .i64 1, .int .i64 4] 3)).heap.size = w.heap.size + 1 := by simp
  generalize w.alloc (.cells #[.int .i64 1, .int .i64 4] 3) = w1 at *
  refine (read_any w1 _ _ l 1752592236 [1, 4] (hH.ext b1) (Rds.more hs1 b1.size) (Rds.more hw (by omega)) (by simp) (by decide) (by decide) (by decide)).mono ?_
  rintro e w2 ⟨x, rfl, hx, b2⟩
  have c2 := b1.trans (b2.mono b1.size)
  have HRS := Lib.hid (show Lb.rlErr l = if Lb.rdErr l 1752592236 [1, 4] = 0 then (if Lb.labB (Lb.ga l) (Lb.gb l) then 0 else 3) else Lb.rdErr l 1752592236 [1, 4] from rfl)
  clear hs1 hw b1 b2
  rcases Lb.rdErr_cases l 1752592236 [1, 4] with hr | hr | hr
  · have hx := hx hr
    rw [Lb.lab_vals] at hx
    rw [if_pos hr] at HRS
    rw [hr]
    clear hr
    obtain ⟨A2, c3, rfl, hc3, hm3, hcell⟩ := hx.open_
    obtain ⟨bx, ox, rfl, hbx, e0⟩ := hcell 0 (by simp)
    obtain ⟨_, _, he, _, e1⟩ := hcell 1 (by simp)
    injection he with he
    injection he with he1 he2
    subst he1 he2
    simp only [List.map_cons, List.map_nil, List.getElem_cons_zero, List.getElem_cons_succ, Nat.add_zero, List.length_cons, List.length_nil, Nat.zero_add, Nat.reduceAdd] at e0 e1 hc3
    simp only [List.map_cons, List.map_nil, List.length_cons, List.length_nil, Nat.zero_add, Nat.reduceAdd]
    clear hcell hx h
    generalize hA : Lb.ga l = fa at *
    generalize hB : Lb.gb l = fb at *
    have HA := Lib.hid hA
    have HB := Lib.hid hB
    clear hA hB
    go_wp2
    go_quiet (fail)
    go_wp2_with fail
    refine (labMay_any _ _ _).mono ?_
    rintro e w' ⟨rfl, rfl⟩
    cases hg : Lb.labB fa fb with
    | true =>
      rw [hg, if_pos rfl] at HRS
      clear hg
      go_wp2
      go_ret3
      exact ⟨_, _, by rw [HRS.out]; rfl, .inl ⟨HRS.out, by rw [HA.out], by rw [HB.out]⟩, below_drewN c2 _⟩
    | false =>
      rw [hg] at HRS
      clear hg
      go_wp2
      go_ret3
      exact ⟨_, _, by rw [HRS.out]; rfl, .inr ⟨by rw [HRS.out]; decide, rfl, rfl⟩, below_drewN c2 _⟩
  · rw [if_neg (by rw [hr]; decide), hr] at HRS
    rw [hr]
    clear hr hx h
    go_wp2
    go_ret3
    exact ⟨_, _, by rw [HRS.out]; rfl, .inr ⟨by rw [HRS.out]; decide, rfl, rfl⟩, c2⟩
  · rw [if_neg (by rw [hr]; decide), hr] at HRS
    rw [hr]
    clear hr hx h
    go_wp2
    go_ret3
    exact ⟨_, _, by rw [HRS.out]; rfl, .inr ⟨by rw [HRS.out]; decide, rfl, rfl⟩, c2⟩
end Go.Proofs.YtmcgadhahhfflaaDoor
