/-
  LabelApart: two geometries have the same super just if they are the same; two labels likewise. For every input.
-/
import Derived.Test.YtmcgadhahhfflaaDoorLabelL
import Derived.Test.YtmcgadhahhfflaaDoorLeaf
import Derived.Deep.RegionHeld3
import Derived.Deep.DeepCutAuto
import Derived.Deep.DrawnRows
namespace Go.Proofs.YtmcgadhahhfflaaDoor
open Go.ChangeShapes Go.WideShapes Go.ChangeAt Go.RowKit
attribute [local go_sem ↓] Go.wp_at_zero Go.wp_at_succ

theorem wf_u16 {n : Int} (h : (Lit.int .u16 n).wf = true) : 0 ≤ n ∧ n ≤ 65535 := by
  simpa [Lit.wf, IntKind.min, IntKind.max, IntKind.signed, IntKind.bits] using h
def erOf (b : Bool) : Int := if b then 0 else 1
theorem er_eq (b : Bool) : (erOf b == 0) = b := by cases b <;> rfl
theorem superU (d l v s : Int) (w : World) (hd : -9223372036854775808 ≤ d ∧ d ≤ 9223372036854775807) (hH : Halves w) :
    Calls Tryd.prog 7 #[.agg #[.int .i64 d, .int .i64 l, .int .i64 v, .int .i64 s]] w fun e w' => ∃ u, e = .returned (.tuple #[u, .int .i64 (erOf (Lb.geoB d l v s))]) ∧ (Lb.geoB d l v s = true → Bs w' w'.heap.size u (Lb.supE d.toNat l.toNat v.toNat s.toNat)) ∧ Below w.heap.size w w' := by
  cases hg : Lb.geoB d l v s with
  | false =>
    refine (super_no d l v s w hd hg).mono ?_
    rintro e w' ⟨rfl, hb⟩
    exact ⟨_, rfl, (fun h => by cases h), hb⟩
  | true =>
    have hgg : 8 ≤ d ∧ d ≤ 256 ∧ 1 ≤ l ∧ l ≤ d - 6 ∧ 0 ≤ v ∧ v ≤ 8 ∧ 1 ≤ s ∧ s ≤ 256 := by
      unfold Lb.geoB at hg
      exact of_decide_eq_true hg
    obtain ⟨d, rfl⟩ := Int.eq_ofNat_of_zero_le (show 0 ≤ d by omega)
    obtain ⟨l, rfl⟩ := Int.eq_ofNat_of_zero_le (show 0 ≤ l by omega)
    obtain ⟨v, rfl⟩ := Int.eq_ofNat_of_zero_le (show 0 ≤ v by omega)
    obtain ⟨s, rfl⟩ := Int.eq_ofNat_of_zero_le (show 0 ≤ s by omega)
    refine (super_yes d l v s w hH hg).mono ?_
    rintro e w' ⟨u, rfl, hs, hb⟩
    exact ⟨u, rfl, fun _ => by simpa using hs, hb⟩
theorem sup_same (d l v s d' l' v' s' : Int) (h : Lb.geoB d l v s = true) (h' : Lb.geoB d' l' v' s' = true) : (Lb.supE d.toNat l.toNat v.toNat s.toNat == Lb.supE d'.toNat l'.toNat v'.toNat s'.toNat) = (d == d' && (l == l' && (v == v' && s == s'))) := by
  have hg : 8 ≤ d ∧ d ≤ 256 ∧ 1 ≤ l ∧ l ≤ d - 6 ∧ 0 ≤ v ∧ v ≤ 8 ∧ 1 ≤ s ∧ s ≤ 256 := by unfold Lb.geoB at h; exact of_decide_eq_true h
  have hg' : 8 ≤ d' ∧ d' ≤ 256 ∧ 1 ≤ l' ∧ l' ≤ d' - 6 ∧ 0 ≤ v' ∧ v' ≤ 8 ∧ 1 ≤ s' ∧ s' ≤ 256 := by unfold Lb.geoB at h'; exact of_decide_eq_true h'
  have e := Lb.sup_inj d.toNat l.toNat v.toNat s.toNat d'.toNat l'.toNat v'.toNat s'.toNat (by rw [Int.toNat_of_nonneg (by omega), Int.toNat_of_nonneg (by omega), Int.toNat_of_nonneg (by omega), Int.toNat_of_nonneg (by omega)]; exact h) (by rw [Int.toNat_of_nonneg (by omega), Int.toNat_of_nonneg (by omega), Int.toNat_of_nonneg (by omega), Int.toNat_of_nonneg (by omega)]; exact h')
  rw [Bool.eq_iff_iff, beq_iff_eq, e]
  simp only [Bool.and_eq_true, beq_iff_eq]
  omega
theorem label_eq (vo ge : Nat) (z m : Int) (hz : z = vo) (hm : m = ge) (w : World) (hH : Halves w) (hlab : Lb.labB vo ge = true) :
    Calls Tryd.prog 8 #[.int .i64 z, .int .i64 m] w (Made (Lb.labE vo ge) w) := by
  subst hz hm; exact label_yes vo ge w hH hlab
theorem Blk.new' (W : World) (t : TypeId) (a : Array Value) {g : Nat} (hg : g = W.heap.size) : Blk (W.alloc (.cells a t)) g t a.toList := by subst hg; exact Blk.new W t a

set_option maxRecDepth 100000 in
set_option maxHeartbeats 16000000 in
theorem labelApart_walk (w : World) (g0 g1 g2 g3 h0 h1 h2 h3 : Int) (a0 a1 b0 b1 : Nat) (hg : -9223372036854775808 ≤ g0 ∧ g0 ≤ 9223372036854775807) (hh : -9223372036854775808 ≤ h0 ∧ h0 ≤ 9223372036854775807) (ha : a0 < 65536 ∧ a1 < 65536 ∧ b0 < 65536 ∧ b1 < 65536) (hH : Halves w) :
    Calls Tryd.prog 3 #[.agg #[.int .i64 g0, .int .i64 g1, .int .i64 g2, .int .i64 g3, .int .i64 h0, .int .i64 h1, .int .i64 h2, .int .i64 h3, .int .u16 (a0 : Int), .int .u16 (a1 : Int), .int .u16 (b0 : Int), .int .u16 (b1 : Int)]] w fun e w' => e = .returned (.bool true) ∧ Below w.heap.size w w' := by
  go_enter Tryd.func3, Tryd.ntmps3
  go_upto_region 1 with (fail)
  have hk := Blk.new w 27 #[.int .i64 g0, .int .i64 g1, .int .i64 g2, .int .i64 g3, .int .i64 h0, .int .i64 h1, .int .i64 h2, .int .i64 h3, .int .u16 (a0 : Int), .int .u16 (a1 : Int), .int .u16 (b0 : Int), .int .u16 (b1 : Int)]
  have hb := (Below.refl w.heap.size w).alloc (Nat.le_refl _) (.cells #[.int .i64 g0, .int .i64 g1, .int .i64 g2, .int .i64 g3, .int .i64 h0, .int .i64 h1, .int .i64 h2, .int .i64 h3, .int .u16 (a0 : Int), .int .u16 (a1 : Int), .int .u16 (b0 : Int), .int .u16 (b1 : Int)] 27)
  generalize w.alloc (.cells #[.int .i64 g0, .int .i64 g1, .int .i64 g2, .int .i64 g3, .int .i64 h0, .int .i64 h1, .int .i64 h2, .int .i64 h3, .int .u16 (a0 : Int), .int .u16 (a1 : Int), .int .u16 (b0 : Int), .int .u16 (b1 : Int)] 27) = w0 at *
  generalize w.heap.size = gq at hk ⊢
  go_cut [3, 4, 5, 6] (fun s3 s4 s5 s6 wx => ∃ p3 p4 p5 p6 : Nat, s3 = .pointer (some ⟨p3, 0, none⟩) ∧ s4 = .pointer (some ⟨p4, 0, none⟩) ∧ s5 = .pointer (some ⟨p5, 0, none⟩) ∧ s6 = .pointer (some ⟨p6, 0, none⟩) ∧
    Blk wx p3 23 [.int .i64 g0, .int .i64 g1, .int .i64 g2, .int .i64 g3] ∧ Blk wx p4 23 [.int .i64 h0, .int .i64 h1, .int .i64 h2, .int .i64 h3] ∧ Blk wx p5 25 [.int .u16 (a0 : Int), .int .u16 (a1 : Int)] ∧ Blk wx p6 25 [.int .u16 (b0 : Int), .int .u16 (b1 : Int)] ∧ Below w0.heap.size w0 wx)
  case first =>
    have c0 := hk.cell 0
    have c1 := hk.cell 1
    have c2 := hk.cell 2
    have c3 := hk.cell 3
    have c4 := hk.cell 4
    have c5 := hk.cell 5
    have c6 := hk.cell 6
    have c7 := hk.cell 7
    have c8 := hk.cell 8
    have c9 := hk.cell 9
    have c10 := hk.cell 10
    have c11 := hk.cell 11
    simp only [List.getElem?_cons_zero, List.getElem?_cons_succ] at c0 c1 c2 c3 c4 c5 c6 c7 c8 c9 c10 c11
    have hl := hk.lt
    have hS : ∀ x : World, Below w0.heap.size w0 x → x.cell? ⟨gq, 0, none⟩ = some (.int .i64 g0) ∧ x.cell? ⟨gq, 1, none⟩ = some (.int .i64 g1) ∧ x.cell? ⟨gq, 2, none⟩ = some (.int .i64 g2) ∧ x.cell? ⟨gq, 3, none⟩ = some (.int .i64 g3) ∧ x.cell? ⟨gq, 4, none⟩ = some (.int .i64 h0) ∧ x.cell? ⟨gq, 5, none⟩ = some (.int .i64 h1) ∧ x.cell? ⟨gq, 6, none⟩ = some (.int .i64 h2) ∧ x.cell? ⟨gq, 7, none⟩ = some (.int .i64 h3) ∧ x.cell? ⟨gq, 8, none⟩ = some (.int .u16 (a0 : Int)) ∧ x.cell? ⟨gq, 9, none⟩ = some (.int .u16 (a1 : Int)) ∧ x.cell? ⟨gq, 10, none⟩ = some (.int .u16 (b0 : Int)) ∧ x.cell? ⟨gq, 11, none⟩ = some (.int .u16 (b1 : Int)) := fun x hB => ⟨(hB.cell (p := ⟨gq, 0, none⟩) hl).trans c0, (hB.cell (p := ⟨gq, 1, none⟩) hl).trans c1, (hB.cell (p := ⟨gq, 2, none⟩) hl).trans c2, (hB.cell (p := ⟨gq, 3, none⟩) hl).trans c3, (hB.cell (p := ⟨gq, 4, none⟩) hl).trans c4, (hB.cell (p := ⟨gq, 5, none⟩) hl).trans c5, (hB.cell (p := ⟨gq, 6, none⟩) hl).trans c6, (hB.cell (p := ⟨gq, 7, none⟩) hl).trans c7, (hB.cell (p := ⟨gq, 8, none⟩) hl).trans c8, (hB.cell (p := ⟨gq, 9, none⟩) hl).trans c9, (hB.cell (p := ⟨gq, 10, none⟩) hl).trans c10, (hB.cell (p := ⟨gq, 11, none⟩) hl).trans c11⟩
    have HSS := Lib.hid hS
    clear hS c0 c1 c2 c3 c4 c5 c6 c7 c8 c9 c10 c11
    go_region_held3 (fun x => x.cell? ⟨gq, 0, none⟩ = some (.int .i64 g0) ∧ x.cell? ⟨gq, 1, none⟩ = some (.int .i64 g1) ∧ x.cell? ⟨gq, 2, none⟩ = some (.int .i64 g2) ∧ x.cell? ⟨gq, 3, none⟩ = some (.int .i64 g3) ∧ x.cell? ⟨gq, 4, none⟩ = some (.int .i64 h0) ∧ x.cell? ⟨gq, 5, none⟩ = some (.int .i64 h1) ∧ x.cell? ⟨gq, 6, none⟩ = some (.int .i64 h2) ∧ x.cell? ⟨gq, 7, none⟩ = some (.int .i64 h3) ∧ x.cell? ⟨gq, 8, none⟩ = some (.int .u16 (a0 : Int)) ∧ x.cell? ⟨gq, 9, none⟩ = some (.int .u16 (a1 : Int)) ∧ x.cell? ⟨gq, 10, none⟩ = some (.int .u16 (b0 : Int)) ∧ x.cell? ⟨gq, 11, none⟩ = some (.int .u16 (b1 : Int))) ((refine HSS.out _ ?_; repeat (first | exact Below.refl _ _ | refine Below.drew ?_ | refine Below.alloc ?_ (by simp <;> omega) _ | refine Below.setCell ?_ (by simp <;> omega) _))) (fail)
    all_goals
      go_wp2
      go_meet
      refine ⟨_, _, _, _, rfl, rfl, rfl, rfl, ?_, ?_, ?_, ?_, ?_⟩
      · (first | exact ((((Blk.new' _ _ _ (by simp)).alloc _).alloc _).alloc _).drew | exact (((Blk.new' _ _ _ (by simp)).alloc _).alloc _).drew | exact ((Blk.new' _ _ _ (by simp)).alloc _).drew | exact (Blk.new' _ _ _ (by simp)).drew)
      · (first | exact ((((Blk.new' _ _ _ (by simp)).alloc _).alloc _).alloc _).drew | exact (((Blk.new' _ _ _ (by simp)).alloc _).alloc _).drew | exact ((Blk.new' _ _ _ (by simp)).alloc _).drew | exact (Blk.new' _ _ _ (by simp)).drew)
      · (first | exact ((((Blk.new' _ _ _ (by simp)).alloc _).alloc _).alloc _).drew | exact (((Blk.new' _ _ _ (by simp)).alloc _).alloc _).drew | exact ((Blk.new' _ _ _ (by simp)).alloc _).drew | exact (Blk.new' _ _ _ (by simp)).drew)
      · (first | exact ((((Blk.new' _ _ _ (by simp)).alloc _).alloc _).alloc _).drew | exact (((Blk.new' _ _ _ (by simp)).alloc _).alloc _).drew | exact ((Blk.new' _ _ _ (by simp)).alloc _).drew | exact (Blk.new' _ _ _ (by simp)).drew)
      · exact ((((Below.refl _ _).alloc (Nat.le_refl _) _).alloc (by simp) _).alloc (by simp <;> omega) _).alloc (by simp <;> omega) _ |>.drew
  obtain ⟨p3, p4, p5, p6, rfl, rfl, rfl, rfl, k3, k4, k5, k6, bb⟩ := hcut
  have c1 := hb.trans (bb.mono hb.size)
  clear hk hb bb
  have x0 := k3.cell 0
  have x1 := k3.cell 1
  have x2 := k3.cell 2
  have x3 := k3.cell 3
  simp only [List.getElem?_cons_zero, List.getElem?_cons_succ] at x0 x1 x2 x3
  go_wp2_with fail
  refine (superU g0 g1 g2 g3 wc hg (hH.ext c1)).mono ?_
  rintro e w1 ⟨u1, rfl, hs1, b1'⟩
  have c2 := c1.trans (b1'.mono c1.size)
  have k3a := k3.ext b1'
  have k4a := k4.ext b1'
  have k5a := k5.ext b1'
  have k6a := k6.ext b1'
  clear x0 x1 x2 x3 k3 k4 k5 k6 c1 b1'
  have x0 := k4a.cell 0
  have x1 := k4a.cell 1
  have x2 := k4a.cell 2
  have x3 := k4a.cell 3
  simp only [List.getElem?_cons_zero, List.getElem?_cons_succ] at x0 x1 x2 x3
  go_wp2_with fail
  refine (superU h0 h1 h2 h3 w1 hh (hH.ext c2)).mono ?_
  rintro e w2 ⟨u2, rfl, hs2, b2'⟩
  have c3 := c2.trans (b2'.mono c2.size)
  have k3 := k3a.ext b2'
  have k4 := k4a.ext b2'
  have k5 := k5a.ext b2'
  have k6 := k6a.ext b2'
  have hs1' : Lb.geoB g0 g1 g2 g3 = true → Bs w2 w2.heap.size u1 (Lb.supE g0.toNat g1.toNat g2.toNat g3.toNat) := fun h => ((hs1 h).ext (Nat.le_refl _) b2').more b2'.size
  have HSM := Lib.hid (fun h h' => sup_same g0 g1 g2 g3 h0 h1 h2 h3 h h')
  clear x0 x1 x2 x3 k3a k4a k5a k6a c2 b2' hs1
  have e1 := er_eq (Lb.geoB g0 g1 g2 g3)
  have e2 := er_eq (Lb.geoB h0 h1 h2 h3)
  generalize Lb.geoB g0 g1 g2 g3 = B1 at *
  generalize Lb.geoB h0 h1 h2 h3 = B2 at *
  generalize erOf B1 = E1 at *
  generalize erOf B2 = E2 at *
  go_upto_region 4 with (fail)
  go_cut [49] (fun s wx => s = .bool false ∧ ∃ n, wx = w2.drewN n)
  case first =>
    have x0 := k3.cell 0
    have x1 := k3.cell 1
    have x2 := k3.cell 2
    have x3 := k3.cell 3
    have y0 := k4.cell 0
    have y1 := k4.cell 1
    have y2 := k4.cell 2
    have y3 := k4.cell 3
    simp only [List.getElem?_cons_zero, List.getElem?_cons_succ] at x0 x1 x2 x3 y0 y1 y2 y3
    cases B1 with
    | false =>
      clear hs1' hs2
      go_quiet (fail)
      go_wp2
      go_meet
      exact ⟨rfl, _, rfl⟩
    | true =>
      cases B2 with
      | false =>
        clear hs1' hs2
        go_quiet (fail)
        go_wp2
        go_meet
        exact ⟨rfl, _, rfl⟩
      | true =>
        have st1 : ∀ n, (convert 28 9 u1).run Tryd.prog (w2.drewN n) = .ok _ (w2.drewN n) := fun n => run_string_of (P := Tryd.prog) (show Bs (w2.drewN n) w2.heap.size u1 _ from hs1' rfl) 28 9 5 Tryd.underlying28 Tryd.underlying5 Tryd.underlying9
        have st2 : ∀ n, (convert 28 9 u2).run Tryd.prog (w2.drewN n) = .ok _ (w2.drewN n) := fun n => run_string_of (P := Tryd.prog) (show Bs (w2.drewN n) w2.heap.size u2 _ from hs2 rfl) 28 9 5 Tryd.underlying28 Tryd.underlying5 Tryd.underlying9
        have hse : ((⟨(Lb.supE g0.toNat g1.toNat g2.toNat g3.toNat).toArray⟩ : ByteArray).toList == (⟨(Lb.supE h0.toNat h1.toNat h2.toNat h3.toNat).toArray⟩ : ByteArray).toList) = (g0 == h0 && (g1 == h1 && (g2 == h2 && g3 == h3))) := by
          rw [ByteArray.toList_eq, ByteArray.toList_eq]
          exact HSM.out rfl rfl
        generalize (⟨(Lb.supE g0.toNat g1.toNat g2.toNat g3.toNat).toArray⟩ : ByteArray) = S1 at *
        generalize (⟨(Lb.supE h0.toNat h1.toNat h2.toNat h3.toNat).toArray⟩ : ByteArray) = S2 at *
        clear hs1' hs2
        generalize hz0 : (g0 == h0) = z0 at *
        generalize hz1 : (g1 == h1) = z1 at *
        generalize hz2 : (g2 == h2) = z2 at *
        generalize hz3 : (g3 == h3) = z3 at *
        cases z0 <;> cases z1 <;> cases z2 <;> cases z3
        all_goals
          first
            | replace hse : (S1.toList == S2.toList) = true := hse
            | replace hse : (S1.toList == S2.toList) = false := hse
          go_quiet (fail)
          go_wp2
          go_meet
          exact ⟨rfl, _, rfl⟩
  obtain ⟨rfl, n, rfl⟩ := hcut
  have k5a := k5.drewN n
  have k6a := k6.drewN n
  have c4 := below_drewN c3 n
  generalize w2.drewN n = W at *
  clear k3 k4 k5 k6 c3 hs1' hs2 e1 e2
  have x0 := k5a.cell 0
  have x1 := k5a.cell 1
  simp only [List.getElem?_cons_zero, List.getElem?_cons_succ] at x0 x1
  have hl1 : Lb.labB ((a0 % 8 : Nat) : Int) (a1 : Int) = true := decide_eq_true (by omega)
  have hl2 : Lb.labB ((b0 % 8 : Nat) : Int) (b1 : Int) = true := decide_eq_true (by omega)
  have hinj := Lb.lab_inj (a0 % 8) a1 (b0 % 8) b1 hl1 hl2
  go_wp2_with fail
  refine (label_eq (a0 % 8) a1 _ _ (by omega) rfl W (hH.ext c4) hl1).mono ?_
  rintro e w3 ⟨u3, rfl, hs3, b3⟩
  have c5 := c4.trans (b3.mono c4.size)
  have k5 := k5a.ext b3
  have k6 := k6a.ext b3
  clear k5a k6a c4 b3 x0 x1
  have x0 := k6.cell 0
  have x1 := k6.cell 1
  simp only [List.getElem?_cons_zero, List.getElem?_cons_succ] at x0 x1
  go_wp2_with fail
  refine (label_eq (b0 % 8) b1 _ _ (by omega) rfl w3 (hH.ext c5) hl2).mono ?_
  rintro e w4 ⟨u4, rfl, hs4, b4⟩
  have c6 := c5.trans (b4.mono c5.size)
  have k5a := k5.ext b4
  have k6a := k6.ext b4
  have hs3a := (hs3.ext (Nat.le_refl _) b4).more b4.size
  clear k5 k6 c5 b4 x0 x1 hs3
  have x0 := k5a.cell 0
  have x1 := k5a.cell 1
  have y0 := k6a.cell 0
  have y1 := k6a.cell 1
  simp only [List.getElem?_cons_zero, List.getElem?_cons_succ] at x0 x1 y0 y1
  have st1 := run_string_of (P := Tryd.prog) hs3a 28 9 5 Tryd.underlying28 Tryd.underlying5 Tryd.underlying9
  have st2 := run_string_of (P := Tryd.prog) hs4 28 9 5 Tryd.underlying28 Tryd.underlying5 Tryd.underlying9
  have hse : ((⟨(Lb.labE (a0 % 8) a1).toArray⟩ : ByteArray).toList == (⟨(Lb.labE (b0 % 8) b1).toArray⟩ : ByteArray).toList) = (((a0 : Int) % 8 == (b0 : Int) % 8) && ((a1 : Int) == (b1 : Int))) := by
    rw [ByteArray.toList_eq, ByteArray.toList_eq, Bool.eq_iff_iff, beq_iff_eq, hinj]
    simp only [Bool.and_eq_true, beq_iff_eq]
    omega
  generalize (⟨(Lb.labE (a0 % 8) a1).toArray⟩ : ByteArray) = S1 at *
  generalize (⟨(Lb.labE (b0 % 8) b1).toArray⟩ : ByteArray) = S2 at *
  clear hs3a hs4 hinj hl1 hl2 k5a k6a
  generalize hz0 : ((a0 : Int) % 8 == (b0 : Int) % 8) = z0 at *
  generalize hz1 : ((a1 : Int) == (b1 : Int)) = z1 at *
  cases z0 <;> cases z1
  all_goals
    first
      | replace hse : (S1.toList == S2.toList) = true := hse
      | replace hse : (S1.toList == S2.toList) = false := hse
    go_wp2_with fail
    refine (awake_any _ (hH.ext c6)).mono ?_
    rintro e w7 ⟨rfl, b7⟩
    go_wp2
    go_ret
    exact ⟨rfl, c6.trans (b7.mono c6.size)⟩

/-- What the walk gives, for every argument and every world that holds the table. -/
theorem labelApart_contract (H : Type) (enc : TypeId × Value → H) (W : World) (base : Nat) (args : Array Value) (ds gs : List (DataW H)) (before : List MemPlace)
    (hval : ∀ (j : Nat) t v, Tryd.f3.params[j]? = some t → args[j]? = some v → Value.okWide Tryd.prog W .any base t v)
    (hW : DataW.Whole enc Tryd.prog Tryd.f3.params.toList Rows.labelApartSpec.vars false W args.toList ds gs before) (hL : laidMetH Tryd.prog Rows.labelApartRow.laid W) :
    Calls Tryd.prog 3 args W fun e W' => ∃ v, e = .returned v ∧ Rows.labelApartSpec.post enc Tryd.prog Tryd.f3 false true false false W args v W' := by
  have hW' := hW
  obtain ⟨p, q, hA0, hV, hps, hfz, hnd⟩ := hW
  have hA : DataW.TrodAll enc Tryd.prog W 0 (fun _ => true) true Tryd.f3.params.toList args.toList ds p := hA0
  rw [Tryd.params3] at hA hval
  obtain ⟨v0, vs0, d0, ds0, p0, q0, hargs, rfl, rfl, h0, r0⟩ := trodAll_cons hA
  obtain ⟨rfl, rfl, rfl⟩ := trodAll_nil r0
  obtain rfl : args = #[v0] := by cases args; simp_all
  obtain ⟨rfl, rfl⟩ := trodVars_none hV
  obtain ⟨zs, hzl, rfl, wfz⟩ := ints_of_agg 3 [.i64, .i64, .i64, .i64, .i64, .i64, .i64, .i64, .u16, .u16, .u16, .u16] (by kernel_rfl) (okWide_struct Tryd.underlying27 (hval 0 27 v0 rfl rfl)) (by kernel_rfl) h0
  obtain ⟨z0, z1, z2, z3, z4, z5, z6, z7, z8, z9, z10, z11, rfl⟩ : ∃ z0 z1 z2 z3 z4 z5 z6 z7 z8 z9 z10 z11, zs = [z0, z1, z2, z3, z4, z5, z6, z7, z8, z9, z10, z11] := by
    match zs, hzl with
    | [z0, z1, z2, z3, z4, z5, z6, z7, z8, z9, z10, z11], _ => exact ⟨z0, z1, z2, z3, z4, z5, z6, z7, z8, z9, z10, z11, rfl⟩
  have u8 := wf_u16 (wfz 8 .u16 z8 rfl rfl)
  have u9 := wf_u16 (wfz 9 .u16 z9 rfl rfl)
  have u10 := wf_u16 (wfz 10 .u16 z10 rfl rfl)
  have u11 := wf_u16 (wfz 11 .u16 z11 rfl rfl)
  obtain ⟨n8, rfl⟩ := Int.eq_ofNat_of_zero_le u8.1
  obtain ⟨n9, rfl⟩ := Int.eq_ofNat_of_zero_le u9.1
  obtain ⟨n10, rfl⟩ := Int.eq_ofNat_of_zero_le u10.1
  obtain ⟨n11, rfl⟩ := Int.eq_ofNat_of_zero_le u11.1
  clear hA0
  refine (labelApart_walk W z0 z1 z2 z3 z4 z5 z6 z7 n8 n9 n10 n11 (wf_i64 (wfz 0 .i64 z0 rfl rfl)) (wf_i64 (wfz 4 .i64 z4 rfl rfl)) (by omega) (halves_of hL)).mono fun e W' ⟨he, hb⟩ => ?_
  subst he
  exact ⟨_, rfl, law_post laidOut (by rw [Tryd.params3]; decide +kernel) rfl Tryd.underlying4 rfl rfl hW' hb⟩

theorem labelApart_met (os : Os) : laidMet Tryd.prog Rows.labelApartRow.laid ((laidWorld os).forCall (fun _ _ => 0) ⟨#[], #[.agg #[.int .i64 0, .int .i64 0, .int .i64 0, .int .i64 0, .int .i64 0, .int .i64 0, .int .i64 0, .int .i64 0, .int .u16 0, .int .u16 0, .int .u16 0, .int .u16 0]], []⟩).memory :=
  laidMet_of_run' 8 (by kernel_rfl) (by kernel_rfl)
theorem labelApart_reads (os : Os) {H : Type} (enc : TypeId × Value → H) : ∃ places, DataW.whole enc Tryd.prog ((laidWorld os).forCall (fun _ _ => 0) ⟨#[], #[.agg #[.int .i64 0, .int .i64 0, .int .i64 0, .int .i64 0, .int .i64 0, .int .i64 0, .int .i64 0, .int .i64 0, .int .u16 0, .int .u16 0, .int .u16 0, .int .u16 0]], []⟩).memory Tryd.f3.params.toList Rows.labelApartSpec.vars false (#[.agg #[.int .i64 0, .int .i64 0, .int .i64 0, .int .i64 0, .int .i64 0, .int .i64 0, .int .i64 0, .int .i64 0, .int .u16 0, .int .u16 0, .int .u16 0, .int .u16 0]] : Array Value).toList 8 = some ([.agg [.agg [.lit (.int .i64 0), .lit (.int .i64 0), .lit (.int .i64 0), .lit (.int .i64 0)], .agg [.lit (.int .i64 0), .lit (.int .i64 0), .lit (.int .i64 0), .lit (.int .i64 0)], .agg [.lit (.int .u16 0), .lit (.int .u16 0)], .agg [.lit (.int .u16 0), .lit (.int .u16 0)]]], [], places) :=
  ⟨[], by kernel_rfl⟩

set_option maxRecDepth 100000 in
theorem labelApart_lifted (os : Os) (started : os.Started) (H : Type) (enc : TypeId × Value → H) (F : Stop.Interp) :
    ReturnsInHanded {} Tryd.checked os 3 .any ((OpenSpec.ofChange Rows.labelApartSpec).preRow enc Tryd.prog Tryd.f3 Rows.labelApartRow.domain false Rows.labelApartRow.laid) (((OpenSpec.ofChange Rows.labelApartSpec).at F).post enc Tryd.prog Tryd.f3 false true false false) := by
  obtain ⟨places, hx⟩ := labelApart_reads os enc
  refine returnsInHanded_of_row (C := Tryd.checked) (s := OpenSpec.ofChange Rows.labelApartSpec) own started (by kernel_rfl) Tryd.func3
    (witness_row_at (enc := enc) (C := Tryd.checked) false (laidWorld os) #[.agg #[.int .i64 0, .int .i64 0, .int .i64 0, .int .i64 0, .int .i64 0, .int .i64 0, .int .i64 0, .int .i64 0, .int .u16 0, .int .u16 0, .int .u16 0, .int .u16 0]] rfl (by kernel_rfl) (by kernel_rfl) (by kernel_rfl)
      (OpenSpec.preRow_of_cond 8 hx (by kernel_rfl) (fun k hk => by cases hk) (by kernel_rfl) (labelApart_met os))) ?_
  intro W base args ds gs before hval hW _ _ _ hL _ _
  exact labelApart_contract H enc W base args ds gs before hval hW hL

theorem labelApart_said : Rows.LabelApartSaid :=
  OpenClaim.holds_of_cond 3 Tryd.f3 rfl rfl rfl rfl rfl rfl rfl ⟨rfl, rfl, rfl, rfl, rfl⟩ rfl rfl rfl rfl rfl (by kernel_rfl) Tryd.func3 (by kernel_rfl)
    (of_decide_eq_true (by kernel_rfl)) (by unfold Func.isWrapper; first | (rw [if_pos (by decide +kernel)]; kernel_rfl) | (rw [if_neg (by decide +kernel)]; exact ⟨rfl, rfl⟩))
    (fun os started H enc _ F => by rw [OpenClaim.pre_eq_preRow]; exact labelApart_lifted os started H enc F)

theorem labelApart_plain (f : FuncId) (fn : Func) (hf : Tryd.pinned.checked.prog.funcNamed "haymow/haymowlaw05.LabelApart" = some f) (hfn : Tryd.pinned.checked.prog.funcs[f]? = some fn) :
    false = Tryd.pinned.checked.prog.looks [] ∧ ∀ (j : Nat) t, fn.params[j]? = some t → Tryd.pinned.checked.prog.wantsStandIn t = false := by
  obtain rfl : f = 3 := Option.some.inj ((show Tryd.prog.funcNamed "haymow/haymowlaw05.LabelApart" = some 3 by kernel_rfl).symm.trans hf) |>.symm
  obtain rfl : fn = Tryd.f3 := (Option.some.inj (Tryd.func3.symm.trans hfn)).symm
  refine ⟨by kernel_rfl, fun j t ht => ?_⟩
  rw [Tryd.params3] at ht
  have hall : ∀ t ∈ (Tryd.f3).params.toList, Tryd.prog.wantsStandIn t = false := by rw [Tryd.params3]; decide +kernel
  exact hall t (by rw [Tryd.params3]; exact Array.mem_toList_iff.2 (Array.mem_of_getElem? ht))

/-- THE CARD. -/
theorem labelApart_holds : Rows.LabelApartCardSaid :=
  Claim7.holds_tied_plain_at .later [] _ _ _ _ labelApart_said (fun _ h => by cases h) (by kernel_rfl) (fun _ h => by cases h) labelApart_row_tie rfl ⟨rfl, rfl⟩ (by kernel_rfl) rfl labelApart_plain (by kernel_rfl)

end Go.Proofs.YtmcgadhahhfflaaDoor
