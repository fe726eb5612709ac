/-
  Entries in memory; isInode, May of package entry. By an AI agent.
-/
import Derived.Test.YtahkhieoabbaaaaEntF
import Derived.Test.YtahkhieoabbaaaaTlO
import Derived.Test.YtahkhieoabbaaaaMid
import Derived.IntWalk
namespace Go.Proofs.Ytahkhieoabbaaaa
open Go.RowKit Go.ChangeShapes Go.WideShapes Go.ChangeAt
open Et (E)

/-! ### In memory -/
def ecell (y : E) : List Value := [.string ⟨y.n.toArray⟩, .int .i64 y.i, .int .i64 y.t]
def ecells (l : List E) : List Value := l.flatMap ecell
def Ents (w : World) (B : Nat) (v : Value) (l : List E) : Prop := Rds w B 3 v l.length (ecells l)
theorem ecells_cons (p : E) (l : List E) : ecells (p :: l) = .string ⟨p.n.toArray⟩ :: .int .i64 p.i :: .int .i64 p.t :: ecells l := by unfold ecells; rw [List.flatMap_cons]; rfl
theorem ecells_len (l : List E) : (ecells l).length = l.length * 3 := by
  induction l with
  | nil => rfl
  | cons x l ih => rw [ecells_cons]; simp only [List.length_cons, ih]; omega
theorem ecells_app (l m : List E) : ecells (l ++ m) = ecells l ++ ecells m := by unfold ecells; rw [List.flatMap_append]
theorem ecells_at : ∀ (l : List E) (k : Nat) (h : k < l.length), (ecells l)[k * 3]? = some (.string ⟨l[k].n.toArray⟩) ∧ (ecells l)[k * 3 + 1]? = some (.int .i64 l[k].i) ∧ (ecells l)[k * 3 + 2]? = some (.int .i64 l[k].t)
  | x :: l, 0, _ => ⟨rfl, rfl, rfl⟩
  | x :: l, k + 1, h => by
    have := ecells_at l k (by simpa using h)
    rw [ecells_cons, show (k + 1) * 3 = k * 3 + 1 + 1 + 1 by omega]
    exact this
/-- The cells of a slice of entries, one by one. -/
def EntsAt (w : World) (B : Nat) (A : Option Addr) (l : List E) : Prop := ∀ (j : Nat) (_ : j < l.length), ∃ b off, A = some ⟨b, off, none⟩ ∧ b < B ∧
  w.cell? ⟨b, off + j * 3, none⟩ = some (.string ⟨(Et.at_ l j).n.toArray⟩) ∧ w.cell? ⟨b, off + j * 3 + 1, none⟩ = some (.int .i64 (Et.at_ l j).i) ∧ w.cell? ⟨b, off + j * 3 + 2, none⟩ = some (.int .i64 (Et.at_ l j).t)
theorem Ents.open_ {w : World} {B : Nat} {v : Value} {l : List E} (h : Ents w B v l) : ∃ (A : Option Addr) (c : Nat), v = .slice A l.length c ∧ l.length ≤ c ∧ c ≤ 9223372036854775807 ∧ EntsAt w B A l := by
  obtain ⟨A, c, h1, h2, h3, h4, h5⟩ := h
  refine ⟨A, c, h1, h2, h3, fun j hj => ?_⟩
  obtain ⟨b, off, e, hb, hc⟩ := h5 (by omega)
  have := ecells_at l j hj
  rw [Et.at_get l j hj]
  exact ⟨b, off, e, hb, hc _ _ this.1, by have := hc _ _ this.2.1; rw [Nat.add_assoc]; exact this, by have := hc _ _ this.2.2; rw [Nat.add_assoc]; exact this⟩
theorem EntsAt.below {w w' : World} {B : Nat} {A : Option Addr} {l : List E} (h : EntsAt w B A l) (hb : Below B w w') : EntsAt w' B A l := fun j hj => by
  obtain ⟨b, off, e, hB, h0, h1, h2⟩ := h j hj
  exact ⟨b, off, e, hB, (hb.cell (p := ⟨b, off + j * 3, none⟩) hB).trans h0, (hb.cell (p := ⟨b, off + j * 3 + 1, none⟩) hB).trans h1, (hb.cell (p := ⟨b, off + j * 3 + 2, none⟩) hB).trans h2⟩
/-- Names that are no longer than texts are. -/
def Short (l : List E) : Prop := ∀ y ∈ l, y.n.length < 1099511627776
theorem Short.at_ {l : List E} (h : Short l) (k : Nat) (hk : k < l.length) : (Et.at_ l k).n.length < 1099511627776 := by rw [Et.at_get l k hk]; exact h _ (List.getElem_mem hk)

/-! ### isInode -/
set_option maxRecDepth 100000 in
set_option maxHeartbeats 1000000 in
theorem isInode_any (n : List UInt8) (i t : Int) (w : World) :
    Calls Try.prog 24 #[.agg #[.string ⟨n.toArray⟩, .int .i64 i, .int .i64 t]] w fun e w' => e = .returned (.bool (Et.inB ⟨n, i, t⟩)) ∧ Below w.heap.size w w' := by
  have HI := Lib.hid (show Et.inB ⟨n, i, t⟩ = decide (1 ≤ i ∧ i ≤ 39 ∧ (t = 1 ∨ t = 2)) from rfl)
  have hb : ∀ o, Below w.heap.size w (w.alloc o) := fun o => (Below.refl _ w).alloc (Nat.le_refl _) o
  have HB := Lib.hid hb
  clear hb
  by_cases h1 : 1 ≤ i
  rotate_left
  · skip
    rw [decide_eq_false (by omega)] at HI
    go_enter Try.func24, Try.ntmps24
    go_wp2
    go_ret
    exact ⟨by rw [HI.out]; rfl, HB.out _⟩
  by_cases h2 : i ≤ 39
  rotate_left
  · skip
    rw [decide_eq_false (by omega)] at HI
    go_enter Try.func24, Try.ntmps24
    go_wp2
    go_ret
    exact ⟨by rw [HI.out]; rfl, HB.out _⟩
  by_cases h3 : t = 1
  · rw [decide_eq_true (by omega)] at HI
    have h3' : (t == 1) = true := beq_iff_eq.2 h3
    clear h3
    go_enter Try.func24, Try.ntmps24
    go_wp2
    go_ret
    exact ⟨by rw [HI.out]; rfl, HB.out _⟩
  have h3' : (t == 1) = false := beq_eq_false_iff_ne.2 h3
  by_cases h4 : t = 2
  · rw [decide_eq_true (by omega)] at HI
    have h4' : (t == 2) = true := beq_iff_eq.2 h4
    clear h3 h4
    go_enter Try.func24, Try.ntmps24
    go_wp2
    go_ret
    exact ⟨by rw [HI.out]; rfl, HB.out _⟩
  · rw [decide_eq_false (by omega)] at HI
    have h4' : (t == 2) = false := beq_eq_false_iff_ne.2 h4
    clear h3 h4
    go_enter Try.func24, Try.ntmps24
    go_wp2
    go_ret
    exact ⟨by rw [HI.out]; rfl, HB.out _⟩

/-! ### May -/
set_option maxRecDepth 100000 in
set_option maxHeartbeats 4000000 in
theorem may_any (v : Value) (l : List E) (w : World) (hl : Ents w w.heap.size v l) (hs : Short l) :
    Calls Try.prog 18 #[v] w fun e w' => e = .returned (.bool (Et.mayB l)) ∧ Below w.heap.size w w' := by
  obtain ⟨A, c, rfl, hlc, hcm, hE⟩ := hl.open_
  have HE := Lib.hid hE
  have HS := Lib.hid hs
  clear hl hE hs
  by_cases h30 : 30 < l.length
  · have g1 : (30 : Int) < (l.length : Int) := by omega
    have HM := Lib.hid (show Et.mayB l = false by unfold Et.mayB; rw [decide_eq_false (by omega), Bool.false_and])
    go_enter Try.func18, Try.ntmps18
    go_wp2
    go_ret
    exact ⟨by rw [HM.out]; rfl, Below.refl _ _⟩
  have g1 : ¬ (30 : Int) < (l.length : Int) := by omega
  have HM := Lib.hid (show Et.mayB l = Et.upTo l l.length by unfold Et.mayB; rw [decide_eq_true (by omega), Bool.true_and])
  have HNO := Lib.hid (fun k (hk : k < l.length) h => Et.mayB_no (l := l) hk h)
  go_enter Try.func18, Try.ntmps18
  go_wp2
  go_loopw [10] (fun t wr => ∃ k : Nat, k ≤ l.length ∧ t = .int .i64 k ∧ Hid (Et.upTo l k = true) ∧ Below w.heap.size w wr) (fun t _ => l.length - (intOf t).toNat)
  case atStart => exact ⟨0, Nat.zero_le _, rfl, Lib.hid rfl, Below.refl _ _⟩
  case round =>
    obtain ⟨k, hk, rfl, hall, hbr⟩ := hrel
    by_cases hlt : k < l.length
    · obtain ⟨b, off, rfl, hbB, h0, h1, h2⟩ := (HE.out.below hbr) k hlt
      have hy := HS.out.at_ k hlt
      have HST := Lib.hid (show Et.stepB l k = (Et.okB (Et.at_ l k) && (k == 0 || Tl.ord (Et.at_ l (k - 1)).n (Et.at_ l k).n == -1)) from rfl)
      have HOK := Lib.hid (show Et.okB (Et.at_ l k) = (Tl.isN (Et.at_ l k).n && Et.inB (Et.at_ l k)) from rfl)
      have HUP := Lib.hid (fun h : Et.stepB l k = true => show Et.upTo l (k + 1) = true by rw [Et.upTo_succ, hall.out, h]; rfl)
      have HN1 := Lib.hid (HNO.out k hlt)
      have HPR := Lib.hid (show ∀ q, k = q + 1 → wr.cell? ⟨b, off + q * 3, none⟩ = some (.string ⟨(Et.at_ l (k - 1)).n.toArray⟩) from fun q hq => by
        obtain ⟨b2, off2, e2, _, c0, _, _⟩ := (HE.out.below hbr) q (by omega)
        injection e2 with e2
        injection e2 with e3 e4
        subst e3 e4
        rw [show k - 1 = q by omega]
        exact c0)
      generalize Et.at_ l k = y at *
      generalize Et.at_ l (k - 1) = z at *
      generalize Et.stepB l k = st at *
      obtain ⟨yn, yi, yt⟩ := y
      dsimp only at h0 h1 h2 hy HST HOK
      have k4 := Blk.new wr 28 #[.string ⟨yn.toArray⟩, .int .i64 yi, .int .i64 yt]
      have b4 := hbr.alloc hbr.size (.cells #[.string ⟨yn.toArray⟩, .int .i64 yi, .int .i64 yt] 28)
      have x4 := (Below.refl wr.heap.size wr).alloc (Nat.le_refl _) (.cells #[.string ⟨yn.toArray⟩, .int .i64 yi, .int .i64 yt] 28)
      go_wp2_with fail
      obtain ⟨w4, hw4⟩ : ∃ w4, wr.alloc (.cells #[.string ⟨yn.toArray⟩, .int .i64 yi, .int .i64 yt] 28) = w4 := ⟨_, rfl⟩
      rw [hw4] at k4 b4 x4 ⊢
      clear hw4 h0 h1 h2
      obtain ⟨g4, hg4⟩ : ∃ g4, wr.heap.size = g4 := ⟨_, rfl⟩
      rw [hg4] at k4 ⊢
      clear hg4
      refine (is_any yn w4 hy).mono ?_
      rintro e w5 ⟨rfl, b5⟩
      replace k4 := k4.ext b5
      replace b4 := b4.trans (b5.mono b4.size)
      replace x4 := x4.trans (b5.mono x4.size)
      clear b5
      cases hn : Tl.isN yn with
      | false =>
        rw [HOK.out, hn, Bool.false_and, Bool.false_and] at HST
        have H := Lib.hid (HN1.out HST.out)
        clear hn
        go_wp2
        go_ret
        exact ⟨by rw [H.out]; rfl, b4⟩
      | true =>
        rw [hn, Bool.true_and] at HOK
        clear hn
        have p0 : w5.cell? ⟨g4, 0, none⟩ = some (.string ⟨yn.toArray⟩) := k4.cell 0
        have p1 : w5.cell? ⟨g4, 1, none⟩ = some (.int .i64 yi) := k4.cell 1
        have p2 : w5.cell? ⟨g4, 2, none⟩ = some (.int .i64 yt) := k4.cell 2
        go_wp2_with fail
        refine (isInode_any yn yi yt w5).mono ?_
        rintro e w6 ⟨rfl, b6⟩
        replace k4 := k4.ext b6
        replace b4 := b4.trans (b6.mono b4.size)
        replace x4 := x4.trans (b6.mono x4.size)
        clear b6 p0 p1 p2
        cases hi : Et.inB ⟨yn, yi, yt⟩ with
        | false =>
          rw [HOK.out, hi, Bool.false_and] at HST
          have H := Lib.hid (HN1.out HST.out)
          clear hi
          go_wp2
          go_ret
          exact ⟨by rw [H.out]; rfl, b4⟩
        | true =>
          rw [HOK.out, hi, Bool.true_and] at HST
          clear hi HOK
          go_upto_region 8 with fail
          have hG0 : Below w6.heap.size w6 w6.drew := (Below.refl _ _).drew
          rcases (show k = 0 ∨ ∃ q, k = q + 1 from by cases k with | zero => exact .inl rfl | succ q => exact .inr ⟨q, rfl⟩) with rfl | ⟨q, rfl⟩
          · have H := Lib.hid (HUP.out (by rw [HST.out]; rfl))
            clear HPR
            refine wp_region_list 14 [(fun y_ _ => y_ = .int .i64 ((0 : Nat) : Int)),
              (fun y_ _ => y_ = .bool false),
              (fun y_ _ => y_ = .bool false),
              (fun y_ _ => y_ = undef),
              (fun y_ _ => y_ = undef),
              (fun y_ _ => y_ = undef),
              (fun y_ _ => y_ = undef),
              (fun y_ _ => y_ = undef),
              (fun y_ _ => y_ = undef),
              (fun y_ _ => y_ = undef),
              (fun y_ _ => y_ = undef),
              (fun y_ _ => y_ = undef),
              (fun y_ _ => y_ = undef),
              (fun y_ _ => y_ = .bool false)]
              (fun q => Below w6.heap.size w6 q) (by kernel_rfl) rfl (by kernel_rfl) ?_ ?_ ?_ ?_
            · exact hG0
            · exact ⟨stab_eq _, stab_eq _, stab_eq _, stab_eq _, stab_eq _, stab_eq _, stab_eq _, stab_eq _, stab_eq _, stab_eq _, stab_eq _, stab_eq _, stab_eq _, stab_eq _, trivial⟩
            · refine ⟨?_, ?_, ?_, ?_, ?_, ?_, ?_, ?_, ?_, ?_, ?_, ?_, ?_, ?_, trivial⟩
              · intro a x hG hd hs K hK
                have h3 : a.tmps.getD 3 undef = .int .i64 ((0 : Nat) : Int) := hs 3 (by kernel_rfl)
                clear hd hs
                refine wpOp_plain rfl rfl ?_
                go_simp
                exact hK _ _ rfl hG (Below.refl _ _)
              · intro a x hG hd hs K hK
                have h24 : a.tmps.getD 24 undef = .int .i64 ((0 : Nat) : Int) := hd 0 24 (by kernel_rfl)
                clear hd hs
                refine wpOp_plain rfl rfl ?_
                go_simp
                exact hK _ _ rfl hG (Below.refl _ _)
              · intro a x hG hd hs K hK
                have h25 : a.tmps.getD 25 undef = .bool false := hd 1 25 (by kernel_rfl)
                clear hd hs
                refine wpOp_plain rfl rfl ?_
                go_simp
                exact hK _ _ rfl hG (Below.refl _ _)
              · intro a x hG hd hs K hK
                have h0 : a.tmps.getD 0 undef = .slice (some ⟨b, off, none⟩) l.length c := hs 0 (by kernel_rfl)
                have h26 : a.tmps.getD 26 undef = .bool false := hd 2 26 (by kernel_rfl)
                clear hd hs
                refine wpOp_no rfl rfl rfl h26 ?_
                exact hK _ _ rfl hG (Below.refl _ _)
              · intro a x hG hd hs K hK
                have h3 : a.tmps.getD 3 undef = .int .i64 ((0 : Nat) : Int) := hs 3 (by kernel_rfl)
                have h26 : a.tmps.getD 26 undef = .bool false := hd 2 26 (by kernel_rfl)
                clear hd hs
                refine wpOp_no rfl rfl rfl h26 ?_
                exact hK _ _ rfl hG (Below.refl _ _)
              · intro a x hG hd hs K hK
                have h28 : a.tmps.getD 28 undef = undef := hd 4 28 (by kernel_rfl)
                have h26 : a.tmps.getD 26 undef = .bool false := hd 2 26 (by kernel_rfl)
                clear hd hs
                refine wpOp_no rfl rfl rfl h26 ?_
                exact hK _ _ rfl hG (Below.refl _ _)
              · intro a x hG hd hs K hK
                have h27 : a.tmps.getD 27 undef = undef := hd 3 27 (by kernel_rfl)
                have h29 : a.tmps.getD 29 undef = undef := hd 5 29 (by kernel_rfl)
                have h26 : a.tmps.getD 26 undef = .bool false := hd 2 26 (by kernel_rfl)
                clear hd hs
                refine wpOp_no rfl rfl rfl h26 ?_
                exact hK _ _ rfl hG (Below.refl _ _)
              · intro a x hG hd hs K hK
                have h30 : a.tmps.getD 30 undef = undef := hd 6 30 (by kernel_rfl)
                have h26 : a.tmps.getD 26 undef = .bool false := hd 2 26 (by kernel_rfl)
                clear hd hs
                refine wpOp_no rfl rfl rfl h26 ?_
                exact hK _ _ rfl hG (Below.refl _ _)
              · intro a x hG hd hs K hK
                have h31 : a.tmps.getD 31 undef = undef := hd 7 31 (by kernel_rfl)
                have h26 : a.tmps.getD 26 undef = .bool false := hd 2 26 (by kernel_rfl)
                clear hd hs
                refine wpOp_no rfl rfl rfl h26 ?_
                exact hK _ _ rfl hG (Below.refl _ _)
              · intro a x hG hd hs K hK
                have h4 : a.tmps.getD 4 undef = .pointer (some ⟨g4, 0, none⟩) := hs 4 (by kernel_rfl)
                have h26 : a.tmps.getD 26 undef = .bool false := hd 2 26 (by kernel_rfl)
                clear hd hs
                refine wpOp_no rfl rfl rfl h26 ?_
                exact hK _ _ rfl hG (Below.refl _ _)
              · intro a x hG hd hs K hK
                have h33 : a.tmps.getD 33 undef = undef := hd 9 33 (by kernel_rfl)
                have h26 : a.tmps.getD 26 undef = .bool false := hd 2 26 (by kernel_rfl)
                clear hd hs
                refine wpOp_no rfl rfl rfl h26 ?_
                exact hK _ _ rfl hG (Below.refl _ _)
              · intro a x hG hd hs K hK
                have h32 : a.tmps.getD 32 undef = undef := hd 8 32 (by kernel_rfl)
                have h34 : a.tmps.getD 34 undef = undef := hd 10 34 (by kernel_rfl)
                have h26 : a.tmps.getD 26 undef = .bool false := hd 2 26 (by kernel_rfl)
                clear hd hs
                refine wpOp_no rfl rfl rfl h26 ?_
                exact hK _ _ rfl hG (Below.refl _ _)
              · intro a x hG hd hs K hK
                have h35 : a.tmps.getD 35 undef = undef := hd 11 35 (by kernel_rfl)
                have h26 : a.tmps.getD 26 undef = .bool false := hd 2 26 (by kernel_rfl)
                clear hd hs
                refine wpOp_no rfl rfl rfl h26 ?_
                exact hK _ _ rfl hG (Below.refl _ _)
              · intro a x hG hd hs K hK
                have h26 : a.tmps.getD 26 undef = .bool false := hd 2 26 (by kernel_rfl)
                have h36 : a.tmps.getD 36 undef = undef := hd 12 36 (by kernel_rfl)
                clear hd hs
                refine wpOp_plain rfl rfl ?_
                go_simp
                exact hK _ _ rfl hG (Below.refl _ _)
            · intro x hG
              rintro _ rfl _ rfl _ rfl _ rfl _ rfl _ rfl _ rfl _ rfl _ rfl _ rfl _ rfl _ rfl _ rfl _ rfl
              simp only [Act.put, List.setIfInBounds_toArray, List.set_cons_zero, List.set_cons_succ, REnd]
              try simp only [Exit.then]
              have b9 := b4.trans (hG.mono b4.size)
              go_wp2
              go_roundw
              case rel => exact ⟨0 + 1, by omega, by go_num, H, b9⟩
              case measure => simp [intOf]; omega
          · have hc9 : w6.cell? ⟨b, off + q * 3, none⟩ = some (.string ⟨z.n.toArray⟩) := (x4.cell (p := ⟨b, off + q * 3, none⟩) (Nat.lt_of_lt_of_le hbB hbr.size)).trans (HPR.out q rfl)
            have hbw6 : b < w6.heap.size := Nat.lt_of_lt_of_le hbB b4.size
            clear HPR
            rw [show ((q + 1 : Nat) == 0) = false from rfl, Bool.false_or] at HST
            obtain ⟨o, ho⟩ : ∃ o, Tl.ord z.n yn = o := ⟨_, rfl⟩
            have HO := Lib.hid ho
            have hob := Et.ord_bd z.n yn
            rw [ho] at hob HST
            clear ho
            obtain ⟨bb, hbb⟩ : ∃ bb, decide (0 ≤ o) = bb := ⟨_, rfl⟩
            have HBB := Lib.hid hbb
            clear hbb
            refine wp_region_list 14 [(fun y_ _ => y_ = .int .i64 ((q + 1 : Nat) : Int)),
              (fun y_ _ => y_ = .bool true),
              (fun y_ _ => y_ = .bool true),
              (fun y_ _ => y_ = .slice (some ⟨b, off, none⟩) l.length c),
              (fun y_ _ => y_ = .int .i64 ((q + 1 : Nat) : Int)),
              (fun y_ _ => y_ = .int .i64 (q : Int)),
              (fun y_ _ => y_ = .pointer (some ⟨b, off + q * 3, none⟩)),
              (fun y_ _ => y_ = .pointer (some ⟨b, off + q * 3, none⟩)),
              (fun y_ _ => y_ = .string ⟨z.n.toArray⟩),
              (fun y_ _ => y_ = .pointer (some ⟨g4, 0, none⟩)),
              (fun y_ _ => y_ = .string ⟨yn.toArray⟩),
              (fun y_ _ => y_ = .int .i64 o),
              (fun y_ _ => y_ = .bool bb),
              (fun y_ _ => y_ = .bool bb)]
              (fun q => Below w6.heap.size w6 q) (by kernel_rfl) rfl (by kernel_rfl) ?_ ?_ ?_ ?_
            · exact hG0
            · exact ⟨stab_eq _, stab_eq _, stab_eq _, stab_eq _, stab_eq _, stab_eq _, stab_eq _, stab_eq _, stab_eq _, stab_eq _, stab_eq _, stab_eq _, stab_eq _, stab_eq _, trivial⟩
            · refine ⟨?_, ?_, ?_, ?_, ?_, ?_, ?_, ?_, ?_, ?_, ?_, ?_, ?_, ?_, trivial⟩
              · intro a x hG hd hs K hK
                have h3 : a.tmps.getD 3 undef = .int .i64 ((q + 1 : Nat) : Int) := hs 3 (by kernel_rfl)
                clear hd hs
                refine wpOp_plain rfl rfl ?_
                go_simp
                exact hK _ _ rfl hG (Below.refl _ _)
              · intro a x hG hd hs K hK
                have h24 : a.tmps.getD 24 undef = .int .i64 ((q + 1 : Nat) : Int) := hd 0 24 (by kernel_rfl)
                clear hd hs
                refine wpOp_plain rfl rfl ?_
                have hq9 : (0 : Int) < ((q + 1 : Nat) : Int) := by omega
                go_simp
                exact hK _ _ rfl hG (Below.refl _ _)
              · intro a x hG hd hs K hK
                have h25 : a.tmps.getD 25 undef = .bool true := hd 1 25 (by kernel_rfl)
                clear hd hs
                refine wpOp_plain rfl rfl ?_
                go_simp
                exact hK _ _ rfl hG (Below.refl _ _)
              · intro a x hG hd hs K hK
                have h0 : a.tmps.getD 0 undef = .slice (some ⟨b, off, none⟩) l.length c := hs 0 (by kernel_rfl)
                have h26 : a.tmps.getD 26 undef = .bool true := hd 2 26 (by kernel_rfl)
                clear hd hs
                refine wpOp_yes rfl rfl rfl h26 ?_
                go_simp
                exact hK _ _ rfl hG (Below.refl _ _)
              · intro a x hG hd hs K hK
                have h3 : a.tmps.getD 3 undef = .int .i64 ((q + 1 : Nat) : Int) := hs 3 (by kernel_rfl)
                have h26 : a.tmps.getD 26 undef = .bool true := hd 2 26 (by kernel_rfl)
                clear hd hs
                refine wpOp_yes rfl rfl rfl h26 ?_
                go_simp
                exact hK _ _ rfl hG (Below.refl _ _)
              · intro a x hG hd hs K hK
                have h28 : a.tmps.getD 28 undef = .int .i64 ((q + 1 : Nat) : Int) := hd 4 28 (by kernel_rfl)
                have h26 : a.tmps.getD 26 undef = .bool true := hd 2 26 (by kernel_rfl)
                clear hd hs
                refine wpOp_yes rfl rfl rfl h26 ?_
                have hwr : IntKind.i64.wrap (q : Int) = (q : Int) := IntWalk.i64_in _ (by omega)
                go_simp
                exact hK _ _ rfl hG (Below.refl _ _)
              · intro a x hG hd hs K hK
                have h27 : a.tmps.getD 27 undef = .slice (some ⟨b, off, none⟩) l.length c := hd 3 27 (by kernel_rfl)
                have h29 : a.tmps.getD 29 undef = .int .i64 (q : Int) := hd 5 29 (by kernel_rfl)
                have h26 : a.tmps.getD 26 undef = .bool true := hd 2 26 (by kernel_rfl)
                clear hd hs
                refine wpOp_yes rfl rfl rfl h26 ?_
                have hq9 : q < l.length := by omega
                go_simp
                exact hK _ _ rfl hG (Below.refl _ _)
              · intro a x hG hd hs K hK
                have h30 : a.tmps.getD 30 undef = .pointer (some ⟨b, off + q * 3, none⟩) := hd 6 30 (by kernel_rfl)
                have h26 : a.tmps.getD 26 undef = .bool true := hd 2 26 (by kernel_rfl)
                clear hd hs
                refine wpOp_yes rfl rfl rfl h26 ?_
                go_simp
                exact hK _ _ rfl hG (Below.refl _ _)
              · intro a x hG hd hs K hK
                have h31 : a.tmps.getD 31 undef = .pointer (some ⟨b, off + q * 3, none⟩) := hd 7 31 (by kernel_rfl)
                have h26 : a.tmps.getD 26 undef = .bool true := hd 2 26 (by kernel_rfl)
                clear hd hs
                refine wpOp_yes rfl rfl rfl h26 ?_
                have hc := (hG.cell (p := ⟨b, off + q * 3, none⟩) hbw6).trans hc9
                go_simp
                exact hK _ _ rfl hG (Below.refl _ _)
              · intro a x hG hd hs K hK
                have h4 : a.tmps.getD 4 undef = .pointer (some ⟨g4, 0, none⟩) := hs 4 (by kernel_rfl)
                have h26 : a.tmps.getD 26 undef = .bool true := hd 2 26 (by kernel_rfl)
                clear hd hs
                refine wpOp_yes rfl rfl rfl h26 ?_
                go_simp
                exact hK _ _ rfl hG (Below.refl _ _)
              · intro a x hG hd hs K hK
                have h33 : a.tmps.getD 33 undef = .pointer (some ⟨g4, 0, none⟩) := hd 9 33 (by kernel_rfl)
                have h26 : a.tmps.getD 26 undef = .bool true := hd 2 26 (by kernel_rfl)
                clear hd hs
                refine wpOp_yes rfl rfl rfl h26 ?_
                have hc : x.cell? ⟨g4, 0, none⟩ = some (.string ⟨yn.toArray⟩) := (k4.ext hG).cell 0
                go_simp
                exact hK _ _ rfl hG (Below.refl _ _)
              · intro a x hG hd hs K hK
                have h32 : a.tmps.getD 32 undef = .string ⟨z.n.toArray⟩ := hd 8 32 (by kernel_rfl)
                have h34 : a.tmps.getD 34 undef = .string ⟨yn.toArray⟩ := hd 10 34 (by kernel_rfl)
                have h26 : a.tmps.getD 26 undef = .bool true := hd 2 26 (by kernel_rfl)
                clear hd hs
                refine wpOp_yes rfl rfl rfl h26 ?_
                go_simp
                refine (order_any z.n yn _).mono ?_
                rintro e w' ⟨rfl, rfl⟩
                rw [HO.out]
                exact hK _ _ rfl hG (Below.refl _ _)
              · intro a x hG hd hs K hK
                have h35 : a.tmps.getD 35 undef = .int .i64 o := hd 11 35 (by kernel_rfl)
                have h26 : a.tmps.getD 26 undef = .bool true := hd 2 26 (by kernel_rfl)
                clear hd hs
                refine wpOp_yes rfl rfl rfl h26 ?_
                have hbb := HBB.out
                go_simp
                exact hK _ _ rfl hG (Below.refl _ _)
              · intro a x hG hd hs K hK
                have h26 : a.tmps.getD 26 undef = .bool true := hd 2 26 (by kernel_rfl)
                have h36 : a.tmps.getD 36 undef = .bool bb := hd 12 36 (by kernel_rfl)
                clear hd hs
                refine wpOp_plain rfl rfl ?_
                go_simp
                exact hK _ _ rfl hG (Below.refl _ _)
            · intro x hG
              rintro _ rfl _ rfl _ rfl _ rfl _ rfl _ rfl _ rfl _ rfl _ rfl _ rfl _ rfl _ rfl _ rfl _ rfl
              simp only [Act.put, List.setIfInBounds_toArray, List.set_cons_zero, List.set_cons_succ, REnd]
              try simp only [Exit.then]
              have b9 := b4.trans (hG.mono b4.size)
              cases bb with
              | true =>
                have hge := of_decide_eq_true HBB.out
                have H := Lib.hid (HN1.out (by rw [HST.out, beq_eq_false_iff_ne]; omega))
                clear hge HBB
                go_wp2
                go_ret
                exact ⟨by rw [H.out]; rfl, b9⟩
              | false =>
                have hge := of_decide_eq_false HBB.out
                have H := Lib.hid (HUP.out (by rw [HST.out, beq_iff_eq]; omega))
                clear hge HBB
                go_wp2
                go_roundw
                case rel => exact ⟨q + 1 + 1, by omega, by go_num, H, b9⟩
                case measure => simp [intOf]; omega
    · obtain rfl : k = l.length := by omega
      go_wp2
      go_ret
      exact ⟨by rw [HM.out, hall.out]; rfl, hbr⟩
end Go.Proofs.Ytahkhieoabbaaaa
