/-
  The walks of the helpers of the statements of layer 13: few, some, awake; == on checkpoints. By an AI agent.
-/
import Derived.Test.YtkkbmhlmgbepjaaDoorCkS
import Derived.Test.YtkkbmhlmgbepjaaDoorVarsP
namespace Go.Proofs.YtkkbmhlmgbepjaaDoor
open Go.RowKit Go.ChangeShapes Go.WideShapes Go.ChangeAt

set_option maxHeartbeats 400000 in
theorem few_any (w : World) (v : Value) (B : Nat) (l : List UInt8) (h : Bs w B v l) :
    Calls Tryd.prog 7 #[v] w fun e w' => ∃ u, e = .returned u ∧ Bs w B u (l.take 200) ∧ w = w' := by
  obtain ⟨A, c, rfl, hc, hm, _⟩ := h.openD
  by_cases hl : 200 < l.length
  · have hl' : (200 : Int) < l.length := by omega
    have hl2 : (200 : Int) ≤ c := by omega
    have hl3 : (200 : Nat) ≤ c := by omega
    have hh := h.head (k := 200) (by omega)
    clear h
    go_enter Tryd.func7, Tryd.ntmps7
    go_wp2
    go_ret
    exact ⟨_, rfl, hh, rfl⟩
  · have hl' : ¬ (200 : Int) < l.length := by omega
    go_enter Tryd.func7, Tryd.ntmps7
    go_wp2
    go_ret
    exact ⟨_, rfl, by rw [List.take_of_length_le (by omega)]; exact h, rfl⟩
theorem ucells_inj : ∀ (a b : List Int), ucells a = ucells b → a = b
  | [], [], _ => rfl
  | [], _ :: _, h => by cases h
  | _ :: _, [], h => by cases h
  | x :: a, y :: b, h => by
    unfold ucells at h
    simp only [List.map_cons, List.cons.injEq, Value.int.injEq, true_and] at h
    rw [h.1, ucells_inj a b h.2]
theorem ccells_inj (x y : Ck.Ck) (hx : x.mp.length = 4) (hy : y.mp.length = 4) : ccells x = ccells y ↔ x = y := by
  constructor
  · intro h
    obtain ⟨a, b, c, d, k⟩ := x
    obtain ⟨a', b', c', d', k'⟩ := y
    unfold ccells at h
    simp only [List.cons.injEq, Value.int.injEq, true_and] at h
    obtain ⟨h1, h2, h3, h4⟩ := h
    obtain ⟨h5, h6⟩ := List.append_inj h4 (by rw [pcells_len, pcells_len]; simp only at hx hy; rw [hx, hy])
    rw [h1, h2, h3, pcells_inj _ _ h5, ucells_inj _ _ h6]
  · rintro rfl; rfl
theorem kin_ucells : ∀ (a b : List Int), Kin (ucells a) (ucells b)
  | [], _ => fun j a b ha _ => by simp [ucells] at ha
  | _ :: _, [] => fun j a b _ hb => by simp [ucells] at hb
  | x :: a, y :: b => (kin_ucells a b).cons
theorem Kin.append {a b c d : List Value} (h : Kin a b) (hl : a.length = b.length) (h' : Kin c d) : Kin (a ++ c) (b ++ d) := by
  intro j u v hu hv
  by_cases hj : j < a.length
  · rw [List.getElem?_append_left hj] at hu
    rw [List.getElem?_append_left (by omega)] at hv
    exact h j u v hu hv
  · rw [List.getElem?_append_right (by omega)] at hu
    rw [List.getElem?_append_right (by omega), ← hl] at hv
    exact h' _ u v hu hv
theorem run_eql_ck (x y : Ck.Ck) (hx : x.mp.length = 4 ∧ x.us.length = 8) (hy : y.mp.length = 4 ∧ y.us.length = 8) (b : Bool) (hb : b = decide (x = y)) (W : World) :
    (binOp .eql 28 (.agg (ccells x).toArray) (.agg (ccells y).toArray)).run Tryd.prog W = .ok (.bool b) W ∧ (binOp .neq 28 (.agg (ccells x).toArray) (.agg (ccells y).toArray)).run Tryd.prog W = .ok (.bool (!b)) W := by
  refine run_eql_cells 4 (by kernel_rfl) (by decide) (by kernel_rfl) _ _ ?_ ?_ ?_ W b ?_
  · rw [ccells_len x hx.1 hx.2]; kernel_rfl
  · rw [ccells_len y hy.1 hy.2]; kernel_rfl
  · unfold ccells
    exact ((kin_pcells _ _).append (by rw [pcells_len, pcells_len, hx.1, hy.1]) (kin_ucells _ _)).cons.cons.cons
  · rw [hb, decide_eq_true_iff, ccells_inj x y hx.1 hy.1]
theorem eqGuardC : Tryd.prog.eqGuardType Tryd.prog.depth 28 = false := by kernel_rfl
def cks : List IntKind := .i64 :: .i64 :: .i64 :: (pk 4 ++ List.replicate 8 .i64)
theorem ck_of_ints (zs : List Int) (hl : zs.length = cks.length) (hw : ∀ (j : Nat) (k : IntKind) (z : Int), cks[j]? = some k → zs[j]? = some z → (Lit.int k z).wf = true) :
    ∃ x : Ck.Ck, Ck.Good x ∧ (cks.zip zs).map (fun p => Value.int p.1 p.2) = ccells x ∧ -9223372036854775808 ≤ x.s ∧ x.s ≤ 9223372036854775807 := by
  match zs, hl with
  | a :: b :: c :: zs, hl =>
    have hl' : zs.length = 16 := by simpa [cks, pk] using hl
    obtain ⟨ps, h1, h2, h3⟩ := ptrs_of_ints 4 (zs.take 8) (by rw [List.length_take, hl']; rfl) (fun j k z hj hz => by
      have hj8 : j < 8 := by
        rcases Nat.lt_or_ge j 8 with h | h
        · exact h
        · rw [List.getElem?_eq_none (by rw [List.length_take, hl']; omega)] at hz; cases hz
      rw [List.getElem?_take, if_pos hj8] at hz
      exact hw (j + 3) k z (by show (pk 4 ++ _)[j]? = _; rw [List.getElem?_append_left (show j < (pk 4).length from hj8)]; exact hj) hz)
    have hwa := wf_i64 (hw 0 .i64 a rfl rfl)
    refine ⟨⟨a, b, c, ps, zs.drop 8⟩, ⟨h1, by rw [List.length_drop, hl'], h3⟩, ?_, hwa.1, hwa.2⟩
    unfold ccells cks
    simp only [List.zip_cons_cons, List.map_cons]
    have hsplit : (pk 4 ++ List.replicate 8 IntKind.i64).zip zs = (pk 4).zip (zs.take 8) ++ (List.replicate 8 IntKind.i64).zip (zs.drop 8) := by
      conv => lhs; rw [← List.take_append_drop 8 zs]
      exact List.zip_append (by rw [List.length_take, hl']; rfl)
    rw [hsplit, List.map_append, h2]
    have key : ∀ (n : Nat) (l : List Int), l.length = n → ((List.replicate n IntKind.i64).zip l).map (fun p => Value.int p.1 p.2) = ucells l := by
      intro n
      induction n with
      | zero => intro l hl; rw [List.eq_nil_of_length_eq_zero hl]; rfl
      | succ n ih =>
        intro l hl
        match l, hl with
        | x :: l, hl =>
          rw [List.replicate_succ, List.zip_cons_cons, List.map_cons, ih l (by simpa using hl)]
          rfl
    rw [key 8 (zs.drop 8) (by rw [List.length_drop, hl'])]
/-! ### some, awake -/
def someC (n : Int) : Ck.Ck := ⟨n, 9, 17, List.replicate 4 (2, 0), List.replicate 8 0⟩
theorem good_some (n : Int) : Ck.Good (someC n) := ⟨rfl, rfl, fun p hp => by rw [List.eq_of_mem_replicate hp]; decide⟩
set_option maxRecDepth 100000 in
set_option maxHeartbeats 1000000 in
theorem some_any (n : Int) (w : World) :
    Calls Tryd.prog 28 #[.int .i64 n] w fun e w' => e = .returned (cagg (someC n)) ∧ Below w.heap.size w w' := by
  go_enter Tryd.func28, Tryd.ntmps28
  go_upto_region 1 with (fail)
  generalize hW : w.alloc (.cells _ 28) = W0
  have hk0 : Blk W0 w.heap.size 28 (ccells Ck.Ck.zero) := by rw [← hW]; exact Blk.new w _ _
  have b0 : Below w.heap.size w W0 := by rw [← hW]; exact (Below.refl _ _).alloc (Nat.le_refl _) _
  clear hW
  obtain ⟨g0, hg0⟩ : ∃ g0, g0 = w.heap.size := ⟨_, rfl⟩
  rw [← hg0] at hk0 ⊢
  have hg1 : w.heap.size ≤ g0 := by omega
  clear hg0
  go_upto_region 2 with (fail)
  have k1 := hk0.alloc (.cells #[.int .i64 2, .int .u32 0] 24)
  have j1 := Blk.new W0 24 #[.int .i64 2, .int .u32 0]
  have c1 := b0.alloc b0.size (.cells #[.int .i64 2, .int .u32 0] 24)
  generalize W0.alloc (.cells #[.int .i64 2, .int .u32 0] 24) = W1 at *
  generalize W0.heap.size = gp at *
  have y0 := j1.cell 0
  have y1 := j1.cell 1
  simp only [List.getElem?_cons_zero, List.getElem?_cons_succ] at y0 y1
  clear hk0 b0 j1
  go_wp2_with (refine wpList_store_mid rfl 28 (.tmp 2) (.tmp 11) rfl g0 0 (ccells (someC n)).toArray (by rfl) (by rfl) (k1.there 0 19 (by rw [ccells_len _ rfl rfl]; omega)) (by kernel_rfl) (all_oneCell_toArray ccells_one) ?_)
  have hz := k1.setCells (ccells (someC n)) 0 (by rw [ccells_len _ rfl rfl, ccells_len _ rfl rfl]; omega)
  rw [spl_all _ _ (by rw [ccells_len _ rfl rfl, ccells_len _ rfl rfl])] at hz
  have bz := below_setCells (o := 0) (vs := ccells (someC n)) c1 hg1
  refine bodyPost_ret (v := cagg (someC n)) (res_cell1 (ccells (someC n)) _ Tryd.results28 rfl hz.range Tryd.underlying28 rfl (infoC _ rfl rfl)) rfl ?_
  exact ⟨rfl, bz⟩
def zer : List UInt8 := List.replicate 128 0
theorem ckErr_zer : Ck.ckErr zer = 5 := by decide +kernel
theorem dec_zer : dec zer = Ck.Ck.zero := by unfold dec; rw [ckErr_zer]; rfl
theorem chs_zer : chs zer zer 2 = Ck.Ck.zero := by
  show chs2 zer zer = _
  unfold chs2 chs1
  rw [ckErr_zer]
  rfl
theorem infoU8c : (Tryd.prog.info? 5).map (fun i => (i.zero, i.size, i.bytes)) = some (some (.int .u8 0), 1, 1) := by kernel_rfl
def zcl : List Value := List.replicate 128 (.int .u8 0)
theorem made_zer : (madeCells #[.int .u8 0] (128 * 1)).toList = zcl := by kernel_rfl
theorem run_mk128 (W : World) : (Instr.makeSlice 29 (.int .i64 128) (.int .i64 128)).run Tryd.prog W = .ok (.slice (some ⟨W.heap.size, 0, none⟩) 128 128) (W.alloc (.cells (madeCells #[.int .u8 0] (128 * 1)) 5)) :=
  run_mk (P := Tryd.prog) Tryd.underlying29 infoU8c 128 128 (Nat.le_refl _) (by decide) (by decide) W
/-- 128 octets that are all nought, in a block of their own. -/
def Noug (v : Value) (w : World) : Prop := ∃ g, v = .slice (some ⟨g, 0, none⟩) 128 128 ∧ Blk w g 5 zcl
theorem Noug.bs {v : Value} {w : World} (h : Noug v w) : Bs w w.heap.size v zer := by
  obtain ⟨g, rfl, hk⟩ := h
  have hzl : zcl.length = 128 := by unfold zcl; exact List.length_replicate
  have h1 := (hk.rds 0 128 128 1 (by rw [hzl]; omega) (Nat.le_refl _) (by rw [maxLen_eq]; omega)).more (B' := w.heap.size) hk.lt
  rw [List.drop_zero, List.take_of_length_le (by rw [hzl]; omega)] at h1
  unfold Bs
  have e1 : zer.length = 128 := by unfold zer; exact List.length_replicate
  have e2 : (zer.map fun c => Value.int .u8 (c.toNat : Int)) = zcl := by unfold zer zcl; rw [List.map_replicate]; rfl
  rw [e1, e2]
  exact h1
theorem Noug.ext {v : Value} {w w' : World} (h : Noug v w) (hb : Below w.heap.size w w') : Noug v w' := by
  obtain ⟨g, h1, h2⟩ := h
  exact ⟨g, h1, h2.ext hb⟩
theorem Noug.new (w : World) : Noug (.slice (some ⟨w.heap.size, 0, none⟩) 128 128) (w.alloc (.cells (madeCells #[.int .u8 0] (128 * 1)) 5)) := by
  refine ⟨_, rfl, ?_⟩
  have := Blk.new w 5 (madeCells #[.int .u8 0] (128 * 1))
  rw [made_zer] at this
  exact this
theorem Blk.far2 {w : World} {g g2 : Nat} {t t2 : TypeId} {cs ds vs : List Value} {o : Nat} (h : Blk w g t cs) (h2 : Blk w g2 t2 ds) (hne : t ≠ t2) : Blk (w.setCells g2 o vs) g t cs := by
  refine h.grown (grown_setCells vs w o) (fun e => ?_)
  injection e with e
  subst e
  unfold Blk at h h2
  rw [h] at h2
  injection h2 with h2
  injection h2 with _ h2
  exact hne h2
theorem Noug.far {v : Value} {w : World} {g2 o : Nat} {ds vs : List Value} (h : Noug v w) (h2 : Blk w g2 28 ds) : Noug v (w.setCells g2 o vs) := by
  obtain ⟨g, h1, h3⟩ := h
  exact ⟨g, h1, h3.far2 h2 (by decide)⟩
set_option maxRecDepth 100000 in
set_option maxHeartbeats 4000000 in
theorem awakeC_any (w : World) (hH : Halves w) :
    Calls Tryd.prog 14 #[] w fun e w' => e = .returned (.bool true) ∧ Below w.heap.size w w' := by
  go_enter Tryd.func14, Tryd.ntmps14
  go_wp2_with fail
  refine (some_any 4 w).mono ?_
  rintro e w1 ⟨rfl, b1⟩
  go_wp2_with fail
  refine (encodeC_yes (someC 4) w1 (good_some 4) (by decide) (hH.ext b1)).mono ?_
  rintro e w2 ⟨u, rfl, hs, b2⟩
  have c2 := b1.trans (b2.mono b1.size)
  obtain ⟨A, c, rfl, hc, hm, _⟩ := hs.openD
  have hsl : (Ck.ckE (someC 4)).length = 128 := Crc.length_sealed _ (by rw [Ck.ckE_len _ (good_some 4)]; omega)
  have ht : (Ck.ckE (someC 4)).take 10 = [99, 107, 112, 116, 0, 0, 0, 0, 0, 4] := by decide +kernel
  have hhd : Bs w2 w2.heap.size (.slice A 10 c) [99, 107, 112, 116, 0, 0, 0, 0, 0, 4] := by rw [← ht]; exact hs.head (by rw [hsl]; omega)
  rw [hsl] at hc
  rw [hsl]
  have HHD := Lib.hid hhd
  clear hs hsl ht hhd b1 b2
  go_wp2_with fail
  refine wp_region_varsP 9 [(Noug),
    (Noug),
    (fun y_ _ => y_ = .tuple #[.agg (ccells Ck.Ck.zero).toArray, .int .i64 6]),
    (fun y_ _ => y_ = .tuple #[.agg (ccells Ck.Ck.zero).toArray, .int .i64 6]),
    (fun y_ _ => y_ = .agg (ccells Ck.Ck.zero).toArray),
    (fun y_ _ => y_ = .int .i64 6),
    (fun _ _ => True),
    (fun _ _ => True),
    (fun y_ _ => y_ = .int .i64 6)] [⟨6, 7, 3, 14, 28, ccells Ck.Ck.zero, ccells Ck.Ck.zero⟩] (by kernel_rfl) rfl (by kernel_rfl) rfl ?_ ?_ ?_ ?_ ?_
  · exact ⟨(fun _ _ _ h hb => Noug.ext h hb), (fun _ _ _ h hb => Noug.ext h hb), (fun _ _ _ h _ => h), (fun _ _ _ h _ => h), (fun _ _ _ h _ => h), (fun _ _ _ h _ => h), (fun _ _ _ h _ => h), (fun _ _ _ h _ => h), (fun _ _ _ h _ => h), trivial⟩
  · intro j xv hxv v w2_ g hn hp hk
    simp only [List.mem_cons, List.not_mem_nil, or_false] at hxv
    rcases hxv with rfl
    · match j, hn, hp with
      | 0, _, hp => exact (show (Noug) v (w2_.setCells g 0 (ccells Ck.Ck.zero)) from (fun h h2 => Noug.far h h2) (show (Noug) v w2_ from hp) (show Blk w2_ g 28 (ccells Ck.Ck.zero) from hk))
      | 1, _, hp => exact (show (Noug) v (w2_.setCells g 0 (ccells Ck.Ck.zero)) from (fun h h2 => Noug.far h h2) (show (Noug) v w2_ from hp) (show Blk w2_ g 28 (ccells Ck.Ck.zero) from hk))
      | 2, _, hp => exact (show v = .tuple #[.agg (ccells Ck.Ck.zero).toArray, .int .i64 6] from hp)
      | 3, _, hp => exact (show v = .tuple #[.agg (ccells Ck.Ck.zero).toArray, .int .i64 6] from hp)
      | 4, _, hp => exact (show v = .agg (ccells Ck.Ck.zero).toArray from hp)
      | 5, _, hp => exact (show v = .int .i64 6 from hp)
      | 6, _, hp => exact trivial
      | 7, _, hp => exact trivial
      | 8, _, hp => exact (show v = .int .i64 6 from hp)
      | k_ + 9, _, _ => exact trivial
  · intro xv hxv
    simp only [List.mem_cons, List.not_mem_nil, or_false] at hxv
    rcases hxv with rfl
    · refine ⟨by kernel_rfl, by kernel_rfl, of_decide_eq_true (by kernel_rfl), rfl, by kernel_rfl, ⟨4, by kernel_rfl, by simp, fun _ _ h => h⟩, ?_, ?_⟩
      · intro a x K h
        refine wpOp_plain rfl rfl ?_
        go_simp
        exact h
      · intro a x g K h1 h2 h3 h
        refine wpOp_plain rfl rfl ?_
        refine wp_store_mid 28 (.tmp 3) (.tmp 14) rfl g 0 (ccells Ck.Ck.zero).toArray h1 h2 (by rw [List.size_toArray]; exact h3) (infoC _ rfl rfl) (all_oneCell_toArray ccells_one) ?_
        exact h
  · refine ⟨?_, ?_, ?_, ?_, ?_, ?_, ?_, ?_, ?_, trivial⟩
    · intro _ a x hG hd hs K hK
      replace hG : Below (w2).heap.size (w2) x := hG
      replace hK : ∀ (v : Value) w', (Noug) v w' → Below (w2).heap.size (w2) w' → Below x.heap.size x w' → K _ w' := fun v w' e1 e2 e3 => hK v w' (fun _ => e1) e2 e3
      clear hd hs
      refine wpOp_plain rfl rfl ?_
      have hmk := run_mk128 x
      go_simp
      exact hK _ _ (Noug.new x) (hG.alloc hG.size _) ((Below.refl _ _).alloc (Nat.le_refl _) _)
    · intro _ a x hG hd hs K hK
      replace hG : Below (w2).heap.size (w2) x := hG
      replace hK : ∀ (v : Value) w', (Noug) v w' → Below (w2).heap.size (w2) w' → Below x.heap.size x w' → K _ w' := fun v w' e1 e2 e3 => hK v w' (fun _ => e1) e2 e3
      clear hd hs
      refine wpOp_plain rfl rfl ?_
      have hmk := run_mk128 x
      go_simp
      exact hK _ _ (Noug.new x) (hG.alloc hG.size _) ((Below.refl _ _).alloc (Nat.le_refl _) _)
    · intro _ a x hG hd hs K hK
      replace hG : Below (w2).heap.size (w2) x := hG
      replace hK : ∀ (v : Value) w', (fun y_ _ => y_ = .tuple #[.agg (ccells Ck.Ck.zero).toArray, .int .i64 6]) v w' → Below (w2).heap.size (w2) w' → Below x.heap.size x w' → K _ w' := fun v w' e1 e2 e3 => hK v w' (fun _ => e1) e2 e3
      have h11 : (Noug) (a.tmps.getD 11 undef) x := hd 0 11 (by kernel_rfl) (by simp)
      have h12 : (Noug) (a.tmps.getD 12 undef) x := hd 1 12 (by kernel_rfl) (by simp)
      clear hd hs
      refine wpOp_plain rfl rfl ?_
      obtain ⟨u1, hu1⟩ : ∃ u1, a.tmps.getD 11 undef = u1 := ⟨_, rfl⟩
      obtain ⟨u2, hu2⟩ : ∃ u2, a.tmps.getD 12 undef = u2 := ⟨_, rfl⟩
      rw [hu1] at h11
      rw [hu2] at h12
      go_simp
      refine (chooseC_any _ u1 u2 zer zer (hH.ext (c2.trans (hG.mono c2.size))) h11.bs h12.bs).mono ?_
      rintro e w' ⟨rfl, hb⟩
      rw [chs_zer]
      exact hK _ _ rfl (hG.trans (hb.mono hG.size)) hb
    · intro _ a x hG hd hs K hK
      replace hG : Below (w2).heap.size (w2) x := hG
      replace hK : ∀ (v : Value) w', (fun y_ _ => y_ = .tuple #[.agg (ccells Ck.Ck.zero).toArray, .int .i64 6]) v w' → Below (w2).heap.size (w2) w' → Below x.heap.size x w' → K _ w' := fun v w' e1 e2 e3 => hK v w' (fun _ => e1) e2 e3
      have h13 : a.tmps.getD 13 undef = .tuple #[.agg (ccells Ck.Ck.zero).toArray, .int .i64 6] := hd 2 13 (by kernel_rfl) (by simp)
      clear hd hs
      refine wpOp_plain rfl rfl ?_
      go_simp
      exact hK _ _ rfl hG (Below.refl _ _)
    · intro _ a x hG hd hs K hK
      replace hG : Below (w2).heap.size (w2) x := hG
      replace hK : ∀ (v : Value) w', (fun y_ _ => y_ = .agg (ccells Ck.Ck.zero).toArray) v w' → Below (w2).heap.size (w2) w' → Below x.heap.size x w' → K _ w' := fun v w' e1 e2 e3 => hK v w' (fun _ => e1) e2 e3
      have h10 : a.tmps.getD 10 undef = .tuple #[.agg (ccells Ck.Ck.zero).toArray, .int .i64 6] := hd 3 10 (by kernel_rfl) (by simp)
      clear hd hs
      refine wpOp_plain rfl rfl ?_
      go_simp
      exact hK _ _ rfl hG (Below.refl _ _)
    · intro _ a x hG hd hs K hK
      replace hG : Below (w2).heap.size (w2) x := hG
      replace hK : ∀ (v : Value) w', (fun y_ _ => y_ = .int .i64 6) v w' → Below (w2).heap.size (w2) w' → Below x.heap.size x w' → K _ w' := fun v w' e1 e2 e3 => hK v w' (fun _ => e1) e2 e3
      have h10 : a.tmps.getD 10 undef = .tuple #[.agg (ccells Ck.Ck.zero).toArray, .int .i64 6] := hd 3 10 (by kernel_rfl) (by simp)
      clear hd hs
      refine wpOp_plain rfl rfl ?_
      go_simp
      exact hK _ _ rfl hG (Below.refl _ _)
    · intro hno
      exact absurd rfl ((hno _ (List.Mem.head _)).1)
    · intro hno
      exact absurd rfl ((hno _ (List.Mem.head _)).2)
    · intro _ a x hG hd hs K hK
      replace hG : Below (w2).heap.size (w2) x := hG
      replace hK : ∀ (v : Value) w', (fun y_ _ => y_ = .int .i64 6) v w' → Below (w2).heap.size (w2) w' → Below x.heap.size x w' → K _ w' := fun v w' e1 e2 e3 => hK v w' (fun _ => e1) e2 e3
      have h15 : a.tmps.getD 15 undef = .int .i64 6 := hd 5 15 (by kernel_rfl) (by simp)
      clear hd hs
      refine wpOp_plain rfl rfl ?_
      go_simp
      exact hK _ _ rfl hG (Below.refl _ _)
  · intro x gs hG hgs
    intro v0 hv0 v1 hv1 v2 hv2 v3 hv3 v4 hv4 v5 hv5 v6 hv6 v8 hv8
    replace hv0 : (Noug) v0 x := hv0
    replace hv1 : (Noug) v1 x := hv1
    replace hv2 : v2 = .tuple #[.agg (ccells Ck.Ck.zero).toArray, .int .i64 6] := hv2
    subst hv2
    replace hv3 : v3 = .tuple #[.agg (ccells Ck.Ck.zero).toArray, .int .i64 6] := hv3
    subst hv3
    replace hv4 : v4 = .agg (ccells Ck.Ck.zero).toArray := hv4
    subst hv4
    replace hv5 : v5 = .int .i64 6 := hv5
    subst hv5
    replace hv6 : v6 = .pointer (some ⟨gs.getD 0 0, 0, none⟩) := hv6
    subst hv6
    replace hv8 : v8 = .int .i64 6 := hv8
    subst hv8
    obtain ⟨gl0, gk0⟩ := hgs 0 _ rfl
    replace gl0 : (w2).heap.size ≤ gs.getD 0 0 := gl0
    replace gk0 : Blk x (gs.getD 0 0) 28 (ccells Ck.Ck.zero) := gk0
    clear hgs
    generalize gs.getD 0 0 = gv0 at *
    simp only [Act.put, List.setIfInBounds_toArray, List.set_cons_zero, List.set_cons_succ, REnd]
    try simp only [Exit.then]
    have c3 := c2.trans (hG.mono c2.size)
    have h3 := HHD.out.ext (Nat.le_refl _) hG
    have hst := run_string_of (P := Tryd.prog) h3 29 9 5 Tryd.underlying29 Tryd.underlying5 Tryd.underlying9
    have q1 : (10 : Int) ≤ c := by omega
    have q2 : 10 ≤ c := by omega
    clear gk0 gl0 hv0 hv1 h3 HHD hG
    go_wp2_with fail
    refine (some_any 5 _).mono ?_
    rintro e w5 ⟨rfl, b5⟩
    have c5 := c3.trans (b5.mono c3.size)
    go_wp2_with fail
    refine (place_any (someC 5) _ rfl rfl).mono ?_
    rintro e w6 ⟨rfl, b6⟩
    rw [show plc (someC 5) = 1 by decide]
    go_wp2
    go_ret
    exact ⟨rfl, c5.trans (b6.mono c5.size)⟩
end Go.Proofs.YtkkbmhlmgbepjaaDoor
