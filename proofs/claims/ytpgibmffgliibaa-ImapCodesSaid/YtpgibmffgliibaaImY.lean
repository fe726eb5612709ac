/-
  The walks of Put, Drop and Give, of package imap and of the document. By an AI agent.
-/
import Derived.Test.YtpgibmffgliibaaImX
namespace Go.Proofs.Ytpgibmffgliibaa
open Go.RowKit Go.ChangeShapes Go.WideShapes Go.ChangeAt
open Im (Sl)

theorem spl_one (cs : List Value) (o : Nat) (v : Value) (h : o + 1 ≤ cs.length) : cs.set o v = spl cs o [v] := by
  rw [← spl_cons cs o v [] (by simpa using h), spl_nil]
theorem spl_two (cs : List Value) (o : Nat) (u v : Value) (h : o + 2 ≤ cs.length) : (cs.set o u).set (o + 1) v = spl cs o [u, v] := by
  rw [spl_one _ _ _ (by rw [List.length_set]; omega), spl_cons cs o u [v] (by simpa using h)]
theorem mcells_drop1 (m : List Sl) (n : Nat) (h : n < m.length) : (mcells m).drop (3 * n) = scells (m.getD n Sl.zero) ++ mcells (m.drop (n + 1)) := by
  rw [mcells_drop]
  have e : m.drop n = m.getD n Sl.zero :: m.drop (n + 1) := by
    rw [List.drop_eq_getElem_cons h]
    congr 1
    simp [List.getD, h]
  rw [e, mcells_cons]
  rfl
theorem set_eq (m : List Sl) (n : Nat) (x : Sl) (h : n < m.length) : m.set n x = m.take n ++ (x :: m.drop (n + 1)) := by rw [List.set_eq_take_append_cons_drop, if_pos h]
theorem mcells_ptr (m : List Sl) (n : Nat) (a : Int) (s : Nat) (h : n < m.length) : ((mcells m).set (n * 3) (.int .i64 a)).set (n * 3 + 1) (.int .u32 (s : Int)) = mcells (m.set n ⟨a, s, (m.getD n Sl.zero).v⟩) := by
  rw [Nat.mul_comm, spl_two _ _ _ _ (by rw [mcells_len]; omega)]
  unfold spl
  have hd : (mcells m).drop (3 * n + 2) = .int .i64 (m.getD n Sl.zero).v :: mcells (m.drop (n + 1)) := by
    rw [← List.drop_drop, mcells_drop1 m n h]
    rfl
  rw [mcells_take, set_eq m n _ h, mcells_app, mcells_cons]
  show _ ++ ([_, _] ++ (mcells m).drop (3 * n + 2)) = _
  rw [hd]
  rfl
theorem mcells_ver (m : List Sl) (n : Nat) (v : Int) (h : n < m.length) : (mcells m).set (n * 3 + 2) (.int .i64 v) = mcells (m.set n ⟨(m.getD n Sl.zero).a, (m.getD n Sl.zero).s, v⟩) := by
  rw [Nat.mul_comm, spl_one _ _ _ (by rw [mcells_len]; omega)]
  unfold spl
  have hd : (mcells m).drop (3 * n + 2 + 1) = mcells (m.drop (n + 1)) := by
    rw [show 3 * n + 2 + 1 = 3 * (n + 1) by omega, mcells_drop]
  have ht : (mcells m).take (3 * n + 2) = mcells (m.take n) ++ [.int .i64 (m.getD n Sl.zero).a, .int .u32 ((m.getD n Sl.zero).s : Int)] := by
    rw [List.take_add, mcells_take, mcells_drop1 m n h]
    rfl
  rw [ht, set_eq m n _ h, mcells_app, mcells_cons]
  show _ ++ ([_] ++ (mcells m).drop (3 * n + 2 + 1)) = _
  rw [hd, List.append_assoc]
  rfl
theorem cells_atN (m : List Sl) (n : Nat) (h : n < m.length) : (mcells m)[n * 3]? = some (.int .i64 (m.getD n Sl.zero).a) ∧ (mcells m)[n * 3 + 1]? = some (.int .u32 ((m.getD n Sl.zero).s : Int)) ∧ (mcells m)[n * 3 + 2]? = some (.int .i64 (m.getD n Sl.zero).v) := by
  rw [Nat.mul_comm]; exact mcells_atD m n h
theorem zeroIM (W : World) : (zeroValue 28).run Try.prog W = .ok (.agg (mcells Im.zero).toArray) W := by kernel_rfl
theorem at_nat (m : List Sl) (n : Nat) : Im.at_ m (n : Int) = m.getD n Sl.zero := by unfold Im.at_; rw [Int.toNat_natCast]
set_option maxRecDepth 100000 in
set_option maxHeartbeats 2000000 in
theorem put_any (m : List Sl) (i : Int) (a : Int) (s : Nat) (w : World) (hm : m.length = 40) :
    Calls Try.prog 9 #[magg m, .int .i64 i, .agg #[.int .i64 a, .int .u32 (s : Int)]] w (MapR (Im.putM m i (a, s)) (Im.putE m i (a, s)) w) := by
  unfold magg
  have hzv := zeroIM
  go_enter Try.func9, Try.ntmps9
  go_upto_region 1 with (fail)
  have i0 := Blk.new w 28 (mcells m).toArray
  have c0 := (Below.refl w.heap.size w).alloc (Nat.le_refl _) (.cells (mcells m).toArray 28)
  change Blk _ _ _ (mcells m) at i0
  have hs0 : (w.alloc (.cells (mcells m).toArray 28)).heap.size = w.heap.size + 1 := World.size_alloc _ _
  generalize w.alloc (.cells (mcells m).toArray 28) = w0 at *
  obtain ⟨g0, hg0⟩ : ∃ g, g = w.heap.size := ⟨_, rfl⟩
  rw [← hg0] at i0 hs0 ⊢
  have p1 := Blk.new w0 24 #[.int .i64 a, .int .u32 (s : Int)]
  have i1 := i0.alloc (.cells #[.int .i64 a, .int .u32 (s : Int)] 24)
  have c1 := c0.alloc c0.size (.cells #[.int .i64 a, .int .u32 (s : Int)] 24)
  rw [hs0] at p1
  have hs1 : (w0.alloc (.cells #[.int .i64 a, .int .u32 (s : Int)] 24)).heap.size = g0 + 1 + 1 := by rw [World.size_alloc, hs0]
  generalize w0.alloc (.cells #[.int .i64 a, .int .u32 (s : Int)] 24) = wp at *
  clear hs0 c0 i0
  generalize hW : wp.alloc (.cells _ 28) = w1
  have kr : Blk w1 wp.heap.size 28 (mcells Im.zero) := by rw [← hW]; exact Blk.new wp _ _
  have km : Blk w1 g0 28 (mcells m) := by rw [← hW]; exact i1.alloc _
  have kp : Blk w1 (g0 + 1) 24 [.int .i64 a, .int .u32 (s : Int)] := by rw [← hW]; exact p1.alloc _
  have c2 : Below w.heap.size w w1 := by rw [← hW]; exact c1.alloc c1.size _
  rw [hs1] at kr
  rw [show g0 + 1 + 1 = g0 + 2 from rfl] at kr
  obtain ⟨gr, hgr'⟩ : ∃ g, g = g0 + 2 := ⟨_, rfl⟩
  rw [← hgr'] at kr ⊢
  have hgr : w.heap.size ≤ gr := by omega
  have hne : g0 ≠ gr := by omega
  have hg00 : w.heap.size ≤ g0 := by omega
  obtain ⟨gp, hgp'⟩ : ∃ g, g = g0 + 1 := ⟨_, rfl⟩
  rw [← hgp'] at kp ⊢
  have hnp : g0 ≠ gp := by omega
  clear hgp' p1
  clear hW i1 c1 hs1 hgr' hg0 hzv
  have hr := km.range
  go_wp2_with (refine wpList_load_at 28 (.tmp 3) rfl rfl g0 0 rfl (mcells m) _ hr Try.underlying28 rfl (infoM _ hm) ?_)
  refine (check_any m i _ hm).mono ?_
  rintro e w4 ⟨rfl, b4⟩
  have km4 := km.ext b4
  have kr4 := kr.ext b4
  have kp4 := kp.ext b4
  have c4 := c2.trans (b4.mono c2.size)
  clear hr km kr c2 b4 kp
  have km := km4
  have kr := kr4
  have kp := kp4
  clear km4 kr4 kp4
  by_cases hq : Im.wrong m i = 0
  · rw [hq]
    have HQ := Lib.hid hq
    have hwz := Im.wrong_zero hq
    obtain ⟨n, rfl⟩ := Int.eq_ofNat_of_zero_le (show 0 ≤ i by omega)
    have hn1 : 1 ≤ n := by omega
    have hn2 : n ≤ 39 := by omega
    have hca := cells_atN m n (by omega)
    have hmp := fun a s => mcells_ptr m n a s (by omega)
    have hmv := fun v => mcells_ver m n v (by omega)
    have hsm := scells_mid m n (by omega)
    have hat := at_nat m n
    have hsl := Im.sl_parts (Im.at_parts (Im.wrong_zero hq).1 hm n (by omega))
    generalize m.getD n Sl.zero = y at *
    have HCA := Lib.hid hca
    have HMP := Lib.hid hmp
    have HMV := Lib.hid hmv
    have HSM := Lib.hid hsm
    have HAT := Lib.hid hat
    have HSB := Lib.hid (And.intro hsl.2.2.2.1 hsl.2.2.2.2)
    clear hsl
    clear hq hwz hca hmp hmv hsm hat
    rw [show (((0 : Nat)) : Int) = 0 from rfl]
    have x0 := kp.cell 0
    have x1 := kp.cell 1
    simp only [List.getElem?_cons_zero, List.getElem?_cons_succ] at x0 x1
    by_cases ha : 1 ≤ a
    · go_wp2_with fail
      refine (ptr_any a s _).mono ?_
      rintro e w5 ⟨rfl, b5⟩
      have km5 := km.ext b5
      have kr5 := kr.ext b5
      have kp5 := kp.ext b5
      have c5 := c4.trans (b5.mono c4.size)
      clear x0 x1 km kr kp c4 b5
      have km := km5
      have kr := kr5
      have c4 := c5
      have x0 := kp5.cell 0
      have x1 := kp5.cell 1
      simp only [List.getElem?_cons_zero, List.getElem?_cons_succ] at x0 x1
      clear km5 kr5 kp5 c5
      cases hp : Nd.ptrB (a, s) with
      | false =>
        have HE := Lib.hid (putE_no (m := m) (i := (n : Int)) (p := (a, s)) HQ.out (fun q => by rw [hp] at q; cases q.2))
        clear hp
        have hzv := zeroIM
        go_wp2_with (refine wpList_store_mid rfl 28 (.tmp 6) (.tmp 24) rfl gr 0 (mcells Im.zero).toArray rfl rfl (kr.there 0 _ (by rw [List.size_toArray, mcells_len]; decide)) (infoM _ rfl) (all_oneCell_toArray mcells_one) ?_)
        have hz := kr.setCells (mcells Im.zero) 0 (by rw [mcells_len]; decide)
        rw [spl_all _ _ rfl] at hz
        have bz := below_setCells (o := 0) (vs := mcells Im.zero) c4 hgr
        refine bodyPost_ret (v := .tuple #[magg Im.zero, .int .i64 1]) (res_cell2 (mcells Im.zero) _ Try.results9 rfl hz.range Try.underlying28 rfl (infoM _ rfl) rfl) rfl ?_
        exact MapR.mk HE.out.2 HE.out.1 rfl bz
      | true =>
        have HE := Lib.hid (putE_yes (m := m) (i := (n : Int)) (p := (a, s)) HQ.out ha hp)
        clear hp
        have y0 := km.cell (n * 3)
        have y1 := km.cell (n * 3 + 1)
        have ca := HCA.out
        rw [ca.1] at y0
        rw [ca.2.1] at y1
        have f0 := km.frozen (n * 3)
        have f1 := km.frozen (n * 3 + 1)
        clear ca
        go_upto_region 7 with (fail)
        have k1 := (km.set_ (n * 3) (.int .i64 a)).set_ (n * 3 + 1) (.int .u32 (s : Int))
        rw [HMP.out] at k1
        have r1 := (kr.far (p := ⟨g0, n * 3, none⟩) (Ne.symm hne) (.int .i64 a)).far (p := ⟨g0, n * 3 + 1, none⟩) (Ne.symm hne) (.int .u32 (s : Int))
        have d1 := (c4.setCell (p := ⟨g0, n * 3, none⟩) hg00 (.int .i64 a)).setCell (p := ⟨g0, n * 3 + 1, none⟩) hg00 (.int .u32 (s : Int))
        generalize (w5.setCell ⟨g0, n * 3, none⟩ (.int .i64 a)).setCell ⟨g0, n * 3 + 1, none⟩ (.int .u32 (s : Int)) = w6 at *
        clear y0 y1 f0 f1 x0 x1 km kr c4
        have km := k1
        have kr := r1
        have c4 := d1
        clear k1 r1 d1
        have HX := Lib.hid (HE.out.2.trans (show m.set ((n : Int)).toNat ⟨a, s, (Im.at_ m (n : Int)).v⟩ = m.set n ⟨a, s, y.v⟩ by rw [HAT.out, Int.toNat_natCast]))
        have HXL := Lib.hid (show (m.set n ⟨a, s, y.v⟩).length = 40 by rw [List.length_set]; exact hm)
        generalize m.set n ⟨a, s, y.v⟩ = X at *
        have HIN := Lib.hid (infoM X HXL.out)
        have hr := km.range
        go_wp2_with (first | refine wpList_load_at 28 (.tmp 3) rfl rfl g0 0 rfl (mcells X) _ hr Try.underlying28 rfl HIN.out ?_ | refine wpList_store_mid rfl 28 (.tmp 6) (.tmp 29) rfl gr 0 (mcells X).toArray rfl rfl (kr.there 0 _ (by rw [List.size_toArray, mcells_len, mcells_len, HXL.out]; decide)) HIN.out (all_oneCell_toArray mcells_one) ?_)
        have hz := kr.setCells (mcells X) 0 (by rw [mcells_len, mcells_len, HXL.out]; decide)
        rw [spl_all _ _ (by rw [mcells_len, mcells_len, HXL.out]; rfl)] at hz
        have bz := below_setCells (o := 0) (vs := mcells X) c4 hgr
        refine bodyPost_ret (v := .tuple #[magg X, .int .i64 0]) (res_cell2 (mcells X) _ Try.results9 rfl hz.range Try.underlying28 rfl HIN.out rfl) rfl ?_
        exact MapR.mk HX.out HE.out.1 rfl bz
    · have HE := Lib.hid (putE_no (m := m) (i := (n : Int)) (p := (a, s)) HQ.out (fun q => ha q.1))
      have hzv := zeroIM
      go_wp2_with (refine wpList_store_mid rfl 28 (.tmp 6) (.tmp 24) rfl gr 0 (mcells Im.zero).toArray rfl rfl (kr.there 0 _ (by rw [List.size_toArray, mcells_len]; decide)) (infoM _ rfl) (all_oneCell_toArray mcells_one) ?_)
      have hz := kr.setCells (mcells Im.zero) 0 (by rw [mcells_len]; decide)
      rw [spl_all _ _ rfl] at hz
      have bz := below_setCells (o := 0) (vs := mcells Im.zero) c4 hgr
      refine bodyPost_ret (v := .tuple #[magg Im.zero, .int .i64 1]) (res_cell2 (mcells Im.zero) _ Try.results9 rfl hz.range Try.underlying28 rfl (infoM _ rfl) rfl) rfl ?_
      exact MapR.mk HE.out.2 HE.out.1 rfl bz
  · have HE := Lib.hid (putE_wrong (m := m) (i := i) (p := (a, s)) hq)
    obtain ⟨q, hq'⟩ : ∃ q, q = Im.wrong m i := ⟨_, rfl⟩
    rw [← hq'] at hq ⊢
    have HQ := Lib.hid hq'
    have hq0 : ((q : Int) != 0) = true := by rw [bne_iff_ne]; omega
    clear hq hq'
    have hzv := zeroIM
    go_wp2_with (refine wpList_store_mid rfl 28 (.tmp 6) (.tmp 14) rfl gr 0 (mcells Im.zero).toArray rfl rfl (kr.there 0 _ (by rw [List.size_toArray, mcells_len]; decide)) (infoM _ rfl) (all_oneCell_toArray mcells_one) ?_)
    have hz := kr.setCells (mcells Im.zero) 0 (by rw [mcells_len]; decide)
    rw [spl_all _ _ rfl] at hz
    have bz := below_setCells (o := 0) (vs := mcells Im.zero) c4 hgr
    refine bodyPost_ret (v := .tuple #[magg Im.zero, .int .i64 (q : Int)]) (res_cell2 (mcells Im.zero) _ Try.results9 rfl hz.range Try.underlying28 rfl (infoM _ rfl) rfl) rfl ?_
    exact MapR.mk HE.out.2 (HE.out.1.trans HQ.out.symm) rfl bz
set_option maxRecDepth 100000 in
set_option maxHeartbeats 2000000 in
theorem rput12_any (m : List Sl) (i : Int) (a : Int) (s : Nat) (w : World) (hm : m.length = 40) :
    Calls Try.prog 10 #[magg m, .int .i64 i, .agg #[.int .i64 a, .int .u32 (s : Int)]] w (MapR (Im.putM m i (a, s)) (Im.putE m i (a, s)) w) := by
  unfold magg
  have hzv := zeroIM
  go_enter Try.func10, Try.ntmps10
  go_upto_region 1 with (fail)
  have i0 := Blk.new w 28 (mcells m).toArray
  have c0 := (Below.refl w.heap.size w).alloc (Nat.le_refl _) (.cells (mcells m).toArray 28)
  change Blk _ _ _ (mcells m) at i0
  have hs0 : (w.alloc (.cells (mcells m).toArray 28)).heap.size = w.heap.size + 1 := World.size_alloc _ _
  generalize w.alloc (.cells (mcells m).toArray 28) = w0 at *
  obtain ⟨g0, hg0⟩ : ∃ g, g = w.heap.size := ⟨_, rfl⟩
  rw [← hg0] at i0 hs0 ⊢
  have p1 := Blk.new w0 24 #[.int .i64 a, .int .u32 (s : Int)]
  have i1 := i0.alloc (.cells #[.int .i64 a, .int .u32 (s : Int)] 24)
  have c1 := c0.alloc c0.size (.cells #[.int .i64 a, .int .u32 (s : Int)] 24)
  rw [hs0] at p1
  have hs1 : (w0.alloc (.cells #[.int .i64 a, .int .u32 (s : Int)] 24)).heap.size = g0 + 1 + 1 := by rw [World.size_alloc, hs0]
  generalize w0.alloc (.cells #[.int .i64 a, .int .u32 (s : Int)] 24) = wp at *
  clear hs0 c0 i0
  generalize hW : wp.alloc (.cells _ 28) = w1
  have kr : Blk w1 wp.heap.size 28 (mcells Im.zero) := by rw [← hW]; exact Blk.new wp _ _
  have km : Blk w1 g0 28 (mcells m) := by rw [← hW]; exact i1.alloc _
  have kp : Blk w1 (g0 + 1) 24 [.int .i64 a, .int .u32 (s : Int)] := by rw [← hW]; exact p1.alloc _
  have c2 : Below w.heap.size w w1 := by rw [← hW]; exact c1.alloc c1.size _
  rw [hs1] at kr
  rw [show g0 + 1 + 1 = g0 + 2 from rfl] at kr
  obtain ⟨gr, hgr'⟩ : ∃ g, g = g0 + 2 := ⟨_, rfl⟩
  rw [← hgr'] at kr ⊢
  have hgr : w.heap.size ≤ gr := by omega
  have hne : g0 ≠ gr := by omega
  have hg00 : w.heap.size ≤ g0 := by omega
  obtain ⟨gp, hgp'⟩ : ∃ g, g = g0 + 1 := ⟨_, rfl⟩
  rw [← hgp'] at kp ⊢
  have hnp : g0 ≠ gp := by omega
  clear hgp' p1
  clear hW i1 c1 hs1 hgr' hg0 hzv
  have hr := km.range
  go_wp2_with (refine wpList_load_at 28 (.tmp 3) rfl rfl g0 0 rfl (mcells m) _ hr Try.underlying28 rfl (infoM _ hm) ?_)
  refine (rwrong_any m i _ hm).mono ?_
  rintro e w4 ⟨rfl, b4⟩
  have km4 := km.ext b4
  have kr4 := kr.ext b4
  have kp4 := kp.ext b4
  have c4 := c2.trans (b4.mono c2.size)
  clear hr km kr c2 b4 kp
  have km := km4
  have kr := kr4
  have kp := kp4
  clear km4 kr4 kp4
  by_cases hq : Im.wrong m i = 0
  · rw [hq]
    have HQ := Lib.hid hq
    have hwz := Im.wrong_zero hq
    obtain ⟨n, rfl⟩ := Int.eq_ofNat_of_zero_le (show 0 ≤ i by omega)
    have hn1 : 1 ≤ n := by omega
    have hn2 : n ≤ 39 := by omega
    have hca := cells_atN m n (by omega)
    have hmp := fun a s => mcells_ptr m n a s (by omega)
    have hmv := fun v => mcells_ver m n v (by omega)
    have hsm := scells_mid m n (by omega)
    have hat := at_nat m n
    have hsl := Im.sl_parts (Im.at_parts (Im.wrong_zero hq).1 hm n (by omega))
    generalize m.getD n Sl.zero = y at *
    have HCA := Lib.hid hca
    have HMP := Lib.hid hmp
    have HMV := Lib.hid hmv
    have HSM := Lib.hid hsm
    have HAT := Lib.hid hat
    have HSB := Lib.hid (And.intro hsl.2.2.2.1 hsl.2.2.2.2)
    clear hsl
    clear hq hwz hca hmp hmv hsm hat
    rw [show (((0 : Nat)) : Int) = 0 from rfl]
    have x0 := kp.cell 0
    have x1 := kp.cell 1
    simp only [List.getElem?_cons_zero, List.getElem?_cons_succ] at x0 x1
    by_cases ha : 1 ≤ a
    · go_wp2_with fail
      refine (rptr_any a s _).mono ?_
      rintro e w5 ⟨rfl, b5⟩
      have km5 := km.ext b5
      have kr5 := kr.ext b5
      have kp5 := kp.ext b5
      have c5 := c4.trans (b5.mono c4.size)
      clear x0 x1 km kr kp c4 b5
      have km := km5
      have kr := kr5
      have c4 := c5
      have x0 := kp5.cell 0
      have x1 := kp5.cell 1
      simp only [List.getElem?_cons_zero, List.getElem?_cons_succ] at x0 x1
      clear km5 kr5 kp5 c5
      cases hp : Nd.ptrB (a, s) with
      | false =>
        have HE := Lib.hid (putE_no (m := m) (i := (n : Int)) (p := (a, s)) HQ.out (fun q => by rw [hp] at q; cases q.2))
        clear hp
        have hzv := zeroIM
        go_wp2_with (refine wpList_store_mid rfl 28 (.tmp 6) (.tmp 24) rfl gr 0 (mcells Im.zero).toArray rfl rfl (kr.there 0 _ (by rw [List.size_toArray, mcells_len]; decide)) (infoM _ rfl) (all_oneCell_toArray mcells_one) ?_)
        have hz := kr.setCells (mcells Im.zero) 0 (by rw [mcells_len]; decide)
        rw [spl_all _ _ rfl] at hz
        have bz := below_setCells (o := 0) (vs := mcells Im.zero) c4 hgr
        refine bodyPost_ret (v := .tuple #[magg Im.zero, .int .i64 1]) (res_cell2 (mcells Im.zero) _ Try.results10 rfl hz.range Try.underlying28 rfl (infoM _ rfl) rfl) rfl ?_
        exact MapR.mk HE.out.2 HE.out.1 rfl bz
      | true =>
        have HE := Lib.hid (putE_yes (m := m) (i := (n : Int)) (p := (a, s)) HQ.out ha hp)
        clear hp
        have y0 := km.cell (n * 3)
        have y1 := km.cell (n * 3 + 1)
        have ca := HCA.out
        rw [ca.1] at y0
        rw [ca.2.1] at y1
        have f0 := km.frozen (n * 3)
        have f1 := km.frozen (n * 3 + 1)
        clear ca
        go_upto_region 7 with (fail)
        have k1 := (km.set_ (n * 3) (.int .i64 a)).set_ (n * 3 + 1) (.int .u32 (s : Int))
        rw [HMP.out] at k1
        have r1 := (kr.far (p := ⟨g0, n * 3, none⟩) (Ne.symm hne) (.int .i64 a)).far (p := ⟨g0, n * 3 + 1, none⟩) (Ne.symm hne) (.int .u32 (s : Int))
        have d1 := (c4.setCell (p := ⟨g0, n * 3, none⟩) hg00 (.int .i64 a)).setCell (p := ⟨g0, n * 3 + 1, none⟩) hg00 (.int .u32 (s : Int))
        generalize (w5.setCell ⟨g0, n * 3, none⟩ (.int .i64 a)).setCell ⟨g0, n * 3 + 1, none⟩ (.int .u32 (s : Int)) = w6 at *
        clear y0 y1 f0 f1 x0 x1 km kr c4
        have km := k1
        have kr := r1
        have c4 := d1
        clear k1 r1 d1
        have HX := Lib.hid (HE.out.2.trans (show m.set ((n : Int)).toNat ⟨a, s, (Im.at_ m (n : Int)).v⟩ = m.set n ⟨a, s, y.v⟩ by rw [HAT.out, Int.toNat_natCast]))
        have HXL := Lib.hid (show (m.set n ⟨a, s, y.v⟩).length = 40 by rw [List.length_set]; exact hm)
        generalize m.set n ⟨a, s, y.v⟩ = X at *
        have HIN := Lib.hid (infoM X HXL.out)
        have hr := km.range
        go_wp2_with (first | refine wpList_load_at 28 (.tmp 3) rfl rfl g0 0 rfl (mcells X) _ hr Try.underlying28 rfl HIN.out ?_ | refine wpList_store_mid rfl 28 (.tmp 6) (.tmp 29) rfl gr 0 (mcells X).toArray rfl rfl (kr.there 0 _ (by rw [List.size_toArray, mcells_len, mcells_len, HXL.out]; decide)) HIN.out (all_oneCell_toArray mcells_one) ?_)
        have hz := kr.setCells (mcells X) 0 (by rw [mcells_len, mcells_len, HXL.out]; decide)
        rw [spl_all _ _ (by rw [mcells_len, mcells_len, HXL.out]; rfl)] at hz
        have bz := below_setCells (o := 0) (vs := mcells X) c4 hgr
        refine bodyPost_ret (v := .tuple #[magg X, .int .i64 0]) (res_cell2 (mcells X) _ Try.results10 rfl hz.range Try.underlying28 rfl HIN.out rfl) rfl ?_
        exact MapR.mk HX.out HE.out.1 rfl bz
    · have HE := Lib.hid (putE_no (m := m) (i := (n : Int)) (p := (a, s)) HQ.out (fun q => ha q.1))
      have hzv := zeroIM
      go_wp2_with (refine wpList_store_mid rfl 28 (.tmp 6) (.tmp 24) rfl gr 0 (mcells Im.zero).toArray rfl rfl (kr.there 0 _ (by rw [List.size_toArray, mcells_len]; decide)) (infoM _ rfl) (all_oneCell_toArray mcells_one) ?_)
      have hz := kr.setCells (mcells Im.zero) 0 (by rw [mcells_len]; decide)
      rw [spl_all _ _ rfl] at hz
      have bz := below_setCells (o := 0) (vs := mcells Im.zero) c4 hgr
      refine bodyPost_ret (v := .tuple #[magg Im.zero, .int .i64 1]) (res_cell2 (mcells Im.zero) _ Try.results10 rfl hz.range Try.underlying28 rfl (infoM _ rfl) rfl) rfl ?_
      exact MapR.mk HE.out.2 HE.out.1 rfl bz
  · have HE := Lib.hid (putE_wrong (m := m) (i := i) (p := (a, s)) hq)
    obtain ⟨q, hq'⟩ : ∃ q, q = Im.wrong m i := ⟨_, rfl⟩
    rw [← hq'] at hq ⊢
    have HQ := Lib.hid hq'
    have hq0 : ((q : Int) != 0) = true := by rw [bne_iff_ne]; omega
    clear hq hq'
    have hzv := zeroIM
    go_wp2_with (refine wpList_store_mid rfl 28 (.tmp 6) (.tmp 14) rfl gr 0 (mcells Im.zero).toArray rfl rfl (kr.there 0 _ (by rw [List.size_toArray, mcells_len]; decide)) (infoM _ rfl) (all_oneCell_toArray mcells_one) ?_)
    have hz := kr.setCells (mcells Im.zero) 0 (by rw [mcells_len]; decide)
    rw [spl_all _ _ rfl] at hz
    have bz := below_setCells (o := 0) (vs := mcells Im.zero) c4 hgr
    refine bodyPost_ret (v := .tuple #[magg Im.zero, .int .i64 (q : Int)]) (res_cell2 (mcells Im.zero) _ Try.results10 rfl hz.range Try.underlying28 rfl (infoM _ rfl) rfl) rfl ?_
    exact MapR.mk HE.out.2 (HE.out.1.trans HQ.out.symm) rfl bz
set_option maxRecDepth 100000 in
set_option maxHeartbeats 2000000 in
theorem drop_any (m : List Sl) (i : Int) (w : World) (hm : m.length = 40) :
    Calls Try.prog 11 #[magg m, .int .i64 i] w (MapR (Im.dropM m i ) (Im.dropE m i ) w) := by
  unfold magg
  have hzv := zeroIM
  go_enter Try.func11, Try.ntmps11
  go_upto_region 1 with (fail)
  have i0 := Blk.new w 28 (mcells m).toArray
  have c0 := (Below.refl w.heap.size w).alloc (Nat.le_refl _) (.cells (mcells m).toArray 28)
  change Blk _ _ _ (mcells m) at i0
  have hs0 : (w.alloc (.cells (mcells m).toArray 28)).heap.size = w.heap.size + 1 := World.size_alloc _ _
  generalize w.alloc (.cells (mcells m).toArray 28) = w0 at *
  obtain ⟨g0, hg0⟩ : ∃ g, g = w.heap.size := ⟨_, rfl⟩
  rw [← hg0] at i0 hs0 ⊢
  have i1 := i0
  have c1 := c0
  obtain ⟨wp, hwp⟩ : ∃ wp, wp = w0 := ⟨_, rfl⟩
  rw [← hwp] at i1 c1 hs0 ⊢
  have hs1 := hs0
  clear hs0 c0 i0 hwp
  generalize hW : wp.alloc (.cells _ 28) = w1
  have kr : Blk w1 wp.heap.size 28 (mcells Im.zero) := by rw [← hW]; exact Blk.new wp _ _
  have km : Blk w1 g0 28 (mcells m) := by rw [← hW]; exact i1.alloc _
  have c2 : Below w.heap.size w w1 := by rw [← hW]; exact c1.alloc c1.size _
  rw [hs1] at kr
  obtain ⟨gr, hgr'⟩ : ∃ g, g = g0 + 1 := ⟨_, rfl⟩
  rw [← hgr'] at kr ⊢
  have hgr : w.heap.size ≤ gr := by omega
  have hne : g0 ≠ gr := by omega
  have hg00 : w.heap.size ≤ g0 := by omega
  clear hW i1 c1 hs1 hgr' hg0 hzv
  have hr := km.range
  go_wp2_with (refine wpList_load_at 28 (.tmp 2) rfl rfl g0 0 rfl (mcells m) _ hr Try.underlying28 rfl (infoM _ hm) ?_)
  refine (check_any m i _ hm).mono ?_
  rintro e w4 ⟨rfl, b4⟩
  have km4 := km.ext b4
  have kr4 := kr.ext b4
  have c4 := c2.trans (b4.mono c2.size)
  clear hr km kr c2 b4
  have km := km4
  have kr := kr4
  clear km4 kr4
  by_cases hq : Im.wrong m i = 0
  · rw [hq]
    have HQ := Lib.hid hq
    have hwz := Im.wrong_zero hq
    obtain ⟨n, rfl⟩ := Int.eq_ofNat_of_zero_le (show 0 ≤ i by omega)
    have hn1 : 1 ≤ n := by omega
    have hn2 : n ≤ 39 := by omega
    have hca := cells_atN m n (by omega)
    have hmp := fun a s => mcells_ptr m n a s (by omega)
    have hmv := fun v => mcells_ver m n v (by omega)
    have hsm := scells_mid m n (by omega)
    have hat := at_nat m n
    have hsl := Im.sl_parts (Im.at_parts (Im.wrong_zero hq).1 hm n (by omega))
    generalize m.getD n Sl.zero = y at *
    have HCA := Lib.hid hca
    have HMP := Lib.hid hmp
    have HMV := Lib.hid hmv
    have HSM := Lib.hid hsm
    have HAT := Lib.hid hat
    have HSB := Lib.hid (And.intro hsl.2.2.2.1 hsl.2.2.2.2)
    clear hsl
    clear hq hwz hca hmp hmv hsm hat
    rw [show (((0 : Nat)) : Int) = 0 from rfl]
    have y0 := km.cell (n * 3)
    have y1 := km.cell (n * 3 + 1)
    have y2 := km.cell (n * 3 + 2)
    have ca := HCA.out
    rw [ca.1] at y0
    rw [ca.2.1] at y1
    rw [ca.2.2] at y2
    have f0 := km.frozen (n * 3)
    have f1 := km.frozen (n * 3 + 1)
    clear ca
    have hr := km.rangeMid (n * 3) (scells y) (by rw [HSM.out, Nat.mul_comm, List.length_take, List.length_drop, mcells_len, hm]; congr 1; omega)
    go_wp2_with (refine wpList_load_at 26 (.tmp 15) rfl rfl g0 (n * 3) rfl (scells y) _ hr Try.underlying26 rfl (infoS _) ?_)
    refine (exists_any y _).mono ?_
    rintro e w5 ⟨rfl, b5⟩
    have km5 := km.ext b5
    have kr5 := kr.ext b5
    have c5 := c4.trans (b5.mono c4.size)
    clear hr y0 y1 y2 f0 f1 km kr c4 b5
    have km := km5
    have kr := kr5
    have c4 := c5
    clear km5 kr5 c5
    have y0 := km.cell (n * 3)
    have y1 := km.cell (n * 3 + 1)
    have y2 := km.cell (n * 3 + 2)
    have ca := HCA.out
    rw [ca.1] at y0
    rw [ca.2.1] at y1
    rw [ca.2.2] at y2
    have f0 := km.frozen (n * 3)
    have f1 := km.frozen (n * 3 + 1)
    clear ca
    by_cases ha : 0 < y.a
    · have HE := Lib.hid (dropE_yes (m := m) (i := (n : Int)) HQ.out (by rw [HAT.out]; exact ha))
      rw [decide_eq_true ha]
      go_upto_region 7 with (fail)
      have k1 := (km.set_ (n * 3) (.int .i64 0)).set_ (n * 3 + 1) (.int .u32 ((0 : Nat) : Int))
      rw [HMP.out] at k1
      have r1 := (kr.far (p := ⟨g0, n * 3, none⟩) (Ne.symm hne) (.int .i64 0)).far (p := ⟨g0, n * 3 + 1, none⟩) (Ne.symm hne) (.int .u32 ((0 : Nat) : Int))
      have d1 := (c4.setCell (p := ⟨g0, n * 3, none⟩) hg00 (.int .i64 0)).setCell (p := ⟨g0, n * 3 + 1, none⟩) hg00 (.int .u32 ((0 : Nat) : Int))
      rw [show (((0 : Nat)) : Int) = 0 from rfl] at k1 r1 d1
      generalize (World.setCell _ ⟨g0, n * 3, none⟩ (.int .i64 0)).setCell ⟨g0, n * 3 + 1, none⟩ (.int .u32 0) = w6 at *
      clear y0 y1 y2 f0 f1 km kr c4
      have km := k1
      have kr := r1
      have c4 := d1
      clear k1 r1 d1
      have HX := Lib.hid (HE.out.2.trans (show m.set ((n : Int)).toNat ⟨0, 0, (Im.at_ m (n : Int)).v⟩ = m.set n ⟨0, 0, y.v⟩ by rw [HAT.out, Int.toNat_natCast]))
      have HXL := Lib.hid (show (m.set n ⟨0, 0, y.v⟩).length = 40 by rw [List.length_set]; exact hm)
      generalize m.set n ⟨0, 0, y.v⟩ = X at *
      have HIN := Lib.hid (infoM X HXL.out)
      have hr := km.range
      go_wp2_with (first | refine wpList_load_at 28 (.tmp 2) rfl rfl g0 0 rfl (mcells X) _ hr Try.underlying28 rfl HIN.out ?_ | refine wpList_store_mid rfl 28 (.tmp 4) (.tmp 24) rfl gr 0 (mcells X).toArray rfl rfl (kr.there 0 _ (by rw [List.size_toArray, mcells_len, mcells_len, HXL.out]; decide)) HIN.out (all_oneCell_toArray mcells_one) ?_)
      have hz := kr.setCells (mcells X) 0 (by rw [mcells_len, mcells_len, HXL.out]; decide)
      rw [spl_all _ _ (by rw [mcells_len, mcells_len, HXL.out]; rfl)] at hz
      have bz := below_setCells (o := 0) (vs := mcells X) c4 hgr
      refine bodyPost_ret (v := .tuple #[magg X, .int .i64 0]) (res_cell2 (mcells X) _ Try.results11 rfl hz.range Try.underlying28 rfl HIN.out rfl) rfl ?_
      exact MapR.mk HX.out HE.out.1 rfl bz
    · have HE := Lib.hid (dropE_no (m := m) (i := (n : Int)) HQ.out (by rw [HAT.out]; exact ha))
      rw [decide_eq_false ha]
      have hzv := zeroIM
      go_wp2_with (refine wpList_store_mid rfl 28 (.tmp 4) (.tmp 19) rfl gr 0 (mcells Im.zero).toArray rfl rfl (kr.there 0 _ (by rw [List.size_toArray, mcells_len]; decide)) (infoM _ rfl) (all_oneCell_toArray mcells_one) ?_)
      have hz := kr.setCells (mcells Im.zero) 0 (by rw [mcells_len]; decide)
      rw [spl_all _ _ rfl] at hz
      have bz := below_setCells (o := 0) (vs := mcells Im.zero) c4 hgr
      refine bodyPost_ret (v := .tuple #[magg Im.zero, .int .i64 6]) (res_cell2 (mcells Im.zero) _ Try.results11 rfl hz.range Try.underlying28 rfl (infoM _ rfl) rfl) rfl ?_
      exact MapR.mk HE.out.2 HE.out.1 rfl bz
  · have HE := Lib.hid (dropE_wrong (m := m) (i := i) hq)
    obtain ⟨q, hq'⟩ : ∃ q, q = Im.wrong m i := ⟨_, rfl⟩
    rw [← hq'] at hq ⊢
    have HQ := Lib.hid hq'
    have hq0 : ((q : Int) != 0) = true := by rw [bne_iff_ne]; omega
    clear hq hq'
    have hzv := zeroIM
    go_wp2_with (refine wpList_store_mid rfl 28 (.tmp 4) (.tmp 12) rfl gr 0 (mcells Im.zero).toArray rfl rfl (kr.there 0 _ (by rw [List.size_toArray, mcells_len]; decide)) (infoM _ rfl) (all_oneCell_toArray mcells_one) ?_)
    have hz := kr.setCells (mcells Im.zero) 0 (by rw [mcells_len]; decide)
    rw [spl_all _ _ rfl] at hz
    have bz := below_setCells (o := 0) (vs := mcells Im.zero) c4 hgr
    refine bodyPost_ret (v := .tuple #[magg Im.zero, .int .i64 (q : Int)]) (res_cell2 (mcells Im.zero) _ Try.results11 rfl hz.range Try.underlying28 rfl (infoM _ rfl) rfl) rfl ?_
    exact MapR.mk HE.out.2 (HE.out.1.trans HQ.out.symm) rfl bz
set_option maxRecDepth 100000 in
set_option maxHeartbeats 2000000 in
theorem rdrop_any (m : List Sl) (i : Int) (w : World) (hm : m.length = 40) :
    Calls Try.prog 12 #[magg m, .int .i64 i] w (MapR (Im.dropM m i ) (Im.dropE m i ) w) := by
  unfold magg
  have hzv := zeroIM
  go_enter Try.func12, Try.ntmps12
  go_upto_region 1 with (fail)
  have i0 := Blk.new w 28 (mcells m).toArray
  have c0 := (Below.refl w.heap.size w).alloc (Nat.le_refl _) (.cells (mcells m).toArray 28)
  change Blk _ _ _ (mcells m) at i0
  have hs0 : (w.alloc (.cells (mcells m).toArray 28)).heap.size = w.heap.size + 1 := World.size_alloc _ _
  generalize w.alloc (.cells (mcells m).toArray 28) = w0 at *
  obtain ⟨g0, hg0⟩ : ∃ g, g = w.heap.size := ⟨_, rfl⟩
  rw [← hg0] at i0 hs0 ⊢
  have i1 := i0
  have c1 := c0
  obtain ⟨wp, hwp⟩ : ∃ wp, wp = w0 := ⟨_, rfl⟩
  rw [← hwp] at i1 c1 hs0 ⊢
  have hs1 := hs0
  clear hs0 c0 i0 hwp
  generalize hW : wp.alloc (.cells _ 28) = w1
  have kr : Blk w1 wp.heap.size 28 (mcells Im.zero) := by rw [← hW]; exact Blk.new wp _ _
  have km : Blk w1 g0 28 (mcells m) := by rw [← hW]; exact i1.alloc _
  have c2 : Below w.heap.size w w1 := by rw [← hW]; exact c1.alloc c1.size _
  rw [hs1] at kr
  obtain ⟨gr, hgr'⟩ : ∃ g, g = g0 + 1 := ⟨_, rfl⟩
  rw [← hgr'] at kr ⊢
  have hgr : w.heap.size ≤ gr := by omega
  have hne : g0 ≠ gr := by omega
  have hg00 : w.heap.size ≤ g0 := by omega
  clear hW i1 c1 hs1 hgr' hg0 hzv
  have hr := km.range
  go_wp2_with (refine wpList_load_at 28 (.tmp 2) rfl rfl g0 0 rfl (mcells m) _ hr Try.underlying28 rfl (infoM _ hm) ?_)
  refine (rwrong_any m i _ hm).mono ?_
  rintro e w4 ⟨rfl, b4⟩
  have km4 := km.ext b4
  have kr4 := kr.ext b4
  have c4 := c2.trans (b4.mono c2.size)
  clear hr km kr c2 b4
  have km := km4
  have kr := kr4
  clear km4 kr4
  by_cases hq : Im.wrong m i = 0
  · rw [hq]
    have HQ := Lib.hid hq
    have hwz := Im.wrong_zero hq
    obtain ⟨n, rfl⟩ := Int.eq_ofNat_of_zero_le (show 0 ≤ i by omega)
    have hn1 : 1 ≤ n := by omega
    have hn2 : n ≤ 39 := by omega
    have hca := cells_atN m n (by omega)
    have hmp := fun a s => mcells_ptr m n a s (by omega)
    have hmv := fun v => mcells_ver m n v (by omega)
    have hsm := scells_mid m n (by omega)
    have hat := at_nat m n
    have hsl := Im.sl_parts (Im.at_parts (Im.wrong_zero hq).1 hm n (by omega))
    generalize m.getD n Sl.zero = y at *
    have HCA := Lib.hid hca
    have HMP := Lib.hid hmp
    have HMV := Lib.hid hmv
    have HSM := Lib.hid hsm
    have HAT := Lib.hid hat
    have HSB := Lib.hid (And.intro hsl.2.2.2.1 hsl.2.2.2.2)
    clear hsl
    clear hq hwz hca hmp hmv hsm hat
    rw [show (((0 : Nat)) : Int) = 0 from rfl]
    have y0 := km.cell (n * 3)
    have y1 := km.cell (n * 3 + 1)
    have y2 := km.cell (n * 3 + 2)
    have ca := HCA.out
    rw [ca.1] at y0
    rw [ca.2.1] at y1
    rw [ca.2.2] at y2
    have f0 := km.frozen (n * 3)
    have f1 := km.frozen (n * 3 + 1)
    clear ca
    by_cases ha : 0 < y.a
    · have HE := Lib.hid (dropE_yes (m := m) (i := (n : Int)) HQ.out (by rw [HAT.out]; exact ha))
      have ha1 : 1 ≤ y.a := by omega
      go_upto_region 7 with (fail)
      have k1 := (km.set_ (n * 3) (.int .i64 0)).set_ (n * 3 + 1) (.int .u32 ((0 : Nat) : Int))
      rw [HMP.out] at k1
      have r1 := (kr.far (p := ⟨g0, n * 3, none⟩) (Ne.symm hne) (.int .i64 0)).far (p := ⟨g0, n * 3 + 1, none⟩) (Ne.symm hne) (.int .u32 ((0 : Nat) : Int))
      have d1 := (c4.setCell (p := ⟨g0, n * 3, none⟩) hg00 (.int .i64 0)).setCell (p := ⟨g0, n * 3 + 1, none⟩) hg00 (.int .u32 ((0 : Nat) : Int))
      rw [show (((0 : Nat)) : Int) = 0 from rfl] at k1 r1 d1
      generalize (World.setCell _ ⟨g0, n * 3, none⟩ (.int .i64 0)).setCell ⟨g0, n * 3 + 1, none⟩ (.int .u32 0) = w6 at *
      clear y0 y1 y2 f0 f1 km kr c4
      have km := k1
      have kr := r1
      have c4 := d1
      clear k1 r1 d1
      have HX := Lib.hid (HE.out.2.trans (show m.set ((n : Int)).toNat ⟨0, 0, (Im.at_ m (n : Int)).v⟩ = m.set n ⟨0, 0, y.v⟩ by rw [HAT.out, Int.toNat_natCast]))
      have HXL := Lib.hid (show (m.set n ⟨0, 0, y.v⟩).length = 40 by rw [List.length_set]; exact hm)
      generalize m.set n ⟨0, 0, y.v⟩ = X at *
      have HIN := Lib.hid (infoM X HXL.out)
      have hr := km.range
      go_wp2_with (first | refine wpList_load_at 28 (.tmp 2) rfl rfl g0 0 rfl (mcells X) _ hr Try.underlying28 rfl HIN.out ?_ | refine wpList_store_mid rfl 28 (.tmp 4) (.tmp 25) rfl gr 0 (mcells X).toArray rfl rfl (kr.there 0 _ (by rw [List.size_toArray, mcells_len, mcells_len, HXL.out]; decide)) HIN.out (all_oneCell_toArray mcells_one) ?_)
      have hz := kr.setCells (mcells X) 0 (by rw [mcells_len, mcells_len, HXL.out]; decide)
      rw [spl_all _ _ (by rw [mcells_len, mcells_len, HXL.out]; rfl)] at hz
      have bz := below_setCells (o := 0) (vs := mcells X) c4 hgr
      refine bodyPost_ret (v := .tuple #[magg X, .int .i64 0]) (res_cell2 (mcells X) _ Try.results12 rfl hz.range Try.underlying28 rfl HIN.out rfl) rfl ?_
      exact MapR.mk HX.out HE.out.1 rfl bz
    · have HE := Lib.hid (dropE_no (m := m) (i := (n : Int)) HQ.out (by rw [HAT.out]; exact ha))
      have ha1 : y.a < 1 := by omega
      have hzv := zeroIM
      go_wp2_with (refine wpList_store_mid rfl 28 (.tmp 4) (.tmp 20) rfl gr 0 (mcells Im.zero).toArray rfl rfl (kr.there 0 _ (by rw [List.size_toArray, mcells_len]; decide)) (infoM _ rfl) (all_oneCell_toArray mcells_one) ?_)
      have hz := kr.setCells (mcells Im.zero) 0 (by rw [mcells_len]; decide)
      rw [spl_all _ _ rfl] at hz
      have bz := below_setCells (o := 0) (vs := mcells Im.zero) c4 hgr
      refine bodyPost_ret (v := .tuple #[magg Im.zero, .int .i64 6]) (res_cell2 (mcells Im.zero) _ Try.results12 rfl hz.range Try.underlying28 rfl (infoM _ rfl) rfl) rfl ?_
      exact MapR.mk HE.out.2 HE.out.1 rfl bz
  · have HE := Lib.hid (dropE_wrong (m := m) (i := i) hq)
    obtain ⟨q, hq'⟩ : ∃ q, q = Im.wrong m i := ⟨_, rfl⟩
    rw [← hq'] at hq ⊢
    have HQ := Lib.hid hq'
    have hq0 : ((q : Int) != 0) = true := by rw [bne_iff_ne]; omega
    clear hq hq'
    have hzv := zeroIM
    go_wp2_with (refine wpList_store_mid rfl 28 (.tmp 4) (.tmp 12) rfl gr 0 (mcells Im.zero).toArray rfl rfl (kr.there 0 _ (by rw [List.size_toArray, mcells_len]; decide)) (infoM _ rfl) (all_oneCell_toArray mcells_one) ?_)
    have hz := kr.setCells (mcells Im.zero) 0 (by rw [mcells_len]; decide)
    rw [spl_all _ _ rfl] at hz
    have bz := below_setCells (o := 0) (vs := mcells Im.zero) c4 hgr
    refine bodyPost_ret (v := .tuple #[magg Im.zero, .int .i64 (q : Int)]) (res_cell2 (mcells Im.zero) _ Try.results12 rfl hz.range Try.underlying28 rfl (infoM _ rfl) rfl) rfl ?_
    exact MapR.mk HE.out.2 (HE.out.1.trans HQ.out.symm) rfl bz
set_option maxRecDepth 100000 in
set_option maxHeartbeats 2000000 in
theorem give_any (m : List Sl) (i : Int) (w : World) (hm : m.length = 40) :
    Calls Try.prog 13 #[magg m, .int .i64 i] w (MapR (Im.giveM m i ) (Im.giveE m i ) w) := by
  unfold magg
  have hzv := zeroIM
  go_enter Try.func13, Try.ntmps13
  go_upto_region 1 with (fail)
  have i0 := Blk.new w 28 (mcells m).toArray
  have c0 := (Below.refl w.heap.size w).alloc (Nat.le_refl _) (.cells (mcells m).toArray 28)
  change Blk _ _ _ (mcells m) at i0
  have hs0 : (w.alloc (.cells (mcells m).toArray 28)).heap.size = w.heap.size + 1 := World.size_alloc _ _
  generalize w.alloc (.cells (mcells m).toArray 28) = w0 at *
  obtain ⟨g0, hg0⟩ : ∃ g, g = w.heap.size := ⟨_, rfl⟩
  rw [← hg0] at i0 hs0 ⊢
  have i1 := i0
  have c1 := c0
  obtain ⟨wp, hwp⟩ : ∃ wp, wp = w0 := ⟨_, rfl⟩
  rw [← hwp] at i1 c1 hs0 ⊢
  have hs1 := hs0
  clear hs0 c0 i0 hwp
  generalize hW : wp.alloc (.cells _ 28) = w1
  have kr : Blk w1 wp.heap.size 28 (mcells Im.zero) := by rw [← hW]; exact Blk.new wp _ _
  have km : Blk w1 g0 28 (mcells m) := by rw [← hW]; exact i1.alloc _
  have c2 : Below w.heap.size w w1 := by rw [← hW]; exact c1.alloc c1.size _
  rw [hs1] at kr
  obtain ⟨gr, hgr'⟩ : ∃ g, g = g0 + 1 := ⟨_, rfl⟩
  rw [← hgr'] at kr ⊢
  have hgr : w.heap.size ≤ gr := by omega
  have hne : g0 ≠ gr := by omega
  have hg00 : w.heap.size ≤ g0 := by omega
  clear hW i1 c1 hs1 hgr' hg0 hzv
  have hr := km.range
  go_wp2_with (refine wpList_load_at 28 (.tmp 2) rfl rfl g0 0 rfl (mcells m) _ hr Try.underlying28 rfl (infoM _ hm) ?_)
  refine (check_any m i _ hm).mono ?_
  rintro e w4 ⟨rfl, b4⟩
  have km4 := km.ext b4
  have kr4 := kr.ext b4
  have c4 := c2.trans (b4.mono c2.size)
  clear hr km kr c2 b4
  have km := km4
  have kr := kr4
  clear km4 kr4
  by_cases hq : Im.wrong m i = 0
  · rw [hq]
    have HQ := Lib.hid hq
    have hwz := Im.wrong_zero hq
    obtain ⟨n, rfl⟩ := Int.eq_ofNat_of_zero_le (show 0 ≤ i by omega)
    have hn1 : 1 ≤ n := by omega
    have hn2 : n ≤ 39 := by omega
    have hca := cells_atN m n (by omega)
    have hmp := fun a s => mcells_ptr m n a s (by omega)
    have hmv := fun v => mcells_ver m n v (by omega)
    have hsm := scells_mid m n (by omega)
    have hat := at_nat m n
    have hsl := Im.sl_parts (Im.at_parts (Im.wrong_zero hq).1 hm n (by omega))
    generalize m.getD n Sl.zero = y at *
    have HCA := Lib.hid hca
    have HMP := Lib.hid hmp
    have HMV := Lib.hid hmv
    have HSM := Lib.hid hsm
    have HAT := Lib.hid hat
    have HSB := Lib.hid (And.intro hsl.2.2.2.1 hsl.2.2.2.2)
    clear hsl
    clear hq hwz hca hmp hmv hsm hat
    rw [show (((0 : Nat)) : Int) = 0 from rfl]
    have y2 := km.cell (n * 3 + 2)
    have ca := HCA.out
    rw [ca.2.2] at y2
    have f2 := km.frozen (n * 3 + 2)
    clear ca
    have hv0 := HSB.out.1
    have hv1 := HSB.out.2
    by_cases ha : y.v = 2147483647
    · have HE := Lib.hid (giveE_no (m := m) (i := (n : Int)) HQ.out (by rw [HAT.out]; exact ha))
      have ha1 : (y.v == 2147483647) = true := by rw [beq_iff_eq]; exact ha
      clear ha
      have hzv := zeroIM
      go_wp2_with (refine wpList_store_mid rfl 28 (.tmp 4) (.tmp 19) rfl gr 0 (mcells Im.zero).toArray rfl rfl (kr.there 0 _ (by rw [List.size_toArray, mcells_len]; decide)) (infoM _ rfl) (all_oneCell_toArray mcells_one) ?_)
      have hz := kr.setCells (mcells Im.zero) 0 (by rw [mcells_len]; decide)
      rw [spl_all _ _ rfl] at hz
      have bz := below_setCells (o := 0) (vs := mcells Im.zero) c4 hgr
      refine bodyPost_ret (v := .tuple #[magg Im.zero, .int .i64 19]) (res_cell2 (mcells Im.zero) _ Try.results13 rfl hz.range Try.underlying28 rfl (infoM _ rfl) rfl) rfl ?_
      exact MapR.mk HE.out.2 HE.out.1 rfl bz
    · have HE := Lib.hid (giveE_yes (m := m) (i := (n : Int)) HQ.out (by rw [HAT.out]; exact ha))
      have ha1 : (y.v == 2147483647) = false := by rw [beq_eq_false_iff_ne]; exact ha
      clear ha
      go_upto_region 7 with (fail)
      have k1 := km.set_ (n * 3 + 2) (.int .i64 (y.v + 1))
      rw [HMV.out] at k1
      have r1 := kr.far (p := ⟨g0, n * 3 + 2, none⟩) (Ne.symm hne) (.int .i64 (y.v + 1))
      have d1 := c4.setCell (p := ⟨g0, n * 3 + 2, none⟩) hg00 (.int .i64 (y.v + 1))
      generalize w4.setCell ⟨g0, n * 3 + 2, none⟩ (.int .i64 (y.v + 1)) = w6 at *
      clear y2 f2 km kr c4
      have km := k1
      have kr := r1
      have c4 := d1
      clear k1 r1 d1
      have HX := Lib.hid (HE.out.2.trans (show m.set ((n : Int)).toNat ⟨(Im.at_ m (n : Int)).a, (Im.at_ m (n : Int)).s, (Im.at_ m (n : Int)).v + 1⟩ = m.set n ⟨y.a, y.s, y.v + 1⟩ by rw [HAT.out, Int.toNat_natCast]))
      have HXL := Lib.hid (show (m.set n ⟨y.a, y.s, y.v + 1⟩).length = 40 by rw [List.length_set]; exact hm)
      generalize m.set n ⟨y.a, y.s, y.v + 1⟩ = X at *
      have HIN := Lib.hid (infoM X HXL.out)
      have hr := km.range
      go_wp2_with (first | refine wpList_load_at 28 (.tmp 2) rfl rfl g0 0 rfl (mcells X) _ hr Try.underlying28 rfl HIN.out ?_ | refine wpList_store_mid rfl 28 (.tmp 4) (.tmp 27) rfl gr 0 (mcells X).toArray rfl rfl (kr.there 0 _ (by rw [List.size_toArray, mcells_len, mcells_len, HXL.out]; decide)) HIN.out (all_oneCell_toArray mcells_one) ?_)
      have hz := kr.setCells (mcells X) 0 (by rw [mcells_len, mcells_len, HXL.out]; decide)
      rw [spl_all _ _ (by rw [mcells_len, mcells_len, HXL.out]; rfl)] at hz
      have bz := below_setCells (o := 0) (vs := mcells X) c4 hgr
      refine bodyPost_ret (v := .tuple #[magg X, .int .i64 0]) (res_cell2 (mcells X) _ Try.results13 rfl hz.range Try.underlying28 rfl HIN.out rfl) rfl ?_
      exact MapR.mk HX.out HE.out.1 rfl bz
  · have HE := Lib.hid (giveE_wrong (m := m) (i := i) hq)
    obtain ⟨q, hq'⟩ : ∃ q, q = Im.wrong m i := ⟨_, rfl⟩
    rw [← hq'] at hq ⊢
    have HQ := Lib.hid hq'
    have hq0 : ((q : Int) != 0) = true := by rw [bne_iff_ne]; omega
    clear hq hq'
    have hzv := zeroIM
    go_wp2_with (refine wpList_store_mid rfl 28 (.tmp 4) (.tmp 12) rfl gr 0 (mcells Im.zero).toArray rfl rfl (kr.there 0 _ (by rw [List.size_toArray, mcells_len]; decide)) (infoM _ rfl) (all_oneCell_toArray mcells_one) ?_)
    have hz := kr.setCells (mcells Im.zero) 0 (by rw [mcells_len]; decide)
    rw [spl_all _ _ rfl] at hz
    have bz := below_setCells (o := 0) (vs := mcells Im.zero) c4 hgr
    refine bodyPost_ret (v := .tuple #[magg Im.zero, .int .i64 (q : Int)]) (res_cell2 (mcells Im.zero) _ Try.results13 rfl hz.range Try.underlying28 rfl (infoM _ rfl) rfl) rfl ?_
    exact MapR.mk HE.out.2 (HE.out.1.trans HQ.out.symm) rfl bz
set_option maxRecDepth 100000 in
set_option maxHeartbeats 2000000 in
theorem rgive_any (m : List Sl) (i : Int) (w : World) (hm : m.length = 40) :
    Calls Try.prog 14 #[magg m, .int .i64 i] w (MapR (Im.giveM m i ) (Im.giveE m i ) w) := by
  unfold magg
  have hzv := zeroIM
  go_enter Try.func14, Try.ntmps14
  go_upto_region 1 with (fail)
  have i0 := Blk.new w 28 (mcells m).toArray
  have c0 := (Below.refl w.heap.size w).alloc (Nat.le_refl _) (.cells (mcells m).toArray 28)
  change Blk _ _ _ (mcells m) at i0
  have hs0 : (w.alloc (.cells (mcells m).toArray 28)).heap.size = w.heap.size + 1 := World.size_alloc _ _
  generalize w.alloc (.cells (mcells m).toArray 28) = w0 at *
  obtain ⟨g0, hg0⟩ : ∃ g, g = w.heap.size := ⟨_, rfl⟩
  rw [← hg0] at i0 hs0 ⊢
  have i1 := i0
  have c1 := c0
  obtain ⟨wp, hwp⟩ : ∃ wp, wp = w0 := ⟨_, rfl⟩
  rw [← hwp] at i1 c1 hs0 ⊢
  have hs1 := hs0
  clear hs0 c0 i0 hwp
  generalize hW : wp.alloc (.cells _ 28) = w1
  have kr : Blk w1 wp.heap.size 28 (mcells Im.zero) := by rw [← hW]; exact Blk.new wp _ _
  have km : Blk w1 g0 28 (mcells m) := by rw [← hW]; exact i1.alloc _
  have c2 : Below w.heap.size w w1 := by rw [← hW]; exact c1.alloc c1.size _
  rw [hs1] at kr
  obtain ⟨gr, hgr'⟩ : ∃ g, g = g0 + 1 := ⟨_, rfl⟩
  rw [← hgr'] at kr ⊢
  have hgr : w.heap.size ≤ gr := by omega
  have hne : g0 ≠ gr := by omega
  have hg00 : w.heap.size ≤ g0 := by omega
  clear hW i1 c1 hs1 hgr' hg0 hzv
  have hr := km.range
  go_wp2_with (refine wpList_load_at 28 (.tmp 2) rfl rfl g0 0 rfl (mcells m) _ hr Try.underlying28 rfl (infoM _ hm) ?_)
  refine (rwrong_any m i _ hm).mono ?_
  rintro e w4 ⟨rfl, b4⟩
  have km4 := km.ext b4
  have kr4 := kr.ext b4
  have c4 := c2.trans (b4.mono c2.size)
  clear hr km kr c2 b4
  have km := km4
  have kr := kr4
  clear km4 kr4
  by_cases hq : Im.wrong m i = 0
  · rw [hq]
    have HQ := Lib.hid hq
    have hwz := Im.wrong_zero hq
    obtain ⟨n, rfl⟩ := Int.eq_ofNat_of_zero_le (show 0 ≤ i by omega)
    have hn1 : 1 ≤ n := by omega
    have hn2 : n ≤ 39 := by omega
    have hca := cells_atN m n (by omega)
    have hmp := fun a s => mcells_ptr m n a s (by omega)
    have hmv := fun v => mcells_ver m n v (by omega)
    have hsm := scells_mid m n (by omega)
    have hat := at_nat m n
    have hsl := Im.sl_parts (Im.at_parts (Im.wrong_zero hq).1 hm n (by omega))
    generalize m.getD n Sl.zero = y at *
    have HCA := Lib.hid hca
    have HMP := Lib.hid hmp
    have HMV := Lib.hid hmv
    have HSM := Lib.hid hsm
    have HAT := Lib.hid hat
    have HSB := Lib.hid (And.intro hsl.2.2.2.1 hsl.2.2.2.2)
    clear hsl
    clear hq hwz hca hmp hmv hsm hat
    rw [show (((0 : Nat)) : Int) = 0 from rfl]
    have y2 := km.cell (n * 3 + 2)
    have ca := HCA.out
    rw [ca.2.2] at y2
    have f2 := km.frozen (n * 3 + 2)
    clear ca
    have hv0 := HSB.out.1
    have hv1 := HSB.out.2
    by_cases ha : y.v = 2147483647
    · have HE := Lib.hid (giveE_no (m := m) (i := (n : Int)) HQ.out (by rw [HAT.out]; exact ha))
      have ha1 : 2147483647 ≤ y.v := by omega
      clear ha
      have hzv := zeroIM
      go_wp2_with (refine wpList_store_mid rfl 28 (.tmp 4) (.tmp 19) rfl gr 0 (mcells Im.zero).toArray rfl rfl (kr.there 0 _ (by rw [List.size_toArray, mcells_len]; decide)) (infoM _ rfl) (all_oneCell_toArray mcells_one) ?_)
      have hz := kr.setCells (mcells Im.zero) 0 (by rw [mcells_len]; decide)
      rw [spl_all _ _ rfl] at hz
      have bz := below_setCells (o := 0) (vs := mcells Im.zero) c4 hgr
      refine bodyPost_ret (v := .tuple #[magg Im.zero, .int .i64 19]) (res_cell2 (mcells Im.zero) _ Try.results14 rfl hz.range Try.underlying28 rfl (infoM _ rfl) rfl) rfl ?_
      exact MapR.mk HE.out.2 HE.out.1 rfl bz
    · have HE := Lib.hid (giveE_yes (m := m) (i := (n : Int)) HQ.out (by rw [HAT.out]; exact ha))
      have ha1 : y.v < 2147483647 := by omega
      clear ha
      go_upto_region 7 with (fail)
      have k1 := km.set_ (n * 3 + 2) (.int .i64 (y.v + 1))
      rw [HMV.out] at k1
      have r1 := kr.far (p := ⟨g0, n * 3 + 2, none⟩) (Ne.symm hne) (.int .i64 (y.v + 1))
      have d1 := c4.setCell (p := ⟨g0, n * 3 + 2, none⟩) hg00 (.int .i64 (y.v + 1))
      generalize w4.setCell ⟨g0, n * 3 + 2, none⟩ (.int .i64 (y.v + 1)) = w6 at *
      clear y2 f2 km kr c4
      have km := k1
      have kr := r1
      have c4 := d1
      clear k1 r1 d1
      have HX := Lib.hid (HE.out.2.trans (show m.set ((n : Int)).toNat ⟨(Im.at_ m (n : Int)).a, (Im.at_ m (n : Int)).s, (Im.at_ m (n : Int)).v + 1⟩ = m.set n ⟨y.a, y.s, y.v + 1⟩ by rw [HAT.out, Int.toNat_natCast]))
      have HXL := Lib.hid (show (m.set n ⟨y.a, y.s, y.v + 1⟩).length = 40 by rw [List.length_set]; exact hm)
      generalize m.set n ⟨y.a, y.s, y.v + 1⟩ = X at *
      have HIN := Lib.hid (infoM X HXL.out)
      have hr := km.range
      go_wp2_with (first | refine wpList_load_at 28 (.tmp 2) rfl rfl g0 0 rfl (mcells X) _ hr Try.underlying28 rfl HIN.out ?_ | refine wpList_store_mid rfl 28 (.tmp 4) (.tmp 27) rfl gr 0 (mcells X).toArray rfl rfl (kr.there 0 _ (by rw [List.size_toArray, mcells_len, mcells_len, HXL.out]; decide)) HIN.out (all_oneCell_toArray mcells_one) ?_)
      have hz := kr.setCells (mcells X) 0 (by rw [mcells_len, mcells_len, HXL.out]; decide)
      rw [spl_all _ _ (by rw [mcells_len, mcells_len, HXL.out]; rfl)] at hz
      have bz := below_setCells (o := 0) (vs := mcells X) c4 hgr
      refine bodyPost_ret (v := .tuple #[magg X, .int .i64 0]) (res_cell2 (mcells X) _ Try.results14 rfl hz.range Try.underlying28 rfl HIN.out rfl) rfl ?_
      exact MapR.mk HX.out HE.out.1 rfl bz
  · have HE := Lib.hid (giveE_wrong (m := m) (i := i) hq)
    obtain ⟨q, hq'⟩ : ∃ q, q = Im.wrong m i := ⟨_, rfl⟩
    rw [← hq'] at hq ⊢
    have HQ := Lib.hid hq'
    have hq0 : ((q : Int) != 0) = true := by rw [bne_iff_ne]; omega
    clear hq hq'
    have hzv := zeroIM
    go_wp2_with (refine wpList_store_mid rfl 28 (.tmp 4) (.tmp 12) rfl gr 0 (mcells Im.zero).toArray rfl rfl (kr.there 0 _ (by rw [List.size_toArray, mcells_len]; decide)) (infoM _ rfl) (all_oneCell_toArray mcells_one) ?_)
    have hz := kr.setCells (mcells Im.zero) 0 (by rw [mcells_len]; decide)
    rw [spl_all _ _ rfl] at hz
    have bz := below_setCells (o := 0) (vs := mcells Im.zero) c4 hgr
    refine bodyPost_ret (v := .tuple #[magg Im.zero, .int .i64 (q : Int)]) (res_cell2 (mcells Im.zero) _ Try.results14 rfl hz.range Try.underlying28 rfl (infoM _ rfl) rfl) rfl ?_
    exact MapR.mk HE.out.2 (HE.out.1.trans HQ.out.symm) rfl bz
end Go.Proofs.Ytpgibmffgliibaa
