/-
  copy of elements of several cells; the walk of imap.Decode. By an AI agent.
-/
import Derived.Test.YtpgibmffgliibaaImR
namespace Go.Proofs.Ytpgibmffgliibaa
open Go.RowKit Go.ChangeShapes Go.WideShapes Go.ChangeAt
open Im (Sl)

/-- copy, whatever the width of an element. -/
theorem run_copy_wide {P : Program} (w : World) (dT sT ty elem : TypeId) (g o dLen dCap : Nat) (a : Addr) (sLen sCap sz n : Nat) (cur : Array Value) (t : TypeId) (cs : List Value)
    (hu : P.underlying dT = some (.slice elem)) (hs : (P.info? elem).map (·.size) = some sz)
    (hg : w.heap[g]? = some (.cells cur t (0, 0))) (hn : n = Nat.min sLen dLen) (hc : cs.length = n * sz)
    (hsrc : ∀ j v, cs[j]? = some v → w.cell? (a.add j) = some v) (hfit : o + cs.length ≤ cur.size) (h1 : ∀ v ∈ cs, v.oneCell' = true) :
    (Builtin.copy_ #[dT, sT] ty #[.slice (some ⟨g, o, none⟩) dLen dCap, .slice (some a) sLen sCap]).run P w =
      .ok (goInt n) (w.setRow g (cur.toList.take o ++ cs ++ cur.toList.drop (o + cs.length)).toArray) := by
  have hl := run_loadCells_list (P := P) w a cs hsrc
  have hst := run_storeCells_at P g o t cs 0 cur w hg (by simpa using hfit) h1
  cases hq : P.info? elem with
  | none => simp [hq] at hs
  | some i =>
    have hi : i.size = sz := by simpa [hq] using hs
    simp [Builtin.copy_, run_underlying hu, Builtin.lenOf, Builtin.firstCells, sizeOf, typeInfo, hq, hi, ← hn, ← hc, hl, hst]
theorem wp_copy {P : Program} {Q : Exit → Act → World → Prop} {o : Oper} {a : Act} {w w' : World} {K : Act → World → Prop} {v u v' : Value} (s x : Nat) (t : TypeId) (ho : o.op = .call { callee := .builtin .copy, args := #[.tmp s, .tmp x], argTypes := #[t, t] })
    (hs : a.tmps.getD s undef = v) (hx : a.tmps.getD x undef = u) (hrun : (Builtin.copy_ #[t, t] o.type #[v, u]).run P w = .ok v' w') (h : K (a.put o.dst v') w') : o.wp P a w K Q := by
  have hs' : a.eval (.tmp s) = v := hs
  have hx' : a.eval (.tmp x) = u := hx
  unfold Oper.wp execOp
  simp only [ho, resolve, invoke, builtin, Sem.run_bind, Sem.run_pure, Result.andThen_ok, List.map_toArray, List.map_cons, List.map_nil, hs', hx', hrun]
  exact h
theorem Blk.varB {w : World} {x : List Sl} (hm : x.length = 10) : Blk ((w.alloc (.cells (mcells tens).toArray 63)).setCells w.heap.size 0 (mcells x)) w.heap.size 63 (mcells x) := by
  have := (Blk.new w 63 (mcells tens).toArray).setCells (mcells x) 0 (by show 0 + (mcells x).length ≤ (mcells tens).length; rw [mcells_len x, hm, mcells_len tens]; decide)
  rw [spl_all _ _ (by show (mcells x).length = (mcells tens).length; rw [mcells_len x, hm, mcells_len tens]; rfl)] at this
  exact this
theorem below_varB {w : World} {arr : Array Value} {x : List Sl} : Below w.heap.size w ((w.alloc (.cells arr 63)).setCells w.heap.size 0 (mcells x)) :=
  below_setCells ((Below.refl _ _).alloc (Nat.le_refl _) _) (Nat.le_refl _) _ _
theorem mcells_setBlk {m B : List Sl} (hb : B.length = 10) (n : Nat) : spl (mcells m) (n * 10 * 3) (mcells B) = mcells (Im.setBlk m n B) := by
  unfold spl Im.setBlk
  rw [show n * 10 * 3 = 3 * (10 * n) by omega, mcells_take, mcells_len, hb, show 3 * (10 * n) + 3 * 10 = 3 * (10 * n + 10) by omega, mcells_drop, mcells_app, mcells_app]
theorem dec_may {m : List Sl} {k : Int} {l : List UInt8} (h : Im.mayB m = false) : Im.decM m k l = Im.zero ∧ Im.decE m k l = 1 := by
  have e : Im.decE m k l = 1 := by unfold Im.decE; rw [h]; rfl
  exact ⟨by unfold Im.decM; rw [e]; rfl, e⟩
theorem dec_far {m : List Sl} {k : Int} {l : List UInt8} (h : Im.mayB m = true) (hk : Im.kB k = false) : Im.decM m k l = Im.zero ∧ Im.decE m k l = 4 := by
  have e : Im.decE m k l = 4 := by unfold Im.decE; rw [h, hk]; rfl
  exact ⟨by unfold Im.decM; rw [e]; rfl, e⟩
theorem dec_bad {m : List Sl} {n : Nat} {l : List UInt8} (h : Im.mayB m = true) (hk : n < 4) (hr : Im.rdOk n l = false) : Im.decM m (n : Int) l = Im.zero ∧ Im.decE m (n : Int) l = 3 := by
  have hkb : Im.kB (n : Int) = true := by unfold Im.kB; exact decide_eq_true ⟨by omega, by omega⟩
  have e : Im.decE m (n : Int) l = 3 := by unfold Im.decE; rw [h, hkb, Int.toNat_natCast, hr]; rfl
  exact ⟨by unfold Im.decM; rw [e]; rfl, e⟩
theorem dec_good {m : List Sl} {n : Nat} {l : List UInt8} (h : Im.mayB m = true) (hk : n < 4) (hr : Im.rdOk n l = true) : Im.decM m (n : Int) l = Im.setBlk m n (Im.bkOf l) ∧ Im.decE m (n : Int) l = 0 := by
  have hkb : Im.kB (n : Int) = true := by unfold Im.kB; exact decide_eq_true ⟨by omega, by omega⟩
  have e : Im.decE m (n : Int) l = 0 := by unfold Im.decE; rw [h, hkb, Int.toNat_natCast, hr]; rfl
  exact ⟨by unfold Im.decM; rw [e, Int.toNat_natCast]; rfl, e⟩
theorem form_of_ok {n : Nat} {l : List UInt8} (hr : Im.rdOk n l = true) : formB n l = true := by
  unfold Im.rdOk at hr
  unfold formB
  rw [← Bool.and_assoc, Bool.and_eq_true] at hr
  exact hr.1

set_option maxRecDepth 100000 in
set_option maxHeartbeats 8000000 in
theorem decodeI_any (m : List Sl) (k : Int) (w : World) (v : Value) (l : List UInt8) (hm : m.length = 40) (h : Bs w w.heap.size v l) :
    Calls Try.prog 20 #[magg m, .int .i64 k, v] w (MapR (Im.decM m k l) (Im.decE m k l) w) := by
  obtain ⟨A, c, rfl, hc, hmx, _⟩ := h.openD
  have HB := Lib.hid h
  clear h
  unfold magg
  have hzv := zeroIM
  go_enter Try.func20, Try.ntmps20
  go_upto_region 1 with (fail)
  have i0 := Blk.new w 28 (mcells m).toArray
  have c0 := (Below.refl w.heap.size w).alloc (Nat.le_refl _) (.cells (mcells m).toArray 28)
  change Blk _ _ _ (mcells m) at i0
  have hs0 : (w.alloc (.cells (mcells m).toArray 28)).heap.size = w.heap.size + 1 := World.size_alloc _ _
  generalize w.alloc (.cells (mcells m).toArray 28) = w0 at *
  obtain ⟨g0, hg0⟩ : ∃ g, g = w.heap.size := ⟨_, rfl⟩
  rw [← hg0] at i0 hs0 ⊢
  generalize hW : w0.alloc (.cells _ 28) = w1
  have kr : Blk w1 w0.heap.size 28 (mcells Im.zero) := by rw [← hW]; exact Blk.new w0 _ _
  have km : Blk w1 g0 28 (mcells m) := by rw [← hW]; exact i0.alloc _
  have c2 : Below w.heap.size w w1 := by rw [← hW]; exact c0.alloc c0.size _
  rw [hs0] at kr
  obtain ⟨gr, hgr'⟩ : ∃ g, g = g0 + 1 := ⟨_, rfl⟩
  rw [← hgr'] at kr ⊢
  have hgr : w.heap.size ≤ gr := by omega
  have hne : g0 ≠ gr := by omega
  have hg00 : w.heap.size ≤ g0 := by omega
  clear hW i0 c0 hs0 hgr' hg0 hzv
  have hr := km.range
  go_wp2_with (refine wpList_load_at 28 (.tmp 3) rfl rfl g0 0 rfl (mcells m) _ hr Try.underlying28 rfl (infoM _ hm) ?_)
  refine (mayM_any m _ hm).mono ?_
  rintro e w4 ⟨rfl, b4⟩
  replace km := km.ext b4
  replace kr := kr.ext b4
  have c4 := c2.trans (b4.mono c2.size)
  clear hr c2 b4
  cases hmy : Im.mayB m with
  | false =>
    have HD := Lib.hid (dec_may (k := k) (l := l) hmy)
    clear hmy
    have hzv := zeroIM
    go_wp2_with (refine wpList_store_mid rfl 28 (.tmp 6) (.tmp 13) rfl gr 0 (mcells Im.zero).toArray rfl rfl (kr.there 0 _ (by rw [List.size_toArray, mcells_len]; decide)) (infoM _ rfl) (all_oneCell_toArray mcells_one) ?_)
    have hz := kr.setCells (mcells Im.zero) 0 (by rw [mcells_len]; decide)
    rw [spl_all _ _ rfl] at hz
    have bz := below_setCells (o := 0) (vs := mcells Im.zero) c4 hgr
    refine bodyPost_ret (v := .tuple #[magg Im.zero, .int .i64 1]) (res_cell2 (mcells Im.zero) _ Try.results20 rfl hz.range Try.underlying28 rfl (infoM _ rfl) rfl) rfl ?_
    exact MapR.mk HD.out.1 HD.out.2 rfl bz
  | true =>
    have HMY := Lib.hid hmy
    clear hmy
    by_cases hk0 : ¬ 0 ≤ k
    · have HD := Lib.hid (dec_far (k := k) (l := l) HMY.out (by unfold Im.kB; exact decide_eq_false (fun q => hk0 q.1)))
      have hzv := zeroIM
      go_wp2_with (refine wpList_store_mid rfl 28 (.tmp 6) (.tmp 20) rfl gr 0 (mcells Im.zero).toArray rfl rfl (kr.there 0 _ (by rw [List.size_toArray, mcells_len]; decide)) (infoM _ rfl) (all_oneCell_toArray mcells_one) ?_)
      have hz := kr.setCells (mcells Im.zero) 0 (by rw [mcells_len]; decide)
      rw [spl_all _ _ rfl] at hz
      have bz := below_setCells (o := 0) (vs := mcells Im.zero) c4 hgr
      refine bodyPost_ret (v := .tuple #[magg Im.zero, .int .i64 4]) (res_cell2 (mcells Im.zero) _ Try.results20 rfl hz.range Try.underlying28 rfl (infoM _ rfl) rfl) rfl ?_
      exact MapR.mk HD.out.1 HD.out.2 rfl bz
    · replace hk0 := Decidable.not_not.1 hk0
      by_cases hk1 : ¬ k < 4
      · have hk2 : 4 ≤ k := by omega
        have HD := Lib.hid (dec_far (k := k) (l := l) HMY.out (by unfold Im.kB; exact decide_eq_false (fun q => hk1 (by omega))))
        have hzv := zeroIM
        go_wp2_with (refine wpList_store_mid rfl 28 (.tmp 6) (.tmp 20) rfl gr 0 (mcells Im.zero).toArray rfl rfl (kr.there 0 _ (by rw [List.size_toArray, mcells_len]; decide)) (infoM _ rfl) (all_oneCell_toArray mcells_one) ?_)
        have hz := kr.setCells (mcells Im.zero) 0 (by rw [mcells_len]; decide)
        rw [spl_all _ _ rfl] at hz
        have bz := below_setCells (o := 0) (vs := mcells Im.zero) c4 hgr
        refine bodyPost_ret (v := .tuple #[magg Im.zero, .int .i64 4]) (res_cell2 (mcells Im.zero) _ Try.results20 rfl hz.range Try.underlying28 rfl (infoM _ rfl) rfl) rfl ?_
        exact MapR.mk HD.out.1 HD.out.2 rfl bz
      · replace hk1 := Decidable.not_not.1 hk1
        obtain ⟨n, rfl⟩ := Int.eq_ofNat_of_zero_le hk0
        have hn : n < 4 := by omega
        go_wp2_with fail
        refine (read_any n _ _ l hn ((HB.out.ext (Nat.le_refl _) c4).more c4.size)).mono ?_
        rintro e w5 ⟨rfl, b5⟩
        replace km := km.ext b5
        replace kr := kr.ext b5
        replace c4 := c4.trans (b5.mono c4.size)
        clear b5
        have HXL := Lib.hid (show (if formB n l then Im.bkOf l else tens).length = 10 by split; exact Im.bk_len l; rfl)
        have HXE := Lib.hid (show Im.rdOk n l = true → (if formB n l then Im.bkOf l else tens) = Im.bkOf l from fun h => by rw [form_of_ok h]; rfl)
        generalize (if formB n l then Im.bkOf l else tens) = X at *
        unfold magg
        have hng8 : gr < w5.heap.size := kr.lt
        have hng0 : g0 < w5.heap.size := km.lt
        go_upto_region 6 with (with_reducible refine wpList_store_new rfl 63 (.tmp 8) (.tmp 25) rfl (mcells X) rfl rfl ?_ rfl (infoB _ HXL.out) mcells_one ?_)
        · rw [mcells_len, HXL.out]; exact Nat.le_refl 30
        generalize hW : (w5.alloc (.cells _ 63)).setCells w5.heap.size 0 _ = w6
        have k8 : Blk w6 w5.heap.size 63 (mcells X) := by rw [← hW]; exact Blk.varB HXL.out
        have bv : Below w5.heap.size w5 w6 := by rw [← hW]; exact below_varB
        clear hW
        replace km := km.ext bv
        replace kr := kr.ext bv
        replace c4 := c4.trans (bv.mono c4.size)
        clear bv
        have hn8r : gr ≠ w5.heap.size := by omega
        have hn80 : g0 ≠ w5.heap.size := by omega
        generalize w5.heap.size = g8 at *
        clear hng8 hng0
        cases hrd : Im.rdOk n l with
        | false =>
          have HD := Lib.hid (dec_bad HMY.out hn hrd)
          clear hrd HXE
          have hzv := zeroIM
          go_wp2_with (refine wpList_store_mid rfl 28 (.tmp 6) (.tmp 29) rfl gr 0 (mcells Im.zero).toArray rfl rfl (kr.there 0 _ (by rw [List.size_toArray, mcells_len]; decide)) (infoM _ rfl) (all_oneCell_toArray mcells_one) ?_)
          have hz := kr.setCells (mcells Im.zero) 0 (by rw [mcells_len]; decide)
          rw [spl_all _ _ rfl] at hz
          have bz := below_setCells (o := 0) (vs := mcells Im.zero) c4 hgr
          refine bodyPost_ret (v := .tuple #[magg Im.zero, .int .i64 3]) (res_cell2 (mcells Im.zero) _ Try.results20 rfl hz.range Try.underlying28 rfl (infoM _ rfl) rfl) rfl ?_
          exact MapR.mk HD.out.1 HD.out.2 rfl bz
        | true =>
          have HD := Lib.hid (dec_good HMY.out hn hrd)
          obtain rfl : X = Im.bkOf l := HXE.out hrd
          clear hrd HXE
          go_upto_region 8 with (fail)
          have hG0 : (fun (b : Bool) (x : World) => (b = false → Blk x g0 28 (mcells m) ∧ Blk x g8 63 (mcells (Im.bkOf l))) ∧ (b = true → Blk x g0 28 (mcells (Im.setBlk m n (Im.bkOf l)))) ∧ Blk x gr 28 (mcells Im.zero) ∧ Below w.heap.size w x) false w6.drew := ⟨fun _ => ⟨km.drew, k8.drew⟩, (fun h => by cases h), kr.drew, c4.drew⟩
          refine wp_region_tail 5 4 [(fun y_ _ => y_ = .int .i64 (n : Int)),
            (fun y_ _ => y_ = .int .i64 ((n : Int) * 10)),
            (fun y_ _ => y_ = .slice (some ⟨g0, n * 10 * 3, none⟩) (40 - n * 10) (40 - n * 10)),
            (fun y_ _ => y_ = .slice (some ⟨g8, 0, none⟩) 10 10),
            (fun y_ _ => y_ = .int .i64 10)]
            ((fun (b : Bool) (x : World) => (b = false → Blk x g0 28 (mcells m) ∧ Blk x g8 63 (mcells (Im.bkOf l))) ∧ (b = true → Blk x g0 28 (mcells (Im.setBlk m n (Im.bkOf l)))) ∧ Blk x gr 28 (mcells Im.zero) ∧ Below w.heap.size w x)) (fun _ _ => True) (by kernel_rfl) rfl (by decide) (by kernel_rfl) (by kernel_rfl) ?_ ?_ ?_ ?_ ?_
          · exact hG0
          · exact ⟨stab_eq _, stab_eq _, stab_eq _, stab_eq _, stab_eq _, trivial⟩
          · exact ⟨stabE_eq _, stabE_eq _, stabE_eq _, stabE_eq _, trivial⟩
          · refine ⟨?_, ?_, ?_, ?_, ?_, trivial⟩
            · intro a x hG hd hs K hK
              replace hG : ((fun (b : Bool) (x : World) => (b = false → Blk x g0 28 (mcells m) ∧ Blk x g8 63 (mcells (Im.bkOf l))) ∧ (b = true → Blk x g0 28 (mcells (Im.setBlk m n (Im.bkOf l)))) ∧ Blk x gr 28 (mcells Im.zero) ∧ Below w.heap.size w x)) false x := hG
              have h1 : a.tmps.getD 1 undef = .int .i64 (n : Int) := hs 1 (by kernel_rfl)
              clear hd hs
              refine wpOp_plain rfl rfl ?_
              go_simp
              exact hK _ _ rfl hG (Below.refl _ _)
            · intro a x hG hd hs K hK
              replace hG : ((fun (b : Bool) (x : World) => (b = false → Blk x g0 28 (mcells m) ∧ Blk x g8 63 (mcells (Im.bkOf l))) ∧ (b = true → Blk x g0 28 (mcells (Im.setBlk m n (Im.bkOf l)))) ∧ Blk x gr 28 (mcells Im.zero) ∧ Below w.heap.size w x)) false x := hG
              have h30 : a.tmps.getD 30 undef = .int .i64 (n : Int) := hd 0 30 (by kernel_rfl)
              clear hd hs
              refine wpOp_plain rfl rfl ?_
              have hwr : IntKind.i64.wrap ((n : Int) * 10) = (n : Int) * 10 := IntWalk.i64_in _ (by omega)
              go_simp
              exact hK _ _ rfl hG (Below.refl _ _)
            · intro a x hG hd hs K hK
              replace hG : ((fun (b : Bool) (x : World) => (b = false → Blk x g0 28 (mcells m) ∧ Blk x g8 63 (mcells (Im.bkOf l))) ∧ (b = true → Blk x g0 28 (mcells (Im.setBlk m n (Im.bkOf l)))) ∧ Blk x gr 28 (mcells Im.zero) ∧ Below w.heap.size w x)) false x := hG
              have h3 : a.tmps.getD 3 undef = .pointer (some ⟨g0, 0, none⟩) := hs 3 (by kernel_rfl)
              have h31 : a.tmps.getD 31 undef = .int .i64 ((n : Int) * 10) := hd 1 31 (by kernel_rfl)
              clear hd hs
              refine wpOp_plain rfl rfl ?_
              have f1 : ((n : Int) * 10).toNat = n * 10 := by omega
              have f2 : (0 : Int) ≤ (n : Int) * 10 := by omega
              have f3 : (n : Int) * 10 ≤ 40 := by omega
              have f4 : ¬ 40 = n * 10 := by omega
              go_simp
              exact hK _ _ rfl hG (Below.refl _ _)
            · intro a x hG hd hs K hK
              replace hG : ((fun (b : Bool) (x : World) => (b = false → Blk x g0 28 (mcells m) ∧ Blk x g8 63 (mcells (Im.bkOf l))) ∧ (b = true → Blk x g0 28 (mcells (Im.setBlk m n (Im.bkOf l)))) ∧ Blk x gr 28 (mcells Im.zero) ∧ Below w.heap.size w x)) false x := hG
              have h8 : a.tmps.getD 8 undef = .pointer (some ⟨g8, 0, none⟩) := hs 8 (by kernel_rfl)
              clear hd hs
              refine wpOp_plain rfl rfl ?_
              go_simp
              exact hK _ _ rfl hG (Below.refl _ _)
            · intro a x hG hd hs K hK
              replace hG : ((fun (b : Bool) (x : World) => (b = false → Blk x g0 28 (mcells m) ∧ Blk x g8 63 (mcells (Im.bkOf l))) ∧ (b = true → Blk x g0 28 (mcells (Im.setBlk m n (Im.bkOf l)))) ∧ Blk x gr 28 (mcells Im.zero) ∧ Below w.heap.size w x)) false x := hG
              have h32 : a.tmps.getD 32 undef = .slice (some ⟨g0, n * 10 * 3, none⟩) (40 - n * 10) (40 - n * 10) := hd 2 32 (by kernel_rfl)
              have h33 : a.tmps.getD 33 undef = .slice (some ⟨g8, 0, none⟩) 10 10 := hd 3 33 (by kernel_rfl)
              clear hd hs
              refine wpOp_plain rfl rfl ?_
              have kk := (hG.1 rfl).1
              have k8' := (hG.1 rfl).2
              have hrun := run_copy_wide (P := Try.prog) x 74 74 3 26 g0 (n * 10 * 3) (40 - n * 10) (40 - n * 10) ⟨g8, 0, none⟩ 10 10 3 10 (mcells m).toArray 28 (mcells (Im.bkOf l)) Try.underlying74 (by kernel_rfl) kk (by show 10 = min 10 (40 - n * 10); omega) (by rw [mcells_len, Im.bk_len]) (fun j u hu => by rw [add_plain, Nat.zero_add, k8'.cell j]; exact hu) (by rw [List.size_toArray, mcells_len, mcells_len, Im.bk_len, hm]; omega) mcells_one
              refine wp_copy 32 33 74 rfl h32 h33 hrun ?_
              have kn := kk.row (((mcells m).toArray.toList.take (n * 10 * 3) ++ mcells (Im.bkOf l) ++ (mcells m).toArray.toList.drop (n * 10 * 3 + (mcells (Im.bkOf l)).length)).toArray)
              rw [show (((mcells m).toArray.toList.take (n * 10 * 3) ++ mcells (Im.bkOf l) ++ (mcells m).toArray.toList.drop (n * 10 * 3 + (mcells (Im.bkOf l)).length)).toArray).toList = mcells (Im.setBlk m n (Im.bkOf l)) by rw [← mcells_setBlk (Im.bk_len l) n]; unfold spl; simp] at kn
              exact hK _ _ rfl ⟨(fun h => by cases h), fun _ => kn, (setRow_other x g0 gr _ (Ne.symm hne)).trans hG.2.2.1, below_setRow hG.2.2.2 hg00 _⟩ trivial
          · intro x hG
            rintro _ rfl _ rfl _ rfl _ rfl _ rfl
            simp only [Act.put, List.setIfInBounds_toArray, List.set_cons_zero, List.set_cons_succ, REnd]
            try simp only [Exit.then]
            have HXL2 := Lib.hid (Im.setBlk_len hm (Im.bk_len l) hn)
            have km2 := hG.2.1 rfl
            have kr2 := hG.2.2.1
            have c5 := hG.2.2.2
            clear km kr k8 c4 hG hG0 HXL
            generalize Im.setBlk m n (Im.bkOf l) = Z at *
            have HIN := Lib.hid (infoM Z HXL2.out)
            have hr := km2.range
            go_wp2_with (first | refine wpList_load_at 28 (.tmp 3) rfl rfl g0 0 rfl (mcells Z) _ hr Try.underlying28 rfl HIN.out ?_ | refine wpList_store_mid rfl 28 (.tmp 6) (.tmp 35) rfl gr 0 (mcells Z).toArray rfl rfl (kr2.there 0 _ (by rw [List.size_toArray, mcells_len, mcells_len, HXL2.out]; decide)) HIN.out (all_oneCell_toArray mcells_one) ?_)
            have hz := kr2.setCells (mcells Z) 0 (by rw [mcells_len, mcells_len, HXL2.out]; decide)
            rw [spl_all _ _ (by rw [mcells_len, mcells_len, HXL2.out]; rfl)] at hz
            have bz := below_setCells (o := 0) (vs := mcells Z) c5 hgr
            refine bodyPost_ret (v := .tuple #[magg Z, .int .i64 0]) (res_cell2 (mcells Z) _ Try.results20 rfl hz.range Try.underlying28 rfl HIN.out rfl) rfl ?_
            exact MapR.mk HD.out.1 HD.out.2 rfl bz
end Go.Proofs.Ytpgibmffgliibaa
