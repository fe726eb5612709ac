/-
  InodeApart: two inodes of one number have the same block just if they are the same; two nodes likewise, without the document's answer. For every input.
-/
import Derived.Test.YtmabdbleakolbaaDoorInodeQ
import Derived.Test.YtmabdbleakolbaaDoorVars
namespace Go.Proofs.YtmabdbleakolbaaDoor
open Go.ChangeShapes Go.WideShapes Go.ChangeAt Go.RowKit

section
variable {H : Type} {enc : TypeId × Value → H} {W : World} {base b0 : Nat} {r : Reach}
def acells (z : Int) (x y : Nd.In) (vl vm : Value) : List Value := .int .u8 z :: (icells x ++ (icells y ++ [vl, vm]))
def apk : List IntKind := .u8 :: (ink ++ ink)
theorem leavesA : (leavesAt Tryd.prog 4 0 44).map (fun p => (p.1, Tryd.prog.underlying p.2)) = ((List.range 47).map fun j => (j, some (.int (apk.getD j .i64)))) ++ [(47, some (.slice 24)), (48, some (.slice 24))] := by kernel_rfl
theorem leavesS : (47, 42) ∈ leavesAt Tryd.prog 4 0 44 ∧ (48, 42) ∈ leavesAt Tryd.prog 4 0 44 :=
  ⟨List.contains_iff_mem.1 (by kernel_rfl), List.contains_iff_mem.1 (by kernel_rfl)⟩
theorem apart_of_trod {v : Value} {d : DataW H} {ps : List MemPlace} (hv : Value.okWide Tryd.prog W r b0 44 v) (h : DataW.Trod enc Tryd.prog W base (fun _ => true) true 44 v d ps) :
    ∃ (z : Nat) (x y : Nd.In) (vl vm : Value) (l m : List (Int × Nat)), v = .agg (acells z x y vl vm).toArray ∧ z < 256 ∧ Nd.Good x ∧ Nd.Good y ∧ Ptrs W W.heap.size vl l ∧ Ptrs W W.heap.size vm m ∧ (∀ p ∈ l, p.2 < 4294967296) ∧ ∀ p ∈ m, p.2 < 4294967296 := by
  obtain ⟨cs, rfl, hsz⟩ := okWide_struct Tryd.underlying44 hv
  rw [show Tryd.prog.cellsOf 44 = 49 by kernel_rfl] at hsz
  obtain ⟨fuel, hf⟩ := h
  rw [show (Value.agg cs).cells.toList = cs.toList from rfl] at hf
  obtain ⟨l, hl⟩ : ∃ l, l = cs.toList := ⟨_, rfl⟩
  have hll : l.length = 49 := by rw [hl, Array.length_toList, hsz]
  have hcs : cs = l.toArray := by rw [hl]
  rw [← hl] at hf
  subst hcs
  clear hl hsz hv
  obtain ⟨_, n1, y1, cs1, ht1, hc1⟩ := leaf_of 4 _ fuel l _ 0 hf _ leavesS.1
  obtain ⟨_, n2, y2, cs2, ht2, hc2⟩ := leaf_of 4 _ fuel l _ 0 hf _ leavesS.2
  obtain ⟨vl, pl, rfl, hp1, hs1⟩ := ptrs_of_cs Tryd.underlying42 Tryd.underlying24 (by kernel_rfl) rfl rfl (by kernel_rfl) (by kernel_rfl) Tryd.underlying3 Tryd.underlying22 ht1
  obtain ⟨vm, pm, rfl, hp2, hs2⟩ := ptrs_of_cs Tryd.underlying42 Tryd.underlying24 (by kernel_rfl) rfl rfl (by kernel_rfl) (by kernel_rfl) Tryd.underlying3 Tryd.underlying22 ht2
  have e1 : l[47]? = some vl := hc1 0 vl rfl
  have e2 : l[48]? = some vm := hc2 0 vm rfl
  obtain ⟨zs, hz1, hz2, hz3⟩ := ints_of_cells apk (l.take 47) (by rw [List.length_take, hll]; rfl) (fun j k hj => by
    have hjl : j < 47 := (List.getElem?_eq_some_iff.1 hj).1
    have hm : (j, some (TypeDesc.int k)) ∈ (leavesAt Tryd.prog 4 0 44).map (fun p => (p.1, Tryd.prog.underlying p.2)) := by
      rw [leavesA]
      refine List.mem_append_left _ (List.mem_map.2 ⟨j, List.mem_range.2 hjl, ?_⟩)
      rw [List.getD_eq_getElem?_getD, hj]; rfl
    obtain ⟨⟨j', ty⟩, hp, he⟩ := List.mem_map.1 hm
    simp only [Prod.mk.injEq] at he
    obtain ⟨rfl, hu⟩ := he
    obtain ⟨z, g1, g2⟩ := leaf_int hf hp hu
    exact ⟨z, by rw [List.getElem?_take, if_pos hjl]; exact g1, g2⟩)
  match zs, hz1 with
  | z :: zs, hz1 =>
    have hzl : zs.length = 46 := by simpa [apk, ink, pk] using hz1
    obtain ⟨x, gx, ex⟩ := in_of_ints (zs.take 23) (by rw [List.length_take, hzl]; rfl) (fun j k q hj hq => by
      rw [List.getElem?_take] at hq
      split at hq
      · rename_i hj23
        exact hz3 (j + 1) k q (by show (ink ++ ink)[j]? = _; rw [List.getElem?_append_left (show j < ink.length from hj23)]; exact hj) hq
      · cases hq)
    obtain ⟨y, gy, ey⟩ := in_of_ints (zs.drop 23) (by rw [List.length_drop, hzl]; rfl) (fun j k q hj hq => by
      rw [List.getElem?_drop] at hq
      exact hz3 (23 + j + 1) k q (by show (ink ++ ink)[23 + j]? = _; rw [List.getElem?_append_right (show ink.length ≤ 23 + j from Nat.le_add_right 23 j), show 23 + j - ink.length = j from Nat.add_sub_cancel_left 23 j]; exact hj) hq)
    have wz := wf_u8 (hz3 0 .u8 z rfl rfl)
    obtain ⟨zn, rfl⟩ := Int.eq_ofNat_of_zero_le wz.1
    refine ⟨zn, x, y, vl, vm, pl, pm, ?_, by omega, gx, gy, hp1, hp2, hs1, hs2⟩
    congr 2
    have hsplit : (ink ++ ink).zip zs = ink.zip (zs.take 23) ++ ink.zip (zs.drop 23) := by
      conv => lhs; rw [← List.take_append_drop 23 zs]
      exact List.zip_append (by rw [List.length_take, hzl]; rfl)
    have hl2 : l = l.take 47 ++ [vl, vm] := by
      apply List.ext_getElem?
      intro i
      by_cases hi : i < 47
      · rw [List.getElem?_append_left (by rw [List.length_take, hll]; exact hi), List.getElem?_take, if_pos hi]
      · rw [List.getElem?_append_right (by rw [List.length_take, hll]; omega), List.length_take, hll]
        rcases (by omega : i = 47 ∨ i = 48 ∨ 49 ≤ i) with rfl | rfl | h
        · exact e1
        · exact e2
        · rw [List.getElem?_eq_none (by omega)]
          have : ∃ k, i - min 47 49 = k + 2 := ⟨i - 49, by omega⟩
          obtain ⟨k, hk⟩ := this
          rw [hk]; rfl
    rw [hl2, hz2]
    unfold acells apk
    rw [List.zip_cons_cons, List.map_cons, hsplit, List.map_append, ex, ey]
    simp only [List.cons_append, List.append_assoc]
end
/-- What Encode leaves, whatever the inode. -/
def EncU (i : Nat) (X : Nd.In) (w : World) (e : Ending) (w' : World) : Prop := ∃ u : Value, e = .returned (.tuple #[u, .int .i64 (if Nd.mayB X then 0 else 1)]) ∧ (∃ A n c, u = .slice A n c) ∧ (Nd.mayB X = true → Bs w' w'.heap.size u (Nd.inE i X)) ∧ Below w.heap.size w w'
theorem encodeU (i : Nat) (X : Nd.In) (w : World) (hg : Nd.Good X) (hi : Nd.inoB i = true) (hH : Halves w) : Calls Tryd.prog 8 #[.int .i64 (i : Int), iagg X] w (EncU i X w) := by
  cases hm : Nd.mayB X with
  | false =>
    refine (encode_no i X w hg.1 (by rw [hm, Bool.and_false])).mono ?_
    rintro e w' ⟨rfl, hb⟩
    exact ⟨_, by rw [hm]; rfl, ⟨_, _, _, rfl⟩, fun h => (by rw [hm] at h; cases h), hb⟩
  | true =>
    refine (encode_yes i X w hg hi hm hH).mono ?_
    rintro e w' ⟨u, rfl, hs, hb⟩
    obtain ⟨A, c, rfl, _⟩ := hs.openD
    exact ⟨_, by rw [hm]; rfl, ⟨_, _, _, rfl⟩, fun _ => hs, hb⟩
def NodU (q : List (Int × Nat)) (w : World) (e : Ending) (w' : World) : Prop := ∃ u : Value, e = .returned (.tuple #[u, .int .i64 (if (decide (q.length = 15) && q.all Nd.ptrB) then 0 else 1)]) ∧ (∃ A n c, u = .slice A n c) ∧ ((decide (q.length = 15) && q.all Nd.ptrB) = true → Bs w' w'.heap.size u (Nd.ndE q)) ∧ Below w.heap.size w w'
theorem nodeU (w : World) (v : Value) (B : Nat) (q : List (Int × Nat)) (h : Ptrs w B v q) (hB : B ≤ w.heap.size) (hs : ∀ p ∈ q, p.2 < 4294967296) (hH : Halves w) : Calls Tryd.prog 16 #[v] w (NodU q w) := by
  cases hm : (decide (q.length = 15) && q.all Nd.ptrB) with
  | false =>
    refine (node_no w v B q h hB hm).mono ?_
    rintro e w' ⟨rfl, hb⟩
    exact ⟨_, by rw [hm]; rfl, ⟨_, _, _, rfl⟩, fun h => (by rw [hm] at h; cases h), hb⟩
  | true =>
    have hq : q.length = 15 ∧ q.all Nd.ptrB = true := by rw [Bool.and_eq_true, decide_eq_true_iff] at hm; exact hm
    refine (node_yes w v B q h hB hq.1 hq.2 hs hH).mono ?_
    rintro e w' ⟨u, rfl, hs, hb⟩
    obtain ⟨A, c, rfl, _⟩ := hs.openD
    exact ⟨_, by rw [hm]; rfl, ⟨_, _, _, rfl⟩, fun _ => hs, hb⟩
theorem encodeU_eq (i : Nat) (zz : Int) (hz : zz = i) (X : Nd.In) (w : World) (hg : Nd.Good X) (hi : Nd.inoB i = true) (hH : Halves w) : Calls Tryd.prog 8 #[.int .i64 zz, iagg X] w (EncU i X w) := by
  subst hz; exact encodeU i X w hg hi hH
theorem Ptrs.head' {w : World} {B k c : Nat} {A : Option Addr} {ps : List (Int × Nat)} (h : Ptrs w B (.slice A ps.length c) ps) (hk : k ≤ ps.length) : Ptrs w B (.slice A k c) (ps.take k) := by
  have := Rds.head h hk
  unfold Ptrs
  rw [List.length_take, Nat.min_eq_left hk]
  have e : pcells (ps.take k) = (pcells ps).take (k * 2) := by
    have hs : pcells ps = pcells (ps.take k) ++ pcells (ps.drop k) := by rw [← pcells_app, List.take_append_drop]
    rw [hs, List.take_left' (by rw [pcells_len, List.length_take, Nat.min_eq_left hk])]
  rw [e]; exact this
theorem acells_mid1 (z : Int) (x y : Nd.In) (vl vm : Value) : icells x = ((acells z x y vl vm).drop 1).take (icells x).length := by
  unfold acells
  rw [List.drop_succ_cons, List.drop_zero, List.take_left]
theorem acells_mid2 (z : Int) (x y : Nd.In) (vl vm : Value) (hx : x.ps.length = 9) : icells y = ((acells z x y vl vm).drop 24).take (icells y).length := by
  unfold acells
  rw [List.drop_succ_cons, List.drop_left' (icells_len x hx), List.take_left]
theorem acells_at (z : Int) (x y : Nd.In) (vl vm : Value) (hx : x.ps.length = 9) (hy : y.ps.length = 9) : (acells z x y vl vm)[47]? = some vl ∧ (acells z x y vl vm)[48]? = some vm := by
  unfold acells
  have h1 := icells_len x hx
  have h2 := icells_len y hy
  constructor
  · rw [List.getElem?_cons_succ, List.getElem?_append_right (by omega), List.getElem?_append_right (by omega), h1, h2]; rfl
  · rw [List.getElem?_cons_succ, List.getElem?_append_right (by omega), List.getElem?_append_right (by omega), h1, h2]; rfl

set_option maxRecDepth 100000 in
set_option maxHeartbeats 8000000 in
theorem inodeApart_walk (w : World) (z : Nat) (X Y : Nd.In) (vl vm : Value) (l m : List (Int × Nat)) (hz : z < 256) (gx : Nd.Good X) (gy : Nd.Good Y) (pl : Ptrs w w.heap.size vl l) (pm : Ptrs w w.heap.size vm m) (sl : ∀ p ∈ l, p.2 < 4294967296) (sm : ∀ p ∈ m, p.2 < 4294967296) (hH : Halves w) :
    Calls Tryd.prog 5 #[.agg (acells z X Y vl vm).toArray] w fun e w' => e = .returned (.bool true) ∧ Below w.heap.size w w' := by
  have HX := Lib.hid gx.1
  have HY := Lib.hid gy.1
  have GX := Lib.hid gx
  have GY := Lib.hid gy
  have SL := Lib.hid sl
  have SM := Lib.hid sm
  obtain ⟨A1, e1, rfl, q1, r1, _⟩ := pl.open_
  obtain ⟨A2, e2, rfl, q2, r2, _⟩ := pm.open_
  have PL := Lib.hid pl
  have PM := Lib.hid pm
  clear gx gy sl sm pl pm
  go_enter Tryd.func5, Tryd.ntmps5
  go_wp2_with fail
  have hk := Blk.new w 44 (acells z X Y (.slice A1 l.length e1) (.slice A2 m.length e2)).toArray
  have b0 := (Below.refl w.heap.size w).alloc (Nat.le_refl _) (.cells (acells z X Y (.slice A1 l.length e1) (.slice A2 m.length e2)).toArray 44)
  change Blk _ _ _ (acells z X Y (.slice A1 l.length e1) (.slice A2 m.length e2)) at hk
  generalize w.alloc (.cells (acells z X Y (.slice A1 l.length e1) (.slice A2 m.length e2)).toArray 44) = w0 at *
  generalize w.heap.size = gq at hk ⊢
  refine wp_region_vars 17 [.pointer (some ⟨gq, 0, none⟩), .int .u8 (z : Int), .pointer (some ⟨gq, 1, none⟩), .agg (icells X).toArray, .pointer (some ⟨gq, 24, none⟩), .agg (icells Y).toArray, .pointer (some ⟨gq, 47, none⟩), .slice A1 l.length e1, .pointer (some ⟨gq, 48, none⟩), .slice A2 m.length e2, undef, undef, .int .u8 (z : Int), undef, undef, .slice A1 l.length e1, .slice A2 m.length e2] [⟨10, 13, 4, 20, 27, icells Nd.In.zero, icells X⟩, ⟨11, 14, 5, 22, 27, icells Nd.In.zero, icells Y⟩] (by kernel_rfl) rfl (by kernel_rfl) rfl ?_ ?_ ?_
  · intro xv hxv
    simp only [List.mem_cons, List.not_mem_nil, or_false] at hxv
    rcases hxv with rfl | rfl
    · refine ⟨by kernel_rfl, by kernel_rfl, of_decide_eq_true (by kernel_rfl), by rw [icells_len _ HX.out]; rfl, by kernel_rfl, ⟨3, by kernel_rfl, by simp, rfl⟩, ?_, ?_⟩
      · intro a x K h
        refine wpOp_plain rfl rfl ?_
        go_simp
        exact h
      · intro a x g K h1 h2 h3 h
        refine wpOp_plain rfl rfl ?_
        refine wp_store_mid 27 (.tmp 4) (.tmp 20) rfl g 0 (icells X).toArray h1 h2 (by rw [List.size_toArray]; exact h3) (infoI X HX.out) (all_oneCell_toArray icells_one) ?_
        exact h
    · refine ⟨by kernel_rfl, by kernel_rfl, of_decide_eq_true (by kernel_rfl), by rw [icells_len _ HY.out]; rfl, by kernel_rfl, ⟨5, by kernel_rfl, by simp, rfl⟩, ?_, ?_⟩
      · intro a x K h
        refine wpOp_plain rfl rfl ?_
        go_simp
        exact h
      · intro a x g K h1 h2 h3 h
        refine wpOp_plain rfl rfl ?_
        refine wp_store_mid 27 (.tmp 5) (.tmp 22) rfl g 0 (icells Y).toArray h1 h2 (by rw [List.size_toArray]; exact h3) (infoI Y HY.out) (all_oneCell_toArray icells_one) ?_
        exact h
  · refine ⟨?_, ?_, ?_, ?_, ?_, ?_, ?_, ?_, ?_, ?_, ?_, ?_, ?_, ?_, ?_, ?_, ?_, trivial⟩
    · intro _ a x hG hd hs K hK
      replace hG : Below (w0).heap.size (w0) x := hG
      replace hK : ∀ (v : Value) w', v = .pointer (some ⟨gq, 0, none⟩) → Below (w0).heap.size (w0) w' → Below x.heap.size x w' → K _ w' := fun v w' e1 e2 e3 => hK v w' (fun _ => e1) e2 e3
      have h1 : a.tmps.getD 1 undef = .pointer (some ⟨gq, 0, none⟩) := hs 1 (by kernel_rfl)
      clear hd hs
      refine wpOp_plain rfl rfl ?_
      go_simp
      exact hK _ _ rfl hG (Below.refl _ _)
    · intro _ a x hG hd hs K hK
      replace hG : Below (w0).heap.size (w0) x := hG
      replace hK : ∀ (v : Value) w', v = .int .u8 (z : Int) → Below (w0).heap.size (w0) w' → Below x.heap.size x w' → K _ w' := fun v w' e1 e2 e3 => hK v w' (fun _ => e1) e2 e3
      have h17 : a.tmps.getD 17 undef = .pointer (some ⟨gq, 0, none⟩) := hd 0 17 (by kernel_rfl) (by simp)
      clear hd hs
      refine wpOp_plain rfl rfl ?_
      have x0 := (hk.ext hG).cell 0
      unfold acells at x0
      simp only [List.getElem?_cons_zero] at x0
      go_simp
      exact hK _ _ rfl hG (Below.refl _ _)
    · intro _ a x hG hd hs K hK
      replace hG : Below (w0).heap.size (w0) x := hG
      replace hK : ∀ (v : Value) w', v = .pointer (some ⟨gq, 1, none⟩) → Below (w0).heap.size (w0) w' → Below x.heap.size x w' → K _ w' := fun v w' e1 e2 e3 => hK v w' (fun _ => e1) e2 e3
      have h1 : a.tmps.getD 1 undef = .pointer (some ⟨gq, 0, none⟩) := hs 1 (by kernel_rfl)
      clear hd hs
      refine wpOp_plain rfl rfl ?_
      go_simp
      exact hK _ _ rfl hG (Below.refl _ _)
    · intro _ a x hG hd hs K hK
      replace hG : Below (w0).heap.size (w0) x := hG
      replace hK : ∀ (v : Value) w', v = .agg (icells X).toArray → Below (w0).heap.size (w0) w' → Below x.heap.size x w' → K _ w' := fun v w' e1 e2 e3 => hK v w' (fun _ => e1) e2 e3
      have h19 : a.tmps.getD 19 undef = .pointer (some ⟨gq, 1, none⟩) := hd 2 19 (by kernel_rfl) (by simp)
      clear hd hs
      refine wpOp_plain rfl rfl ?_
      refine wp_load_mid 27 (.tmp 19) rfl gq 1 h19 (icells X) _ ((hk.ext hG).rangeMid 1 _ (acells_mid1 _ _ _ _ _)) Tryd.underlying27 rfl (infoI _ HX.out) ?_
      exact hK _ _ rfl hG (Below.refl _ _)
    · intro _ a x hG hd hs K hK
      replace hG : Below (w0).heap.size (w0) x := hG
      replace hK : ∀ (v : Value) w', v = .pointer (some ⟨gq, 24, none⟩) → Below (w0).heap.size (w0) w' → Below x.heap.size x w' → K _ w' := fun v w' e1 e2 e3 => hK v w' (fun _ => e1) e2 e3
      have h1 : a.tmps.getD 1 undef = .pointer (some ⟨gq, 0, none⟩) := hs 1 (by kernel_rfl)
      clear hd hs
      refine wpOp_plain rfl rfl ?_
      go_simp
      exact hK _ _ rfl hG (Below.refl _ _)
    · intro _ a x hG hd hs K hK
      replace hG : Below (w0).heap.size (w0) x := hG
      replace hK : ∀ (v : Value) w', v = .agg (icells Y).toArray → Below (w0).heap.size (w0) w' → Below x.heap.size x w' → K _ w' := fun v w' e1 e2 e3 => hK v w' (fun _ => e1) e2 e3
      have h21 : a.tmps.getD 21 undef = .pointer (some ⟨gq, 24, none⟩) := hd 4 21 (by kernel_rfl) (by simp)
      clear hd hs
      refine wpOp_plain rfl rfl ?_
      refine wp_load_mid 27 (.tmp 21) rfl gq 24 h21 (icells Y) _ ((hk.ext hG).rangeMid 24 _ (acells_mid2 _ _ _ _ _ HX.out)) Tryd.underlying27 rfl (infoI _ HY.out) ?_
      exact hK _ _ rfl hG (Below.refl _ _)
    · intro _ a x hG hd hs K hK
      replace hG : Below (w0).heap.size (w0) x := hG
      replace hK : ∀ (v : Value) w', v = .pointer (some ⟨gq, 47, none⟩) → Below (w0).heap.size (w0) w' → Below x.heap.size x w' → K _ w' := fun v w' e1 e2 e3 => hK v w' (fun _ => e1) e2 e3
      have h1 : a.tmps.getD 1 undef = .pointer (some ⟨gq, 0, none⟩) := hs 1 (by kernel_rfl)
      clear hd hs
      refine wpOp_plain rfl rfl ?_
      go_simp
      exact hK _ _ rfl hG (Below.refl _ _)
    · intro _ a x hG hd hs K hK
      replace hG : Below (w0).heap.size (w0) x := hG
      replace hK : ∀ (v : Value) w', v = .slice A1 l.length e1 → Below (w0).heap.size (w0) w' → Below x.heap.size x w' → K _ w' := fun v w' e1 e2 e3 => hK v w' (fun _ => e1) e2 e3
      have h23 : a.tmps.getD 23 undef = .pointer (some ⟨gq, 47, none⟩) := hd 6 23 (by kernel_rfl) (by simp)
      clear hd hs
      refine wpOp_plain rfl rfl ?_
      have x0 := (hk.ext hG).cell 47
      rw [(acells_at _ _ _ _ _ HX.out HY.out).1] at x0
      go_simp
      exact hK _ _ rfl hG (Below.refl _ _)
    · intro _ a x hG hd hs K hK
      replace hG : Below (w0).heap.size (w0) x := hG
      replace hK : ∀ (v : Value) w', v = .pointer (some ⟨gq, 48, none⟩) → Below (w0).heap.size (w0) w' → Below x.heap.size x w' → K _ w' := fun v w' e1 e2 e3 => hK v w' (fun _ => e1) e2 e3
      have h1 : a.tmps.getD 1 undef = .pointer (some ⟨gq, 0, none⟩) := hs 1 (by kernel_rfl)
      clear hd hs
      refine wpOp_plain rfl rfl ?_
      go_simp
      exact hK _ _ rfl hG (Below.refl _ _)
    · intro _ a x hG hd hs K hK
      replace hG : Below (w0).heap.size (w0) x := hG
      replace hK : ∀ (v : Value) w', v = .slice A2 m.length e2 → Below (w0).heap.size (w0) w' → Below x.heap.size x w' → K _ w' := fun v w' e1 e2 e3 => hK v w' (fun _ => e1) e2 e3
      have h25 : a.tmps.getD 25 undef = .pointer (some ⟨gq, 48, none⟩) := hd 8 25 (by kernel_rfl) (by simp)
      clear hd hs
      refine wpOp_plain rfl rfl ?_
      have x0 := (hk.ext hG).cell 48
      rw [(acells_at _ _ _ _ _ HX.out HY.out).2] at x0
      go_simp
      exact hK _ _ rfl hG (Below.refl _ _)
    · intro hno
      exact absurd rfl ((hno _ (List.Mem.head _)).1)
    · intro hno
      exact absurd rfl ((hno _ (List.Mem.tail _ (List.Mem.head _))).1)
    · intro _ a x hG hd hs K hK
      replace hG : Below (w0).heap.size (w0) x := hG
      replace hK : ∀ (v : Value) w', v = .int .u8 (z : Int) → Below (w0).heap.size (w0) w' → Below x.heap.size x w' → K _ w' := fun v w' e1 e2 e3 => hK v w' (fun _ => e1) e2 e3
      have h18 : a.tmps.getD 18 undef = .int .u8 (z : Int) := hd 1 18 (by kernel_rfl) (by simp)
      clear hd hs
      refine wpOp_plain rfl rfl ?_
      go_simp
      exact hK _ _ rfl hG (Below.refl _ _)
    · intro hno
      exact absurd rfl ((hno _ (List.Mem.head _)).2)
    · intro hno
      exact absurd rfl ((hno _ (List.Mem.tail _ (List.Mem.head _))).2)
    · intro _ a x hG hd hs K hK
      replace hG : Below (w0).heap.size (w0) x := hG
      replace hK : ∀ (v : Value) w', v = .slice A1 l.length e1 → Below (w0).heap.size (w0) w' → Below x.heap.size x w' → K _ w' := fun v w' e1 e2 e3 => hK v w' (fun _ => e1) e2 e3
      have h24 : a.tmps.getD 24 undef = .slice A1 l.length e1 := hd 7 24 (by kernel_rfl) (by simp)
      clear hd hs
      refine wpOp_plain rfl rfl ?_
      go_simp
      exact hK _ _ rfl hG (Below.refl _ _)
    · intro _ a x hG hd hs K hK
      replace hG : Below (w0).heap.size (w0) x := hG
      replace hK : ∀ (v : Value) w', v = .slice A2 m.length e2 → Below (w0).heap.size (w0) w' → Below x.heap.size x w' → K _ w' := fun v w' e1 e2 e3 => hK v w' (fun _ => e1) e2 e3
      have h26 : a.tmps.getD 26 undef = .slice A2 m.length e2 := hd 9 26 (by kernel_rfl) (by simp)
      clear hd hs
      refine wpOp_plain rfl rfl ?_
      go_simp
      exact hK _ _ rfl hG (Below.refl _ _)
  · intro x gs hG hgs
    intro v0 hv0 v1 hv1 v2 hv2 v3 hv3 v4 hv4 v5 hv5 v6 hv6 v7 hv7 v8 hv8 v9 hv9 v10 hv10 v11 hv11 v12 hv12 v15 hv15 v16 hv16
    replace hv0 : v0 = .pointer (some ⟨gq, 0, none⟩) := hv0
    subst hv0
    replace hv1 : v1 = .int .u8 (z : Int) := hv1
    subst hv1
    replace hv2 : v2 = .pointer (some ⟨gq, 1, none⟩) := hv2
    subst hv2
    replace hv3 : v3 = .agg (icells X).toArray := hv3
    subst hv3
    replace hv4 : v4 = .pointer (some ⟨gq, 24, none⟩) := hv4
    subst hv4
    replace hv5 : v5 = .agg (icells Y).toArray := hv5
    subst hv5
    replace hv6 : v6 = .pointer (some ⟨gq, 47, none⟩) := hv6
    subst hv6
    replace hv7 : v7 = .slice A1 l.length e1 := hv7
    subst hv7
    replace hv8 : v8 = .pointer (some ⟨gq, 48, none⟩) := hv8
    subst hv8
    replace hv9 : v9 = .slice A2 m.length e2 := hv9
    subst hv9
    replace hv10 : v10 = .pointer (some ⟨gs.getD 0 0, 0, none⟩) := hv10
    subst hv10
    replace hv11 : v11 = .pointer (some ⟨gs.getD 1 0, 0, none⟩) := hv11
    subst hv11
    replace hv12 : v12 = .int .u8 (z : Int) := hv12
    subst hv12
    replace hv15 : v15 = .slice A1 l.length e1 := hv15
    subst hv15
    replace hv16 : v16 = .slice A2 m.length e2 := hv16
    subst hv16
    obtain ⟨gl0, gk0⟩ := hgs 0 _ rfl
    replace gl0 : (w0).heap.size ≤ gs.getD 0 0 := gl0
    replace gk0 : Blk x (gs.getD 0 0) 27 (icells X) := gk0
    obtain ⟨gl1, gk1⟩ := hgs 1 _ rfl
    replace gl1 : (w0).heap.size ≤ gs.getD 1 0 := gl1
    replace gk1 : Blk x (gs.getD 1 0) 27 (icells Y) := gk1
    clear hgs
    generalize gs.getD 0 0 = gv0 at *
    generalize gs.getD 1 0 = gv1 at *
    simp only [Act.put, List.setIfInBounds_toArray, List.set_cons_zero, List.set_cons_succ, REnd]
    try simp only [Exit.then]
    have c1 := b0.trans (hG.mono b0.size)
    have k1 := gk0
    have j1 := gk1
    obtain ⟨w1, rfl⟩ : ∃ w1, w1 = x := ⟨x, rfl⟩
    clear hG gk0 gk1 gl0 gl1 hk b0
    obtain ⟨n, hn⟩ : ∃ n : Nat, n = 1 + z % 39 := ⟨_, rfl⟩
    have hi : Nd.inoB (n : Int) = true := by unfold Nd.inoB; rw [decide_eq_true_iff]; omega
    have HI := Lib.hid hi
    have hzn : 1 + (z : Int) % 39 = (n : Int) := by omega
    have HN := Lib.hid hzn
    clear hi hzn hn
    have r0 := k1.range
    go_wp2_with (refine wpList_load_at 27 (.tmp 4) rfl rfl gv0 0 rfl (icells X) _ r0 Tryd.underlying27 rfl (infoI _ HX.out) ?_)
    refine (encodeU_eq n _ HN.out X _ GX.out HI.out (hH.ext c1)).mono ?_
    rintro e w2 ⟨u1, rfl, ⟨B1, n1, f1, rfl⟩, hs1, b2⟩
    have k2 := k1.ext b2
    have j2 := j1.ext b2
    have c2 := c1.trans (b2.mono c1.size)
    have HS1 := Lib.hid hs1
    clear r0 k1 j1 c1 b2 hs1
    have r0 := j2.range
    generalize hE1 : (if Nd.mayB X = true then (0 : Int) else 1) = E1 at *
    have HE1 := Lib.hid hE1
    clear hE1
    go_wp2_with (refine wpList_load_at 27 (.tmp 5) rfl rfl gv1 0 rfl (icells Y) _ r0 Tryd.underlying27 rfl (infoI _ HY.out) ?_)
    refine (encodeU_eq n _ HN.out Y _ GY.out HI.out (hH.ext c2)).mono ?_
    rintro e w3 ⟨u2, rfl, ⟨B2, n2, f2, rfl⟩, hs2, b3⟩
    have k3 := k2.ext b3
    have j3 := j2.ext b3
    have c3 := c2.trans (b3.mono c2.size)
    have HS2 := Lib.hid hs2
    have HS1' := Lib.hid (show Nd.mayB X = true → Bs w3 w3.heap.size (.slice B1 n1 f1) (Nd.inE n X) from fun h => ((HS1.out h).ext (Nat.le_refl _) b3).more b3.size)
    clear r0 k2 j2 c2 b3 hs2 HS1
    generalize hE2 : (if Nd.mayB Y = true then (0 : Int) else 1) = E2 at *
    have HE2 := Lib.hid hE2
    clear hE2
    go_upto_region 5 with (fail)
    go_cut [59] (fun s wx => s = .bool false ∧ Below w3.heap.size w3 wx)
    case first =>
      cases hmx : Nd.mayB X with
      | false =>
        obtain rfl : E1 = 1 := by rw [← HE1.out, hmx]; rfl
        clear hmx
        have hG0 : Below w3.heap.size w3 w3.drew := (Below.refl _ _).drew
        refine wp_region_list 17 [(fun y_ _ => y_ = .int .i64 1),
          (fun y_ _ => y_ = .bool false),
          (fun y_ _ => y_ = .bool false),
          (fun y_ _ => y_ = undef),
          (fun y_ _ => y_ = undef),
          (fun y_ _ => y_ = .bool false),
          (fun y_ _ => y_ = .bool false),
          (fun y_ _ => y_ = undef),
          (fun y_ _ => y_ = undef),
          (fun y_ _ => y_ = undef),
          (fun y_ _ => y_ = undef),
          (fun y_ _ => y_ = undef),
          (fun y_ _ => y_ = undef),
          (fun y_ _ => y_ = undef),
          (fun y_ _ => y_ = undef),
          (fun y_ _ => y_ = undef),
          (fun y_ _ => y_ = .bool false)]
          (fun x => Below w3.heap.size w3 x) (by kernel_rfl) rfl (by kernel_rfl) ?_ ?_ ?_ ?_
        · exact hG0
        · exact ⟨stab_eq _, stab_eq _, stab_eq _, stab_eq _, stab_eq _, stab_eq _, stab_eq _, stab_eq _, stab_eq _, stab_eq _, stab_eq _, stab_eq _, stab_eq _, stab_eq _, stab_eq _, stab_eq _, stab_eq _, trivial⟩
        · refine ⟨?_, ?_, ?_, ?_, ?_, ?_, ?_, ?_, ?_, ?_, ?_, ?_, ?_, ?_, ?_, ?_, ?_, trivial⟩
          · intro a x hG hd hs K hK
            have h10 : a.tmps.getD 10 undef = .int .i64 1 := hs 10 (by kernel_rfl)
            clear hd hs
            refine wpOp_plain rfl rfl ?_
            go_simp
            exact hK _ _ rfl hG (Below.refl _ _)
          · intro a x hG hd hs K hK
            have h43 : a.tmps.getD 43 undef = .int .i64 1 := hd 0 43 (by kernel_rfl)
            clear hd hs
            refine wpOp_plain rfl rfl ?_
            go_simp
            exact hK _ _ rfl hG (Below.refl _ _)
          · intro a x hG hd hs K hK
            have h44 : a.tmps.getD 44 undef = .bool false := hd 1 44 (by kernel_rfl)
            clear hd hs
            refine wpOp_plain rfl rfl ?_
            go_simp
            exact hK _ _ rfl hG (Below.refl _ _)
          · intro a x hG hd hs K hK
            have h12 : a.tmps.getD 12 undef = .int .i64 E2 := hs 12 (by kernel_rfl)
            have h45 : a.tmps.getD 45 undef = .bool false := hd 2 45 (by kernel_rfl)
            clear hd hs
            refine wpOp_no rfl rfl rfl h45 ?_
            exact hK _ _ rfl hG (Below.refl _ _)
          · intro a x hG hd hs K hK
            have h46 : a.tmps.getD 46 undef = undef := hd 3 46 (by kernel_rfl)
            have h45 : a.tmps.getD 45 undef = .bool false := hd 2 45 (by kernel_rfl)
            clear hd hs
            refine wpOp_no rfl rfl rfl h45 ?_
            exact hK _ _ rfl hG (Below.refl _ _)
          · intro a x hG hd hs K hK
            have h45 : a.tmps.getD 45 undef = .bool false := hd 2 45 (by kernel_rfl)
            have h47 : a.tmps.getD 47 undef = undef := hd 4 47 (by kernel_rfl)
            clear hd hs
            refine wpOp_plain rfl rfl ?_
            go_simp
            exact hK _ _ rfl hG (Below.refl _ _)
          · intro a x hG hd hs K hK
            have h48 : a.tmps.getD 48 undef = .bool false := hd 5 48 (by kernel_rfl)
            clear hd hs
            refine wpOp_plain rfl rfl ?_
            go_simp
            exact hK _ _ rfl hG (Below.refl _ _)
          · intro a x hG hd hs K hK
            have h9 : a.tmps.getD 9 undef = .slice B1 n1 f1 := hs 9 (by kernel_rfl)
            have h49 : a.tmps.getD 49 undef = .bool false := hd 6 49 (by kernel_rfl)
            clear hd hs
            refine wpOp_no rfl rfl rfl h49 ?_
            exact hK _ _ rfl hG (Below.refl _ _)
          · intro a x hG hd hs K hK
            have h50 : a.tmps.getD 50 undef = undef := hd 7 50 (by kernel_rfl)
            have h49 : a.tmps.getD 49 undef = .bool false := hd 6 49 (by kernel_rfl)
            clear hd hs
            refine wpOp_no rfl rfl rfl h49 ?_
            exact hK _ _ rfl hG (Below.refl _ _)
          · intro a x hG hd hs K hK
            have h11 : a.tmps.getD 11 undef = .slice B2 n2 f2 := hs 11 (by kernel_rfl)
            have h49 : a.tmps.getD 49 undef = .bool false := hd 6 49 (by kernel_rfl)
            clear hd hs
            refine wpOp_no rfl rfl rfl h49 ?_
            exact hK _ _ rfl hG (Below.refl _ _)
          · intro a x hG hd hs K hK
            have h52 : a.tmps.getD 52 undef = undef := hd 9 52 (by kernel_rfl)
            have h49 : a.tmps.getD 49 undef = .bool false := hd 6 49 (by kernel_rfl)
            clear hd hs
            refine wpOp_no rfl rfl rfl h49 ?_
            exact hK _ _ rfl hG (Below.refl _ _)
          · intro a x hG hd hs K hK
            have h51 : a.tmps.getD 51 undef = undef := hd 8 51 (by kernel_rfl)
            have h53 : a.tmps.getD 53 undef = undef := hd 10 53 (by kernel_rfl)
            have h49 : a.tmps.getD 49 undef = .bool false := hd 6 49 (by kernel_rfl)
            clear hd hs
            refine wpOp_no rfl rfl rfl h49 ?_
            exact hK _ _ rfl hG (Below.refl _ _)
          · intro a x hG hd hs K hK
            have h4 : a.tmps.getD 4 undef = .pointer (some ⟨gv0, 0, none⟩) := hs 4 (by kernel_rfl)
            have h49 : a.tmps.getD 49 undef = .bool false := hd 6 49 (by kernel_rfl)
            clear hd hs
            refine wpOp_no rfl rfl rfl h49 ?_
            exact hK _ _ rfl hG (Below.refl _ _)
          · intro a x hG hd hs K hK
            have h5 : a.tmps.getD 5 undef = .pointer (some ⟨gv1, 0, none⟩) := hs 5 (by kernel_rfl)
            have h49 : a.tmps.getD 49 undef = .bool false := hd 6 49 (by kernel_rfl)
            clear hd hs
            refine wpOp_no rfl rfl rfl h49 ?_
            exact hK _ _ rfl hG (Below.refl _ _)
          · intro a x hG hd hs K hK
            have h55 : a.tmps.getD 55 undef = undef := hd 12 55 (by kernel_rfl)
            have h56 : a.tmps.getD 56 undef = undef := hd 13 56 (by kernel_rfl)
            have h49 : a.tmps.getD 49 undef = .bool false := hd 6 49 (by kernel_rfl)
            clear hd hs
            refine wpOp_no rfl rfl rfl h49 ?_
            exact hK _ _ rfl hG (Below.refl _ _)
          · intro a x hG hd hs K hK
            have h54 : a.tmps.getD 54 undef = undef := hd 11 54 (by kernel_rfl)
            have h57 : a.tmps.getD 57 undef = undef := hd 14 57 (by kernel_rfl)
            have h49 : a.tmps.getD 49 undef = .bool false := hd 6 49 (by kernel_rfl)
            clear hd hs
            refine wpOp_no rfl rfl rfl h49 ?_
            exact hK _ _ rfl hG (Below.refl _ _)
          · intro a x hG hd hs K hK
            have h49 : a.tmps.getD 49 undef = .bool false := hd 6 49 (by kernel_rfl)
            have h58 : a.tmps.getD 58 undef = undef := hd 15 58 (by kernel_rfl)
            clear hd hs
            refine wpOp_plain rfl rfl ?_
            go_simp
            exact hK _ _ rfl hG (Below.refl _ _)
        · intro x hG
          rintro _ rfl _ rfl _ rfl _ rfl _ rfl _ rfl _ rfl _ rfl _ rfl _ rfl _ rfl _ rfl _ rfl _ rfl _ rfl _ rfl _ rfl
          simp only [Act.put, List.setIfInBounds_toArray, List.set_cons_zero, List.set_cons_succ, REnd]
          try simp only [Exit.then]
          go_wp2
          go_meet
          exact ⟨rfl, hG⟩
      | true =>
        obtain rfl : E1 = 0 := by rw [← HE1.out, hmx]; rfl
        cases hmy : Nd.mayB Y with
        | false =>
          obtain rfl : E2 = 1 := by rw [← HE2.out, hmy]; rfl
          clear hmx hmy
          have hG0 : Below w3.heap.size w3 w3.drew := (Below.refl _ _).drew
          refine wp_region_list 17 [(fun y_ _ => y_ = .int .i64 0),
            (fun y_ _ => y_ = .bool true),
            (fun y_ _ => y_ = .bool true),
            (fun y_ _ => y_ = .int .i64 1),
            (fun y_ _ => y_ = .bool false),
            (fun y_ _ => y_ = .bool false),
            (fun y_ _ => y_ = .bool false),
            (fun y_ _ => y_ = undef),
            (fun y_ _ => y_ = undef),
            (fun y_ _ => y_ = undef),
            (fun y_ _ => y_ = undef),
            (fun y_ _ => y_ = undef),
            (fun y_ _ => y_ = undef),
            (fun y_ _ => y_ = undef),
            (fun y_ _ => y_ = undef),
            (fun y_ _ => y_ = undef),
            (fun y_ _ => y_ = .bool false)]
            (fun x => Below w3.heap.size w3 x) (by kernel_rfl) rfl (by kernel_rfl) ?_ ?_ ?_ ?_
          · exact hG0
          · exact ⟨stab_eq _, stab_eq _, stab_eq _, stab_eq _, stab_eq _, stab_eq _, stab_eq _, stab_eq _, stab_eq _, stab_eq _, stab_eq _, stab_eq _, stab_eq _, stab_eq _, stab_eq _, stab_eq _, stab_eq _, trivial⟩
          · refine ⟨?_, ?_, ?_, ?_, ?_, ?_, ?_, ?_, ?_, ?_, ?_, ?_, ?_, ?_, ?_, ?_, ?_, trivial⟩
            · intro a x hG hd hs K hK
              have h10 : a.tmps.getD 10 undef = .int .i64 0 := hs 10 (by kernel_rfl)
              clear hd hs
              refine wpOp_plain rfl rfl ?_
              go_simp
              exact hK _ _ rfl hG (Below.refl _ _)
            · intro a x hG hd hs K hK
              have h43 : a.tmps.getD 43 undef = .int .i64 0 := hd 0 43 (by kernel_rfl)
              clear hd hs
              refine wpOp_plain rfl rfl ?_
              go_simp
              exact hK _ _ rfl hG (Below.refl _ _)
            · intro a x hG hd hs K hK
              have h44 : a.tmps.getD 44 undef = .bool true := hd 1 44 (by kernel_rfl)
              clear hd hs
              refine wpOp_plain rfl rfl ?_
              go_simp
              exact hK _ _ rfl hG (Below.refl _ _)
            · intro a x hG hd hs K hK
              have h12 : a.tmps.getD 12 undef = .int .i64 1 := hs 12 (by kernel_rfl)
              have h45 : a.tmps.getD 45 undef = .bool true := hd 2 45 (by kernel_rfl)
              clear hd hs
              refine wpOp_yes rfl rfl rfl h45 ?_
              go_simp
              exact hK _ _ rfl hG (Below.refl _ _)
            · intro a x hG hd hs K hK
              have h46 : a.tmps.getD 46 undef = .int .i64 1 := hd 3 46 (by kernel_rfl)
              have h45 : a.tmps.getD 45 undef = .bool true := hd 2 45 (by kernel_rfl)
              clear hd hs
              refine wpOp_yes rfl rfl rfl h45 ?_
              go_simp
              exact hK _ _ rfl hG (Below.refl _ _)
            · intro a x hG hd hs K hK
              have h45 : a.tmps.getD 45 undef = .bool true := hd 2 45 (by kernel_rfl)
              have h47 : a.tmps.getD 47 undef = .bool false := hd 4 47 (by kernel_rfl)
              clear hd hs
              refine wpOp_plain rfl rfl ?_
              go_simp
              exact hK _ _ rfl hG (Below.refl _ _)
            · intro a x hG hd hs K hK
              have h48 : a.tmps.getD 48 undef = .bool false := hd 5 48 (by kernel_rfl)
              clear hd hs
              refine wpOp_plain rfl rfl ?_
              go_simp
              exact hK _ _ rfl hG (Below.refl _ _)
            · intro a x hG hd hs K hK
              have h9 : a.tmps.getD 9 undef = .slice B1 n1 f1 := hs 9 (by kernel_rfl)
              have h49 : a.tmps.getD 49 undef = .bool false := hd 6 49 (by kernel_rfl)
              clear hd hs
              refine wpOp_no rfl rfl rfl h49 ?_
              exact hK _ _ rfl hG (Below.refl _ _)
            · intro a x hG hd hs K hK
              have h50 : a.tmps.getD 50 undef = undef := hd 7 50 (by kernel_rfl)
              have h49 : a.tmps.getD 49 undef = .bool false := hd 6 49 (by kernel_rfl)
              clear hd hs
              refine wpOp_no rfl rfl rfl h49 ?_
              exact hK _ _ rfl hG (Below.refl _ _)
            · intro a x hG hd hs K hK
              have h11 : a.tmps.getD 11 undef = .slice B2 n2 f2 := hs 11 (by kernel_rfl)
              have h49 : a.tmps.getD 49 undef = .bool false := hd 6 49 (by kernel_rfl)
              clear hd hs
              refine wpOp_no rfl rfl rfl h49 ?_
              exact hK _ _ rfl hG (Below.refl _ _)
            · intro a x hG hd hs K hK
              have h52 : a.tmps.getD 52 undef = undef := hd 9 52 (by kernel_rfl)
              have h49 : a.tmps.getD 49 undef = .bool false := hd 6 49 (by kernel_rfl)
              clear hd hs
              refine wpOp_no rfl rfl rfl h49 ?_
              exact hK _ _ rfl hG (Below.refl _ _)
            · intro a x hG hd hs K hK
              have h51 : a.tmps.getD 51 undef = undef := hd 8 51 (by kernel_rfl)
              have h53 : a.tmps.getD 53 undef = undef := hd 10 53 (by kernel_rfl)
              have h49 : a.tmps.getD 49 undef = .bool false := hd 6 49 (by kernel_rfl)
              clear hd hs
              refine wpOp_no rfl rfl rfl h49 ?_
              exact hK _ _ rfl hG (Below.refl _ _)
            · intro a x hG hd hs K hK
              have h4 : a.tmps.getD 4 undef = .pointer (some ⟨gv0, 0, none⟩) := hs 4 (by kernel_rfl)
              have h49 : a.tmps.getD 49 undef = .bool false := hd 6 49 (by kernel_rfl)
              clear hd hs
              refine wpOp_no rfl rfl rfl h49 ?_
              exact hK _ _ rfl hG (Below.refl _ _)
            · intro a x hG hd hs K hK
              have h5 : a.tmps.getD 5 undef = .pointer (some ⟨gv1, 0, none⟩) := hs 5 (by kernel_rfl)
              have h49 : a.tmps.getD 49 undef = .bool false := hd 6 49 (by kernel_rfl)
              clear hd hs
              refine wpOp_no rfl rfl rfl h49 ?_
              exact hK _ _ rfl hG (Below.refl _ _)
            · intro a x hG hd hs K hK
              have h55 : a.tmps.getD 55 undef = undef := hd 12 55 (by kernel_rfl)
              have h56 : a.tmps.getD 56 undef = undef := hd 13 56 (by kernel_rfl)
              have h49 : a.tmps.getD 49 undef = .bool false := hd 6 49 (by kernel_rfl)
              clear hd hs
              refine wpOp_no rfl rfl rfl h49 ?_
              exact hK _ _ rfl hG (Below.refl _ _)
            · intro a x hG hd hs K hK
              have h54 : a.tmps.getD 54 undef = undef := hd 11 54 (by kernel_rfl)
              have h57 : a.tmps.getD 57 undef = undef := hd 14 57 (by kernel_rfl)
              have h49 : a.tmps.getD 49 undef = .bool false := hd 6 49 (by kernel_rfl)
              clear hd hs
              refine wpOp_no rfl rfl rfl h49 ?_
              exact hK _ _ rfl hG (Below.refl _ _)
            · intro a x hG hd hs K hK
              have h49 : a.tmps.getD 49 undef = .bool false := hd 6 49 (by kernel_rfl)
              have h58 : a.tmps.getD 58 undef = undef := hd 15 58 (by kernel_rfl)
              clear hd hs
              refine wpOp_plain rfl rfl ?_
              go_simp
              exact hK _ _ rfl hG (Below.refl _ _)
          · intro x hG
            rintro _ rfl _ rfl _ rfl _ rfl _ rfl _ rfl _ rfl _ rfl _ rfl _ rfl _ rfl _ rfl _ rfl _ rfl _ rfl _ rfl _ rfl
            simp only [Act.put, List.setIfInBounds_toArray, List.set_cons_zero, List.set_cons_succ, REnd]
            try simp only [Exit.then]
            go_wp2
            go_meet
            exact ⟨rfl, hG⟩
        | true =>
          obtain rfl : E2 = 0 := by rw [← HE2.out, hmy]; rfl
          obtain ⟨D, hD⟩ : ∃ D, D = decide (X = Y) := ⟨_, rfl⟩
          have HDE := Lib.hid hD
          have HSE := Lib.hid (show (Nd.inE n X == Nd.inE n Y) = D by
            rw [hD, Bool.eq_iff_iff, decide_eq_true_iff]
            have := Nd.in_inj n n X Y HI.out HI.out hmx hmy GX.out GY.out
            simpa using this)
          have HS1 := Lib.hid (HS1'.out hmx)
          have HS2' := Lib.hid (HS2.out hmy)
          clear HS2
          have HS2 := HS2'
          clear hmx hmy hD HS2'
          have hG0 : Below w3.heap.size w3 w3.drew := (Below.refl _ _).drew
          refine wp_region_list 17 [(fun y_ _ => y_ = .int .i64 0),
            (fun y_ _ => y_ = .bool true),
            (fun y_ _ => y_ = .bool true),
            (fun y_ _ => y_ = .int .i64 0),
            (fun y_ _ => y_ = .bool true),
            (fun y_ _ => y_ = .bool true),
            (fun y_ _ => y_ = .bool true),
            (fun y_ _ => y_ = .slice B1 n1 f1),
            (fun y_ _ => y_ = .string ⟨(Nd.inE n X).toArray⟩),
            (fun y_ _ => y_ = .slice B2 n2 f2),
            (fun y_ _ => y_ = .string ⟨(Nd.inE n Y).toArray⟩),
            (fun y_ _ => y_ = .bool D),
            (fun y_ _ => y_ = .agg (icells X).toArray),
            (fun y_ _ => y_ = .agg (icells Y).toArray),
            (fun y_ _ => y_ = .bool D),
            (fun y_ _ => y_ = .bool false),
            (fun y_ _ => y_ = .bool false)]
            (fun x => Below w3.heap.size w3 x) (by kernel_rfl) rfl (by kernel_rfl) ?_ ?_ ?_ ?_
          · exact hG0
          · exact ⟨stab_eq _, stab_eq _, stab_eq _, stab_eq _, stab_eq _, stab_eq _, stab_eq _, stab_eq _, stab_eq _, stab_eq _, stab_eq _, stab_eq _, stab_eq _, stab_eq _, stab_eq _, stab_eq _, stab_eq _, trivial⟩
          · refine ⟨?_, ?_, ?_, ?_, ?_, ?_, ?_, ?_, ?_, ?_, ?_, ?_, ?_, ?_, ?_, ?_, ?_, trivial⟩
            · intro a x hG hd hs K hK
              have h10 : a.tmps.getD 10 undef = .int .i64 0 := hs 10 (by kernel_rfl)
              clear hd hs
              refine wpOp_plain rfl rfl ?_
              go_simp
              exact hK _ _ rfl hG (Below.refl _ _)
            · intro a x hG hd hs K hK
              have h43 : a.tmps.getD 43 undef = .int .i64 0 := hd 0 43 (by kernel_rfl)
              clear hd hs
              refine wpOp_plain rfl rfl ?_
              go_simp
              exact hK _ _ rfl hG (Below.refl _ _)
            · intro a x hG hd hs K hK
              have h44 : a.tmps.getD 44 undef = .bool true := hd 1 44 (by kernel_rfl)
              clear hd hs
              refine wpOp_plain rfl rfl ?_
              go_simp
              exact hK _ _ rfl hG (Below.refl _ _)
            · intro a x hG hd hs K hK
              have h12 : a.tmps.getD 12 undef = .int .i64 0 := hs 12 (by kernel_rfl)
              have h45 : a.tmps.getD 45 undef = .bool true := hd 2 45 (by kernel_rfl)
              clear hd hs
              refine wpOp_yes rfl rfl rfl h45 ?_
              go_simp
              exact hK _ _ rfl hG (Below.refl _ _)
            · intro a x hG hd hs K hK
              have h46 : a.tmps.getD 46 undef = .int .i64 0 := hd 3 46 (by kernel_rfl)
              have h45 : a.tmps.getD 45 undef = .bool true := hd 2 45 (by kernel_rfl)
              clear hd hs
              refine wpOp_yes rfl rfl rfl h45 ?_
              go_simp
              exact hK _ _ rfl hG (Below.refl _ _)
            · intro a x hG hd hs K hK
              have h45 : a.tmps.getD 45 undef = .bool true := hd 2 45 (by kernel_rfl)
              have h47 : a.tmps.getD 47 undef = .bool true := hd 4 47 (by kernel_rfl)
              clear hd hs
              refine wpOp_plain rfl rfl ?_
              go_simp
              exact hK _ _ rfl hG (Below.refl _ _)
            · intro a x hG hd hs K hK
              have h48 : a.tmps.getD 48 undef = .bool true := hd 5 48 (by kernel_rfl)
              clear hd hs
              refine wpOp_plain rfl rfl ?_
              go_simp
              exact hK _ _ rfl hG (Below.refl _ _)
            · intro a x hG hd hs K hK
              have h9 : a.tmps.getD 9 undef = .slice B1 n1 f1 := hs 9 (by kernel_rfl)
              have h49 : a.tmps.getD 49 undef = .bool true := hd 6 49 (by kernel_rfl)
              clear hd hs
              refine wpOp_yes rfl rfl rfl h49 ?_
              go_simp
              exact hK _ _ rfl hG (Below.refl _ _)
            · intro a x hG hd hs K hK
              have h50 : a.tmps.getD 50 undef = .slice B1 n1 f1 := hd 7 50 (by kernel_rfl)
              have h49 : a.tmps.getD 49 undef = .bool true := hd 6 49 (by kernel_rfl)
              clear hd hs
              refine wpOp_yes rfl rfl rfl h49 ?_
              have hst := run_string_of (P := Tryd.prog) (HS1.out.ext (Nat.le_refl _) hG) 28 9 5 Tryd.underlying28 Tryd.underlying5 Tryd.underlying9
              go_simp
              exact hK _ _ rfl hG (Below.refl _ _)
            · intro a x hG hd hs K hK
              have h11 : a.tmps.getD 11 undef = .slice B2 n2 f2 := hs 11 (by kernel_rfl)
              have h49 : a.tmps.getD 49 undef = .bool true := hd 6 49 (by kernel_rfl)
              clear hd hs
              refine wpOp_yes rfl rfl rfl h49 ?_
              go_simp
              exact hK _ _ rfl hG (Below.refl _ _)
            · intro a x hG hd hs K hK
              have h52 : a.tmps.getD 52 undef = .slice B2 n2 f2 := hd 9 52 (by kernel_rfl)
              have h49 : a.tmps.getD 49 undef = .bool true := hd 6 49 (by kernel_rfl)
              clear hd hs
              refine wpOp_yes rfl rfl rfl h49 ?_
              have hst := run_string_of (P := Tryd.prog) (HS2.out.ext (Nat.le_refl _) hG) 28 9 5 Tryd.underlying28 Tryd.underlying5 Tryd.underlying9
              go_simp
              exact hK _ _ rfl hG (Below.refl _ _)
            · intro a x hG hd hs K hK
              have h51 : a.tmps.getD 51 undef = .string ⟨(Nd.inE n X).toArray⟩ := hd 8 51 (by kernel_rfl)
              have h53 : a.tmps.getD 53 undef = .string ⟨(Nd.inE n Y).toArray⟩ := hd 10 53 (by kernel_rfl)
              have h49 : a.tmps.getD 49 undef = .bool true := hd 6 49 (by kernel_rfl)
              clear hd hs
              refine wpOp_yes rfl rfl rfl h49 ?_
              have hse := HSE.out
              go_simp
              exact hK _ _ rfl hG (Below.refl _ _)
            · intro a x hG hd hs K hK
              have h4 : a.tmps.getD 4 undef = .pointer (some ⟨gv0, 0, none⟩) := hs 4 (by kernel_rfl)
              have h49 : a.tmps.getD 49 undef = .bool true := hd 6 49 (by kernel_rfl)
              clear hd hs
              refine wpOp_yes rfl rfl rfl h49 ?_
              refine wp_load_mid 27 (.tmp 4) rfl gv0 0 h4 (icells X) _ (k3.ext hG).range Tryd.underlying27 rfl (infoI _ HX.out) ?_
              exact hK _ _ rfl hG (Below.refl _ _)
            · intro a x hG hd hs K hK
              have h5 : a.tmps.getD 5 undef = .pointer (some ⟨gv1, 0, none⟩) := hs 5 (by kernel_rfl)
              have h49 : a.tmps.getD 49 undef = .bool true := hd 6 49 (by kernel_rfl)
              clear hd hs
              refine wpOp_yes rfl rfl rfl h49 ?_
              refine wp_load_mid 27 (.tmp 5) rfl gv1 0 h5 (icells Y) _ (j3.ext hG).range Tryd.underlying27 rfl (infoI _ HY.out) ?_
              exact hK _ _ rfl hG (Below.refl _ _)
            · intro a x hG hd hs K hK
              have h55 : a.tmps.getD 55 undef = .agg (icells X).toArray := hd 12 55 (by kernel_rfl)
              have h56 : a.tmps.getD 56 undef = .agg (icells Y).toArray := hd 13 56 (by kernel_rfl)
              have h49 : a.tmps.getD 49 undef = .bool true := hd 6 49 (by kernel_rfl)
              clear hd hs
              refine wpOp_yes rfl rfl rfl h49 ?_
              refine wp_binop .eql 27 27 (.tmp 55) (.tmp 56) rfl h55 h56 eqGuardI (run_eql_in X Y HX.out HY.out D HDE.out _).1 ?_
              exact hK _ _ rfl hG (Below.refl _ _)
            · intro a x hG hd hs K hK
              have h54 : a.tmps.getD 54 undef = .bool D := hd 11 54 (by kernel_rfl)
              have h57 : a.tmps.getD 57 undef = .bool D := hd 14 57 (by kernel_rfl)
              have h49 : a.tmps.getD 49 undef = .bool true := hd 6 49 (by kernel_rfl)
              clear hd hs
              refine wpOp_yes rfl rfl rfl h49 ?_
              go_simp
              exact hK _ _ rfl hG (Below.refl _ _)
            · intro a x hG hd hs K hK
              have h49 : a.tmps.getD 49 undef = .bool true := hd 6 49 (by kernel_rfl)
              have h58 : a.tmps.getD 58 undef = .bool false := hd 15 58 (by kernel_rfl)
              clear hd hs
              refine wpOp_plain rfl rfl ?_
              go_simp
              exact hK _ _ rfl hG (Below.refl _ _)
          · intro x hG
            rintro _ rfl _ rfl _ rfl _ rfl _ rfl _ rfl _ rfl _ rfl _ rfl _ rfl _ rfl _ rfl _ rfl _ rfl _ rfl _ rfl _ rfl
            simp only [Act.put, List.setIfInBounds_toArray, List.set_cons_zero, List.set_cons_succ, REnd]
            try simp only [Exit.then]
            go_wp2
            go_meet
            exact ⟨rfl, hG⟩
    obtain ⟨rfl, bc⟩ := hcut
    have c4 := c3.trans (bc.mono c3.size)
    obtain ⟨w4, rfl⟩ : ∃ w4, w4 = wc := ⟨wc, rfl⟩
    clear k3 j3 HS2 HS1' HE1 HE2 c3 bc
    go_upto_if 62 with (fail)
    go_cut [6] (fun s wx => w4 = wx ∧ ∃ q : List (Int × Nat), s = .slice A1 q.length e1 ∧ q.length ≤ 20 ∧ Hid (Ptrs w w.heap.size (.slice A1 q.length e1) q ∧ ∀ p ∈ q, p.2 < 4294967296))
    case first =>
      by_cases h20 : 20 < l.length
      · have g1 : (20 : Int) < (l.length : Int) := by omega
        have g2 : (20 : Int) ≤ e1 := by omega
        have g3 : (20 : Nat) ≤ e1 := by omega
        have HH := Lib.hid (And.intro (PL.out.head' (k := 20) (by omega)) (show ∀ p ∈ l.take 20, p.2 < 4294967296 from fun p hp => SL.out p (List.mem_of_mem_take hp)))
        have HL := Lib.hid (show (l.take 20).length = 20 by rw [List.length_take]; omega)
        go_wp2
        go_meet
        exact ⟨rfl, l.take 20, by rw [HL.out], by rw [HL.out]; omega, by rw [HL.out]; exact HH⟩
      · have g1 : ¬ (20 : Int) < (l.length : Int) := by omega
        go_wp2
        go_meet
        exact ⟨rfl, l, rfl, by omega, ⟨PL.out, SL.out⟩⟩
    obtain ⟨rfl, ql, rfl, hql, Hql⟩ := hcut
    go_upto_if 67 with (fail)
    go_cut [7] (fun s wx => w4 = wx ∧ ∃ q : List (Int × Nat), s = .slice A2 q.length e2 ∧ q.length ≤ 20 ∧ Hid (Ptrs w w.heap.size (.slice A2 q.length e2) q ∧ ∀ p ∈ q, p.2 < 4294967296))
    case first =>
      by_cases h20 : 20 < m.length
      · have g1 : (20 : Int) < (m.length : Int) := by omega
        have g2 : (20 : Int) ≤ e2 := by omega
        have g3 : (20 : Nat) ≤ e2 := by omega
        have HH := Lib.hid (And.intro (PM.out.head' (k := 20) (by omega)) (show ∀ p ∈ m.take 20, p.2 < 4294967296 from fun p hp => SM.out p (List.mem_of_mem_take hp)))
        have HL := Lib.hid (show (m.take 20).length = 20 by rw [List.length_take]; omega)
        go_wp2
        go_meet
        exact ⟨rfl, m.take 20, by rw [HL.out], by rw [HL.out]; omega, by rw [HL.out]; exact HH⟩
      · have g1 : ¬ (20 : Int) < (m.length : Int) := by omega
        go_wp2
        go_meet
        exact ⟨rfl, m, rfl, by omega, ⟨PM.out, SM.out⟩⟩
    obtain ⟨rfl, qm, rfl, hqm, Hqm⟩ := hcut
    have HP1 := Lib.hid (show Ptrs w4 w4.heap.size (.slice A1 ql.length e1) ql from (Rds.ext Hql.out.1 (Nat.le_refl _) c4).more c4.size)
    have HP2 := Lib.hid (show Ptrs w4 w4.heap.size (.slice A2 qm.length e2) qm from (Rds.ext Hqm.out.1 (Nat.le_refl _) c4).more c4.size)
    have SQL := Lib.hid Hql.out.2
    have SQM := Lib.hid Hqm.out.2
    have SQL := Lib.hid Hql.out.2
    have SQM := Lib.hid Hqm.out.2
    clear Hql Hqm PL PM SL SM
    go_wp2_with fail
    refine (nodeU w4 _ _ ql HP1.out (Nat.le_refl _) SQL.out (hH.ext c4)).mono ?_
    rintro e w5 ⟨u1, rfl, ⟨B1, n1, f1, rfl⟩, hs1, b5⟩
    have c5 := c4.trans (b5.mono c4.size)
    have HS1 := Lib.hid hs1
    have HP1' := Lib.hid (show Ptrs w5 w5.heap.size (.slice A1 ql.length e1) ql from (Rds.ext HP1.out (Nat.le_refl _) b5).more b5.size)
    have HP2' := Lib.hid (show Ptrs w5 w5.heap.size (.slice A2 qm.length e2) qm from (Rds.ext HP2.out (Nat.le_refl _) b5).more b5.size)
    clear b5 c4 hs1 HP1 HP2
    generalize hE1 : (if (decide (ql.length = 15) && ql.all Nd.ptrB) = true then (0 : Int) else 1) = E1 at *
    have HE1 := Lib.hid hE1
    clear hE1
    go_wp2_with fail
    refine (nodeU w5 _ _ qm HP2'.out (Nat.le_refl _) SQM.out (hH.ext c5)).mono ?_
    rintro e w6 ⟨u2, rfl, ⟨B2, n2, f2, rfl⟩, hs2, b6⟩
    have c6 := c5.trans (b6.mono c5.size)
    have HS2 := Lib.hid hs2
    have HS1' := Lib.hid (show (decide (ql.length = 15) && ql.all Nd.ptrB) = true → Bs w6 w6.heap.size (.slice B1 n1 f1) (Nd.ndE ql) from fun h => ((HS1.out h).ext (Nat.le_refl _) b6).more b6.size)
    have HP1 := Lib.hid (show Ptrs w6 w6.heap.size (.slice A1 ql.length e1) ql from (Rds.ext HP1'.out (Nat.le_refl _) b6).more b6.size)
    have HP2 := Lib.hid (show Ptrs w6 w6.heap.size (.slice A2 qm.length e2) qm from (Rds.ext HP2'.out (Nat.le_refl _) b6).more b6.size)
    clear b6 c5 hs2 HP1' HP2' HS1
    generalize hE2 : (if (decide (qm.length = 15) && qm.all Nd.ptrB) = true then (0 : Int) else 1) = E2 at *
    have HE2 := Lib.hid hE2
    clear hE2
    go_wp2_with fail
    cases hmx : (decide (ql.length = 15) && ql.all Nd.ptrB) with
    | false =>
      obtain rfl : E1 = 1 := by rw [← HE1.out, hmx]; rfl
      clear hmx
      have hG0 : Below w6.heap.size w6 w6.drew := (Below.refl _ _).drew
      refine wp_region_list 21 [(fun y_ _ => y_ = .int .i64 1),
        (fun y_ _ => y_ = .bool true),
        (fun y_ _ => y_ = .bool true),
        (fun y_ _ => y_ = undef),
        (fun y_ _ => y_ = undef),
        (fun y_ _ => y_ = .bool true),
        (fun y_ _ => y_ = .bool true),
        (fun y_ _ => y_ = undef),
        (fun y_ _ => y_ = undef),
        (fun y_ _ => y_ = undef),
        (fun y_ _ => y_ = undef),
        (fun y_ _ => y_ = undef),
        (fun y_ _ => y_ = undef),
        (fun y_ _ => y_ = undef),
        (fun y_ _ => y_ = undef),
        (fun y_ _ => y_ = undef),
        (fun y_ _ => y_ = .bool true),
        (fun y_ _ => y_ = .bool true),
        (fun y_ _ => y_ = .bool true),
        (fun y_ _ => y_ = .bool true),
        (fun y_ _ => y_ = .bool true)]
        (fun x => Below w6.heap.size w6 x) (by kernel_rfl) rfl (by kernel_rfl) ?_ ?_ ?_ ?_
      · exact hG0
      · exact ⟨stab_eq _, stab_eq _, stab_eq _, stab_eq _, stab_eq _, stab_eq _, stab_eq _, stab_eq _, stab_eq _, stab_eq _, stab_eq _, stab_eq _, stab_eq _, stab_eq _, stab_eq _, stab_eq _, stab_eq _, stab_eq _, stab_eq _, stab_eq _, stab_eq _, trivial⟩
      · refine ⟨?_, ?_, ?_, ?_, ?_, ?_, ?_, ?_, ?_, ?_, ?_, ?_, ?_, ?_, ?_, ?_, ?_, ?_, ?_, ?_, ?_, trivial⟩
        · intro a x hG hd hs K hK
          have h14 : a.tmps.getD 14 undef = .int .i64 1 := hs 14 (by kernel_rfl)
          clear hd hs
          refine wpOp_plain rfl rfl ?_
          go_simp
          exact hK _ _ rfl hG (Below.refl _ _)
        · intro a x hG hd hs K hK
          have h80 : a.tmps.getD 80 undef = .int .i64 1 := hd 0 80 (by kernel_rfl)
          clear hd hs
          refine wpOp_plain rfl rfl ?_
          go_simp
          exact hK _ _ rfl hG (Below.refl _ _)
        · intro a x hG hd hs K hK
          have h81 : a.tmps.getD 81 undef = .bool true := hd 1 81 (by kernel_rfl)
          clear hd hs
          refine wpOp_plain rfl rfl ?_
          go_simp
          exact hK _ _ rfl hG (Below.refl _ _)
        · intro a x hG hd hs K hK
          have h16 : a.tmps.getD 16 undef = .int .i64 E2 := hs 16 (by kernel_rfl)
          have h82 : a.tmps.getD 82 undef = .bool true := hd 2 82 (by kernel_rfl)
          clear hd hs
          refine wpOp_no rfl rfl rfl h82 ?_
          exact hK _ _ rfl hG (Below.refl _ _)
        · intro a x hG hd hs K hK
          have h83 : a.tmps.getD 83 undef = undef := hd 3 83 (by kernel_rfl)
          have h82 : a.tmps.getD 82 undef = .bool true := hd 2 82 (by kernel_rfl)
          clear hd hs
          refine wpOp_no rfl rfl rfl h82 ?_
          exact hK _ _ rfl hG (Below.refl _ _)
        · intro a x hG hd hs K hK
          have h82 : a.tmps.getD 82 undef = .bool true := hd 2 82 (by kernel_rfl)
          have h84 : a.tmps.getD 84 undef = undef := hd 4 84 (by kernel_rfl)
          clear hd hs
          refine wpOp_plain rfl rfl ?_
          go_simp
          exact hK _ _ rfl hG (Below.refl _ _)
        · intro a x hG hd hs K hK
          have h85 : a.tmps.getD 85 undef = .bool true := hd 5 85 (by kernel_rfl)
          clear hd hs
          refine wpOp_plain rfl rfl ?_
          go_simp
          exact hK _ _ rfl hG (Below.refl _ _)
        · intro a x hG hd hs K hK
          have h13 : a.tmps.getD 13 undef = .slice B1 n1 f1 := hs 13 (by kernel_rfl)
          have h86 : a.tmps.getD 86 undef = .bool true := hd 6 86 (by kernel_rfl)
          clear hd hs
          refine wpOp_no rfl rfl rfl h86 ?_
          exact hK _ _ rfl hG (Below.refl _ _)
        · intro a x hG hd hs K hK
          have h87 : a.tmps.getD 87 undef = undef := hd 7 87 (by kernel_rfl)
          have h86 : a.tmps.getD 86 undef = .bool true := hd 6 86 (by kernel_rfl)
          clear hd hs
          refine wpOp_no rfl rfl rfl h86 ?_
          exact hK _ _ rfl hG (Below.refl _ _)
        · intro a x hG hd hs K hK
          have h15 : a.tmps.getD 15 undef = .slice B2 n2 f2 := hs 15 (by kernel_rfl)
          have h86 : a.tmps.getD 86 undef = .bool true := hd 6 86 (by kernel_rfl)
          clear hd hs
          refine wpOp_no rfl rfl rfl h86 ?_
          exact hK _ _ rfl hG (Below.refl _ _)
        · intro a x hG hd hs K hK
          have h89 : a.tmps.getD 89 undef = undef := hd 9 89 (by kernel_rfl)
          have h86 : a.tmps.getD 86 undef = .bool true := hd 6 86 (by kernel_rfl)
          clear hd hs
          refine wpOp_no rfl rfl rfl h86 ?_
          exact hK _ _ rfl hG (Below.refl _ _)
        · intro a x hG hd hs K hK
          have h88 : a.tmps.getD 88 undef = undef := hd 8 88 (by kernel_rfl)
          have h90 : a.tmps.getD 90 undef = undef := hd 10 90 (by kernel_rfl)
          have h86 : a.tmps.getD 86 undef = .bool true := hd 6 86 (by kernel_rfl)
          clear hd hs
          refine wpOp_no rfl rfl rfl h86 ?_
          exact hK _ _ rfl hG (Below.refl _ _)
        · intro a x hG hd hs K hK
          have h6 : a.tmps.getD 6 undef = .slice A1 ql.length e1 := hs 6 (by kernel_rfl)
          have h86 : a.tmps.getD 86 undef = .bool true := hd 6 86 (by kernel_rfl)
          clear hd hs
          refine wpOp_no rfl rfl rfl h86 ?_
          exact hK _ _ rfl hG (Below.refl _ _)
        · intro a x hG hd hs K hK
          have h7 : a.tmps.getD 7 undef = .slice A2 qm.length e2 := hs 7 (by kernel_rfl)
          have h86 : a.tmps.getD 86 undef = .bool true := hd 6 86 (by kernel_rfl)
          clear hd hs
          refine wpOp_no rfl rfl rfl h86 ?_
          exact hK _ _ rfl hG (Below.refl _ _)
        · intro a x hG hd hs K hK
          have h92 : a.tmps.getD 92 undef = undef := hd 12 92 (by kernel_rfl)
          have h93 : a.tmps.getD 93 undef = undef := hd 13 93 (by kernel_rfl)
          have h86 : a.tmps.getD 86 undef = .bool true := hd 6 86 (by kernel_rfl)
          clear hd hs
          refine wpOp_no rfl rfl rfl h86 ?_
          exact hK _ _ rfl hG (Below.refl _ _)
        · intro a x hG hd hs K hK
          have h91 : a.tmps.getD 91 undef = undef := hd 11 91 (by kernel_rfl)
          have h94 : a.tmps.getD 94 undef = undef := hd 14 94 (by kernel_rfl)
          have h86 : a.tmps.getD 86 undef = .bool true := hd 6 86 (by kernel_rfl)
          clear hd hs
          refine wpOp_no rfl rfl rfl h86 ?_
          exact hK _ _ rfl hG (Below.refl _ _)
        · intro a x hG hd hs K hK
          have h86 : a.tmps.getD 86 undef = .bool true := hd 6 86 (by kernel_rfl)
          have h95 : a.tmps.getD 95 undef = undef := hd 15 95 (by kernel_rfl)
          clear hd hs
          refine wpOp_plain rfl rfl ?_
          go_simp
          exact hK _ _ rfl hG (Below.refl _ _)
        · intro a x hG hd hs K hK
          have h96 : a.tmps.getD 96 undef = .bool true := hd 16 96 (by kernel_rfl)
          clear hd hs
          refine wpOp_plain rfl rfl ?_
          go_simp
          exact hK _ _ rfl hG (Below.refl _ _)
        · intro a x hG hd hs K hK
          have h97 : a.tmps.getD 97 undef = .bool true := hd 17 97 (by kernel_rfl)
          clear hd hs
          refine wpOp_yes rfl rfl rfl h97 ?_
          go_simp
          refine (awake_any _ (hH.ext (c6.trans (hG.mono c6.size)))).mono ?_
          rintro e w' ⟨rfl, hb⟩
          exact hK _ _ rfl (hG.trans (hb.mono hG.size)) hb
        · intro a x hG hd hs K hK
          have h97 : a.tmps.getD 97 undef = .bool true := hd 17 97 (by kernel_rfl)
          have h98 : a.tmps.getD 98 undef = .bool true := hd 18 98 (by kernel_rfl)
          clear hd hs
          refine wpOp_plain rfl rfl ?_
          go_simp
          exact hK _ _ rfl hG (Below.refl _ _)
        · intro a x hG hd hs K hK
          have h99 : a.tmps.getD 99 undef = .bool true := hd 19 99 (by kernel_rfl)
          clear hd hs
          refine wpOp_plain rfl rfl ?_
          go_simp
          exact hK _ _ rfl hG (Below.refl _ _)
      · intro x hG
        rintro _ rfl _ rfl _ rfl _ rfl _ rfl _ rfl _ rfl _ rfl _ rfl _ rfl _ rfl _ rfl _ rfl _ rfl _ rfl _ rfl _ rfl _ rfl _ rfl _ rfl _ rfl
        simp only [Act.put, List.setIfInBounds_toArray, List.set_cons_zero, List.set_cons_succ, REnd]
        try simp only [Exit.then]
        go_wp2
        go_ret
        exact ⟨rfl, c6.trans (hG.mono c6.size)⟩
    | true =>
      obtain rfl : E1 = 0 := by rw [← HE1.out, hmx]; rfl
      cases hmy : (decide (qm.length = 15) && qm.all Nd.ptrB) with
      | false =>
        obtain rfl : E2 = 1 := by rw [← HE2.out, hmy]; rfl
        clear hmx hmy
        have hG0 : Below w6.heap.size w6 w6.drew := (Below.refl _ _).drew
        refine wp_region_list 21 [(fun y_ _ => y_ = .int .i64 0),
          (fun y_ _ => y_ = .bool false),
          (fun y_ _ => y_ = .bool false),
          (fun y_ _ => y_ = .int .i64 1),
          (fun y_ _ => y_ = .bool true),
          (fun y_ _ => y_ = .bool true),
          (fun y_ _ => y_ = .bool true),
          (fun y_ _ => y_ = undef),
          (fun y_ _ => y_ = undef),
          (fun y_ _ => y_ = undef),
          (fun y_ _ => y_ = undef),
          (fun y_ _ => y_ = undef),
          (fun y_ _ => y_ = undef),
          (fun y_ _ => y_ = undef),
          (fun y_ _ => y_ = undef),
          (fun y_ _ => y_ = undef),
          (fun y_ _ => y_ = .bool true),
          (fun y_ _ => y_ = .bool true),
          (fun y_ _ => y_ = .bool true),
          (fun y_ _ => y_ = .bool true),
          (fun y_ _ => y_ = .bool true)]
          (fun x => Below w6.heap.size w6 x) (by kernel_rfl) rfl (by kernel_rfl) ?_ ?_ ?_ ?_
        · exact hG0
        · exact ⟨stab_eq _, stab_eq _, stab_eq _, stab_eq _, stab_eq _, stab_eq _, stab_eq _, stab_eq _, stab_eq _, stab_eq _, stab_eq _, stab_eq _, stab_eq _, stab_eq _, stab_eq _, stab_eq _, stab_eq _, stab_eq _, stab_eq _, stab_eq _, stab_eq _, trivial⟩
        · refine ⟨?_, ?_, ?_, ?_, ?_, ?_, ?_, ?_, ?_, ?_, ?_, ?_, ?_, ?_, ?_, ?_, ?_, ?_, ?_, ?_, ?_, trivial⟩
          · intro a x hG hd hs K hK
            have h14 : a.tmps.getD 14 undef = .int .i64 0 := hs 14 (by kernel_rfl)
            clear hd hs
            refine wpOp_plain rfl rfl ?_
            go_simp
            exact hK _ _ rfl hG (Below.refl _ _)
          · intro a x hG hd hs K hK
            have h80 : a.tmps.getD 80 undef = .int .i64 0 := hd 0 80 (by kernel_rfl)
            clear hd hs
            refine wpOp_plain rfl rfl ?_
            go_simp
            exact hK _ _ rfl hG (Below.refl _ _)
          · intro a x hG hd hs K hK
            have h81 : a.tmps.getD 81 undef = .bool false := hd 1 81 (by kernel_rfl)
            clear hd hs
            refine wpOp_plain rfl rfl ?_
            go_simp
            exact hK _ _ rfl hG (Below.refl _ _)
          · intro a x hG hd hs K hK
            have h16 : a.tmps.getD 16 undef = .int .i64 1 := hs 16 (by kernel_rfl)
            have h82 : a.tmps.getD 82 undef = .bool false := hd 2 82 (by kernel_rfl)
            clear hd hs
            refine wpOp_yes rfl rfl rfl h82 ?_
            go_simp
            exact hK _ _ rfl hG (Below.refl _ _)
          · intro a x hG hd hs K hK
            have h83 : a.tmps.getD 83 undef = .int .i64 1 := hd 3 83 (by kernel_rfl)
            have h82 : a.tmps.getD 82 undef = .bool false := hd 2 82 (by kernel_rfl)
            clear hd hs
            refine wpOp_yes rfl rfl rfl h82 ?_
            go_simp
            exact hK _ _ rfl hG (Below.refl _ _)
          · intro a x hG hd hs K hK
            have h82 : a.tmps.getD 82 undef = .bool false := hd 2 82 (by kernel_rfl)
            have h84 : a.tmps.getD 84 undef = .bool true := hd 4 84 (by kernel_rfl)
            clear hd hs
            refine wpOp_plain rfl rfl ?_
            go_simp
            exact hK _ _ rfl hG (Below.refl _ _)
          · intro a x hG hd hs K hK
            have h85 : a.tmps.getD 85 undef = .bool true := hd 5 85 (by kernel_rfl)
            clear hd hs
            refine wpOp_plain rfl rfl ?_
            go_simp
            exact hK _ _ rfl hG (Below.refl _ _)
          · intro a x hG hd hs K hK
            have h13 : a.tmps.getD 13 undef = .slice B1 n1 f1 := hs 13 (by kernel_rfl)
            have h86 : a.tmps.getD 86 undef = .bool true := hd 6 86 (by kernel_rfl)
            clear hd hs
            refine wpOp_no rfl rfl rfl h86 ?_
            exact hK _ _ rfl hG (Below.refl _ _)
          · intro a x hG hd hs K hK
            have h87 : a.tmps.getD 87 undef = undef := hd 7 87 (by kernel_rfl)
            have h86 : a.tmps.getD 86 undef = .bool true := hd 6 86 (by kernel_rfl)
            clear hd hs
            refine wpOp_no rfl rfl rfl h86 ?_
            exact hK _ _ rfl hG (Below.refl _ _)
          · intro a x hG hd hs K hK
            have h15 : a.tmps.getD 15 undef = .slice B2 n2 f2 := hs 15 (by kernel_rfl)
            have h86 : a.tmps.getD 86 undef = .bool true := hd 6 86 (by kernel_rfl)
            clear hd hs
            refine wpOp_no rfl rfl rfl h86 ?_
            exact hK _ _ rfl hG (Below.refl _ _)
          · intro a x hG hd hs K hK
            have h89 : a.tmps.getD 89 undef = undef := hd 9 89 (by kernel_rfl)
            have h86 : a.tmps.getD 86 undef = .bool true := hd 6 86 (by kernel_rfl)
            clear hd hs
            refine wpOp_no rfl rfl rfl h86 ?_
            exact hK _ _ rfl hG (Below.refl _ _)
          · intro a x hG hd hs K hK
            have h88 : a.tmps.getD 88 undef = undef := hd 8 88 (by kernel_rfl)
            have h90 : a.tmps.getD 90 undef = undef := hd 10 90 (by kernel_rfl)
            have h86 : a.tmps.getD 86 undef = .bool true := hd 6 86 (by kernel_rfl)
            clear hd hs
            refine wpOp_no rfl rfl rfl h86 ?_
            exact hK _ _ rfl hG (Below.refl _ _)
          · intro a x hG hd hs K hK
            have h6 : a.tmps.getD 6 undef = .slice A1 ql.length e1 := hs 6 (by kernel_rfl)
            have h86 : a.tmps.getD 86 undef = .bool true := hd 6 86 (by kernel_rfl)
            clear hd hs
            refine wpOp_no rfl rfl rfl h86 ?_
            exact hK _ _ rfl hG (Below.refl _ _)
          · intro a x hG hd hs K hK
            have h7 : a.tmps.getD 7 undef = .slice A2 qm.length e2 := hs 7 (by kernel_rfl)
            have h86 : a.tmps.getD 86 undef = .bool true := hd 6 86 (by kernel_rfl)
            clear hd hs
            refine wpOp_no rfl rfl rfl h86 ?_
            exact hK _ _ rfl hG (Below.refl _ _)
          · intro a x hG hd hs K hK
            have h92 : a.tmps.getD 92 undef = undef := hd 12 92 (by kernel_rfl)
            have h93 : a.tmps.getD 93 undef = undef := hd 13 93 (by kernel_rfl)
            have h86 : a.tmps.getD 86 undef = .bool true := hd 6 86 (by kernel_rfl)
            clear hd hs
            refine wpOp_no rfl rfl rfl h86 ?_
            exact hK _ _ rfl hG (Below.refl _ _)
          · intro a x hG hd hs K hK
            have h91 : a.tmps.getD 91 undef = undef := hd 11 91 (by kernel_rfl)
            have h94 : a.tmps.getD 94 undef = undef := hd 14 94 (by kernel_rfl)
            have h86 : a.tmps.getD 86 undef = .bool true := hd 6 86 (by kernel_rfl)
            clear hd hs
            refine wpOp_no rfl rfl rfl h86 ?_
            exact hK _ _ rfl hG (Below.refl _ _)
          · intro a x hG hd hs K hK
            have h86 : a.tmps.getD 86 undef = .bool true := hd 6 86 (by kernel_rfl)
            have h95 : a.tmps.getD 95 undef = undef := hd 15 95 (by kernel_rfl)
            clear hd hs
            refine wpOp_plain rfl rfl ?_
            go_simp
            exact hK _ _ rfl hG (Below.refl _ _)
          · intro a x hG hd hs K hK
            have h96 : a.tmps.getD 96 undef = .bool true := hd 16 96 (by kernel_rfl)
            clear hd hs
            refine wpOp_plain rfl rfl ?_
            go_simp
            exact hK _ _ rfl hG (Below.refl _ _)
          · intro a x hG hd hs K hK
            have h97 : a.tmps.getD 97 undef = .bool true := hd 17 97 (by kernel_rfl)
            clear hd hs
            refine wpOp_yes rfl rfl rfl h97 ?_
            go_simp
            refine (awake_any _ (hH.ext (c6.trans (hG.mono c6.size)))).mono ?_
            rintro e w' ⟨rfl, hb⟩
            exact hK _ _ rfl (hG.trans (hb.mono hG.size)) hb
          · intro a x hG hd hs K hK
            have h97 : a.tmps.getD 97 undef = .bool true := hd 17 97 (by kernel_rfl)
            have h98 : a.tmps.getD 98 undef = .bool true := hd 18 98 (by kernel_rfl)
            clear hd hs
            refine wpOp_plain rfl rfl ?_
            go_simp
            exact hK _ _ rfl hG (Below.refl _ _)
          · intro a x hG hd hs K hK
            have h99 : a.tmps.getD 99 undef = .bool true := hd 19 99 (by kernel_rfl)
            clear hd hs
            refine wpOp_plain rfl rfl ?_
            go_simp
            exact hK _ _ rfl hG (Below.refl _ _)
        · intro x hG
          rintro _ rfl _ rfl _ rfl _ rfl _ rfl _ rfl _ rfl _ rfl _ rfl _ rfl _ rfl _ rfl _ rfl _ rfl _ rfl _ rfl _ rfl _ rfl _ rfl _ rfl _ rfl
          simp only [Act.put, List.setIfInBounds_toArray, List.set_cons_zero, List.set_cons_succ, REnd]
          try simp only [Exit.then]
          go_wp2
          go_ret
          exact ⟨rfl, c6.trans (hG.mono c6.size)⟩
      | true =>
        obtain rfl : E2 = 0 := by rw [← HE2.out, hmy]; rfl
        obtain ⟨D, hD⟩ : ∃ D, D = decide (ql = qm) := ⟨_, rfl⟩
        have HDE := Lib.hid hD
        have HSE := Lib.hid (show (Nd.ndE ql == Nd.ndE qm) = D by
          rw [hD, Bool.eq_iff_iff, decide_eq_true_iff]
          rw [Bool.and_eq_true, decide_eq_true_iff] at hmx hmy
          have := Nd.nd_inj ql qm hmx.1 hmy.1 hmx.2 hmy.2 SQL.out SQM.out
          simpa using this)
        have HS1 := Lib.hid (HS1'.out hmx)
        have HS2' := Lib.hid (HS2.out hmy)
        clear HS2
        have HS2 := HS2'
        clear hmx hmy hD HS2'
        have hG0 : Below w6.heap.size w6 w6.drew := (Below.refl _ _).drew
        refine wp_region_list 21 [(fun y_ _ => y_ = .int .i64 0),
          (fun y_ _ => y_ = .bool false),
          (fun y_ _ => y_ = .bool false),
          (fun y_ _ => y_ = .int .i64 0),
          (fun y_ _ => y_ = .bool false),
          (fun y_ _ => y_ = .bool false),
          (fun y_ _ => y_ = .bool false),
          (fun y_ _ => y_ = .slice B1 n1 f1),
          (fun y_ _ => y_ = .string ⟨(Nd.ndE ql).toArray⟩),
          (fun y_ _ => y_ = .slice B2 n2 f2),
          (fun y_ _ => y_ = .string ⟨(Nd.ndE qm).toArray⟩),
          (fun y_ _ => y_ = .bool D),
          (fun y_ _ => y_ = .slice A1 ql.length e1),
          (fun y_ _ => y_ = .slice A2 qm.length e2),
          (fun y_ _ => y_ = .bool D),
          (fun y_ _ => y_ = .bool true),
          (fun y_ _ => y_ = .bool true),
          (fun y_ _ => y_ = .bool true),
          (fun y_ _ => y_ = .bool true),
          (fun y_ _ => y_ = .bool true),
          (fun y_ _ => y_ = .bool true)]
          (fun x => Below w6.heap.size w6 x) (by kernel_rfl) rfl (by kernel_rfl) ?_ ?_ ?_ ?_
        · exact hG0
        · exact ⟨stab_eq _, stab_eq _, stab_eq _, stab_eq _, stab_eq _, stab_eq _, stab_eq _, stab_eq _, stab_eq _, stab_eq _, stab_eq _, stab_eq _, stab_eq _, stab_eq _, stab_eq _, stab_eq _, stab_eq _, stab_eq _, stab_eq _, stab_eq _, stab_eq _, trivial⟩
        · refine ⟨?_, ?_, ?_, ?_, ?_, ?_, ?_, ?_, ?_, ?_, ?_, ?_, ?_, ?_, ?_, ?_, ?_, ?_, ?_, ?_, ?_, trivial⟩
          · intro a x hG hd hs K hK
            have h14 : a.tmps.getD 14 undef = .int .i64 0 := hs 14 (by kernel_rfl)
            clear hd hs
            refine wpOp_plain rfl rfl ?_
            go_simp
            exact hK _ _ rfl hG (Below.refl _ _)
          · intro a x hG hd hs K hK
            have h80 : a.tmps.getD 80 undef = .int .i64 0 := hd 0 80 (by kernel_rfl)
            clear hd hs
            refine wpOp_plain rfl rfl ?_
            go_simp
            exact hK _ _ rfl hG (Below.refl _ _)
          · intro a x hG hd hs K hK
            have h81 : a.tmps.getD 81 undef = .bool false := hd 1 81 (by kernel_rfl)
            clear hd hs
            refine wpOp_plain rfl rfl ?_
            go_simp
            exact hK _ _ rfl hG (Below.refl _ _)
          · intro a x hG hd hs K hK
            have h16 : a.tmps.getD 16 undef = .int .i64 0 := hs 16 (by kernel_rfl)
            have h82 : a.tmps.getD 82 undef = .bool false := hd 2 82 (by kernel_rfl)
            clear hd hs
            refine wpOp_yes rfl rfl rfl h82 ?_
            go_simp
            exact hK _ _ rfl hG (Below.refl _ _)
          · intro a x hG hd hs K hK
            have h83 : a.tmps.getD 83 undef = .int .i64 0 := hd 3 83 (by kernel_rfl)
            have h82 : a.tmps.getD 82 undef = .bool false := hd 2 82 (by kernel_rfl)
            clear hd hs
            refine wpOp_yes rfl rfl rfl h82 ?_
            go_simp
            exact hK _ _ rfl hG (Below.refl _ _)
          · intro a x hG hd hs K hK
            have h82 : a.tmps.getD 82 undef = .bool false := hd 2 82 (by kernel_rfl)
            have h84 : a.tmps.getD 84 undef = .bool false := hd 4 84 (by kernel_rfl)
            clear hd hs
            refine wpOp_plain rfl rfl ?_
            go_simp
            exact hK _ _ rfl hG (Below.refl _ _)
          · intro a x hG hd hs K hK
            have h85 : a.tmps.getD 85 undef = .bool false := hd 5 85 (by kernel_rfl)
            clear hd hs
            refine wpOp_plain rfl rfl ?_
            go_simp
            exact hK _ _ rfl hG (Below.refl _ _)
          · intro a x hG hd hs K hK
            have h13 : a.tmps.getD 13 undef = .slice B1 n1 f1 := hs 13 (by kernel_rfl)
            have h86 : a.tmps.getD 86 undef = .bool false := hd 6 86 (by kernel_rfl)
            clear hd hs
            refine wpOp_yes rfl rfl rfl h86 ?_
            go_simp
            exact hK _ _ rfl hG (Below.refl _ _)
          · intro a x hG hd hs K hK
            have h87 : a.tmps.getD 87 undef = .slice B1 n1 f1 := hd 7 87 (by kernel_rfl)
            have h86 : a.tmps.getD 86 undef = .bool false := hd 6 86 (by kernel_rfl)
            clear hd hs
            refine wpOp_yes rfl rfl rfl h86 ?_
            have hst := run_string_of (P := Tryd.prog) (HS1.out.ext (Nat.le_refl _) hG) 28 9 5 Tryd.underlying28 Tryd.underlying5 Tryd.underlying9
            go_simp
            exact hK _ _ rfl hG (Below.refl _ _)
          · intro a x hG hd hs K hK
            have h15 : a.tmps.getD 15 undef = .slice B2 n2 f2 := hs 15 (by kernel_rfl)
            have h86 : a.tmps.getD 86 undef = .bool false := hd 6 86 (by kernel_rfl)
            clear hd hs
            refine wpOp_yes rfl rfl rfl h86 ?_
            go_simp
            exact hK _ _ rfl hG (Below.refl _ _)
          · intro a x hG hd hs K hK
            have h89 : a.tmps.getD 89 undef = .slice B2 n2 f2 := hd 9 89 (by kernel_rfl)
            have h86 : a.tmps.getD 86 undef = .bool false := hd 6 86 (by kernel_rfl)
            clear hd hs
            refine wpOp_yes rfl rfl rfl h86 ?_
            have hst := run_string_of (P := Tryd.prog) (HS2.out.ext (Nat.le_refl _) hG) 28 9 5 Tryd.underlying28 Tryd.underlying5 Tryd.underlying9
            go_simp
            exact hK _ _ rfl hG (Below.refl _ _)
          · intro a x hG hd hs K hK
            have h88 : a.tmps.getD 88 undef = .string ⟨(Nd.ndE ql).toArray⟩ := hd 8 88 (by kernel_rfl)
            have h90 : a.tmps.getD 90 undef = .string ⟨(Nd.ndE qm).toArray⟩ := hd 10 90 (by kernel_rfl)
            have h86 : a.tmps.getD 86 undef = .bool false := hd 6 86 (by kernel_rfl)
            clear hd hs
            refine wpOp_yes rfl rfl rfl h86 ?_
            have hse := HSE.out
            go_simp
            exact hK _ _ rfl hG (Below.refl _ _)
          · intro a x hG hd hs K hK
            have h6 : a.tmps.getD 6 undef = .slice A1 ql.length e1 := hs 6 (by kernel_rfl)
            have h86 : a.tmps.getD 86 undef = .bool false := hd 6 86 (by kernel_rfl)
            clear hd hs
            refine wpOp_yes rfl rfl rfl h86 ?_
            go_simp
            exact hK _ _ rfl hG (Below.refl _ _)
          · intro a x hG hd hs K hK
            have h7 : a.tmps.getD 7 undef = .slice A2 qm.length e2 := hs 7 (by kernel_rfl)
            have h86 : a.tmps.getD 86 undef = .bool false := hd 6 86 (by kernel_rfl)
            clear hd hs
            refine wpOp_yes rfl rfl rfl h86 ?_
            go_simp
            exact hK _ _ rfl hG (Below.refl _ _)
          · intro a x hG hd hs K hK
            have h92 : a.tmps.getD 92 undef = .slice A1 ql.length e1 := hd 12 92 (by kernel_rfl)
            have h93 : a.tmps.getD 93 undef = .slice A2 qm.length e2 := hd 13 93 (by kernel_rfl)
            have h86 : a.tmps.getD 86 undef = .bool false := hd 6 86 (by kernel_rfl)
            clear hd hs
            refine wpOp_yes rfl rfl rfl h86 ?_
            go_simp
            refine (rsame_any _ _ _ _ ql qm (Rds.ext HP1.out (Nat.le_refl _) hG) (Rds.ext HP2.out (Nat.le_refl _) hG) hG.size).mono ?_
            rintro e w' ⟨rfl, hb⟩
            rw [← HDE.out]
            exact hK _ _ rfl (hG.trans (hb.mono hG.size)) hb
          · intro a x hG hd hs K hK
            have h91 : a.tmps.getD 91 undef = .bool D := hd 11 91 (by kernel_rfl)
            have h94 : a.tmps.getD 94 undef = .bool D := hd 14 94 (by kernel_rfl)
            have h86 : a.tmps.getD 86 undef = .bool false := hd 6 86 (by kernel_rfl)
            clear hd hs
            refine wpOp_yes rfl rfl rfl h86 ?_
            go_simp
            exact hK _ _ rfl hG (Below.refl _ _)
          · intro a x hG hd hs K hK
            have h86 : a.tmps.getD 86 undef = .bool false := hd 6 86 (by kernel_rfl)
            have h95 : a.tmps.getD 95 undef = .bool true := hd 15 95 (by kernel_rfl)
            clear hd hs
            refine wpOp_plain rfl rfl ?_
            go_simp
            exact hK _ _ rfl hG (Below.refl _ _)
          · intro a x hG hd hs K hK
            have h96 : a.tmps.getD 96 undef = .bool true := hd 16 96 (by kernel_rfl)
            clear hd hs
            refine wpOp_plain rfl rfl ?_
            go_simp
            exact hK _ _ rfl hG (Below.refl _ _)
          · intro a x hG hd hs K hK
            have h97 : a.tmps.getD 97 undef = .bool true := hd 17 97 (by kernel_rfl)
            clear hd hs
            refine wpOp_yes rfl rfl rfl h97 ?_
            go_simp
            refine (awake_any _ (hH.ext (c6.trans (hG.mono c6.size)))).mono ?_
            rintro e w' ⟨rfl, hb⟩
            exact hK _ _ rfl (hG.trans (hb.mono hG.size)) hb
          · intro a x hG hd hs K hK
            have h97 : a.tmps.getD 97 undef = .bool true := hd 17 97 (by kernel_rfl)
            have h98 : a.tmps.getD 98 undef = .bool true := hd 18 98 (by kernel_rfl)
            clear hd hs
            refine wpOp_plain rfl rfl ?_
            go_simp
            exact hK _ _ rfl hG (Below.refl _ _)
          · intro a x hG hd hs K hK
            have h99 : a.tmps.getD 99 undef = .bool true := hd 19 99 (by kernel_rfl)
            clear hd hs
            refine wpOp_plain rfl rfl ?_
            go_simp
            exact hK _ _ rfl hG (Below.refl _ _)
        · intro x hG
          rintro _ rfl _ rfl _ rfl _ rfl _ rfl _ rfl _ rfl _ rfl _ rfl _ rfl _ rfl _ rfl _ rfl _ rfl _ rfl _ rfl _ rfl _ rfl _ rfl _ rfl _ rfl
          simp only [Act.put, List.setIfInBounds_toArray, List.set_cons_zero, List.set_cons_succ, REnd]
          try simp only [Exit.then]
          go_wp2
          go_ret
          exact ⟨rfl, c6.trans (hG.mono c6.size)⟩

def apWit : Value := .agg (acells 0 Nd.In.zero Nd.In.zero (.slice none 0 0) (.slice none 0 0)).toArray
/-- What the walk gives, for every argument and every world that holds the table. -/
theorem inodeApart_contract (H : Type) (enc : TypeId × Value → H) (W : World) (base : Nat) (args : Array Value) (ds gs : List (DataW H)) (before : List MemPlace)
    (hval : ∀ (j : Nat) t v, Tryd.f5.params[j]? = some t → args[j]? = some v → Value.okWide Tryd.prog W .any base t v)
    (hW : DataW.Whole enc Tryd.prog Tryd.f5.params.toList Rows.inodeApartSpec.vars false W args.toList ds gs before) (hL : laidMetH Tryd.prog Rows.inodeApartRow.laid W) :
    Calls Tryd.prog 5 args W fun e W' => ∃ v, e = .returned v ∧ Rows.inodeApartSpec.post enc Tryd.prog Tryd.f5 false true false false W args v W' := by
  have hW' := hW
  obtain ⟨p, q, hA0, hV, hps, hfz, hnd⟩ := hW
  have hA : DataW.TrodAll enc Tryd.prog W 0 (fun _ => true) true Tryd.f5.params.toList args.toList ds p := hA0
  rw [Tryd.params5] at hA hval
  obtain ⟨v0, vs0, d0, ds0, p0, q0, hargs, rfl, rfl, h0, r0⟩ := trodAll_cons hA
  obtain ⟨rfl, rfl, rfl⟩ := trodAll_nil r0
  obtain rfl : args = #[v0] := by cases args; simp_all
  obtain ⟨rfl, rfl⟩ := trodVars_none hV
  obtain ⟨z, X, Y, vl, vm, l, m, rfl, hz, gx, gy, pl, pm, sl, sm⟩ := apart_of_trod (hval 0 44 v0 rfl rfl) h0
  clear hA0
  refine (inodeApart_walk W z X Y vl vm l m hz gx gy pl pm sl sm (halves_of hL)).mono fun e W' ⟨he, hb⟩ => ?_
  subst he
  exact ⟨_, rfl, law_post laidOut (by rw [Tryd.params5]; decide +kernel) rfl Tryd.underlying4 rfl rfl hW' hb⟩

theorem inodeApart_met (os : Os) : laidMet Tryd.prog Rows.inodeApartRow.laid ((laidWorld os).forCall (fun _ _ => 0) ⟨#[], #[apWit], []⟩).memory :=
  laidMet_of_run' 8 (by kernel_rfl) (by kernel_rfl)
theorem inodeApart_reads (os : Os) {H : Type} (enc : TypeId × Value → H) : ∃ places, DataW.whole enc Tryd.prog ((laidWorld os).forCall (fun _ _ => 0) ⟨#[], #[apWit], []⟩).memory Tryd.f5.params.toList Rows.inodeApartSpec.vars false (#[apWit] : Array Value).toList 8 = some ([.agg [.lit (.int .u8 0), .agg [.lit (.int .i64 0), .lit (.int .i64 0), .lit (.int .i64 0), .lit (.int .i64 0), .lit (.int .i64 0), .agg [.agg [.lit (.int .i64 0), .lit (.int .u32 0)], .agg [.lit (.int .i64 0), .lit (.int .u32 0)], .agg [.lit (.int .i64 0), .lit (.int .u32 0)], .agg [.lit (.int .i64 0), .lit (.int .u32 0)], .agg [.lit (.int .i64 0), .lit (.int .u32 0)], .agg [.lit (.int .i64 0), .lit (.int .u32 0)], .agg [.lit (.int .i64 0), .lit (.int .u32 0)], .agg [.lit (.int .i64 0), .lit (.int .u32 0)], .agg [.lit (.int .i64 0), .lit (.int .u32 0)]]], .agg [.lit (.int .i64 0), .lit (.int .i64 0), .lit (.int .i64 0), .lit (.int .i64 0), .lit (.int .i64 0), .agg [.agg [.lit (.int .i64 0), .lit (.int .u32 0)], .agg [.lit (.int .i64 0), .lit (.int .u32 0)], .agg [.lit (.int .i64 0), .lit (.int .u32 0)], .agg [.lit (.int .i64 0), .lit (.int .u32 0)], .agg [.lit (.int .i64 0), .lit (.int .u32 0)], .agg [.lit (.int .i64 0), .lit (.int .u32 0)], .agg [.lit (.int .i64 0), .lit (.int .u32 0)], .agg [.lit (.int .i64 0), .lit (.int .u32 0)], .agg [.lit (.int .i64 0), .lit (.int .u32 0)]]], .nil, .nil]], [], places) :=
  ⟨[], by kernel_rfl⟩

set_option maxRecDepth 100000 in
theorem inodeApart_lifted (os : Os) (started : os.Started) (H : Type) (enc : TypeId × Value → H) (F : Stop.Interp) :
    ReturnsInHanded {} Tryd.checked os 5 .any ((OpenSpec.ofChange Rows.inodeApartSpec).preRow enc Tryd.prog Tryd.f5 Rows.inodeApartRow.domain false Rows.inodeApartRow.laid) (((OpenSpec.ofChange Rows.inodeApartSpec).at F).post enc Tryd.prog Tryd.f5 false true false false) := by
  obtain ⟨places, hx⟩ := inodeApart_reads os enc
  refine returnsInHanded_of_row (C := Tryd.checked) (s := OpenSpec.ofChange Rows.inodeApartSpec) own started (by kernel_rfl) Tryd.func5
    (witness_row_at (enc := enc) (C := Tryd.checked) false (laidWorld os) #[apWit] rfl (by kernel_rfl) (by kernel_rfl) (by kernel_rfl)
      (OpenSpec.preRow_of_cond 8 hx (by kernel_rfl) (fun k hk => by cases hk) (by kernel_rfl) (inodeApart_met os))) ?_
  intro W base args ds gs before hval hW _ _ _ hL _ _
  exact inodeApart_contract H enc W base args ds gs before hval hW hL

theorem inodeApart_said : Rows.InodeApartSaid :=
  OpenClaim.holds_of_cond 5 Tryd.f5 rfl rfl rfl rfl rfl rfl rfl ⟨rfl, rfl, rfl, rfl, rfl⟩ rfl rfl rfl rfl rfl (by kernel_rfl) Tryd.func5 (by kernel_rfl)
    (of_decide_eq_true (by kernel_rfl)) (by unfold Func.isWrapper; first | (rw [if_pos (by decide +kernel)]; kernel_rfl) | (rw [if_neg (by decide +kernel)]; exact ⟨rfl, rfl⟩))
    (fun os started H enc _ F => by rw [OpenClaim.pre_eq_preRow]; exact inodeApart_lifted os started H enc F)

theorem inodeApart_plain (f : FuncId) (fn : Func) (hf : Tryd.pinned.checked.prog.funcNamed "haymow/haymowlaw07.InodeApart" = some f) (hfn : Tryd.pinned.checked.prog.funcs[f]? = some fn) :
    false = Tryd.pinned.checked.prog.looks [] ∧ ∀ (j : Nat) t, fn.params[j]? = some t → Tryd.pinned.checked.prog.wantsStandIn t = false := by
  obtain rfl : f = 5 := Option.some.inj ((show Tryd.prog.funcNamed "haymow/haymowlaw07.InodeApart" = some 5 by kernel_rfl).symm.trans hf) |>.symm
  obtain rfl : fn = Tryd.f5 := (Option.some.inj (Tryd.func5.symm.trans hfn)).symm
  refine ⟨by kernel_rfl, fun j t ht => ?_⟩
  rw [Tryd.params5] at ht
  have hall : ∀ t ∈ (Tryd.f5).params.toList, Tryd.prog.wantsStandIn t = false := by rw [Tryd.params5]; decide +kernel
  exact hall t (by rw [Tryd.params5]; exact Array.mem_toList_iff.2 (Array.mem_of_getElem? ht))

/-- THE CARD. -/
theorem inodeApart_holds : Rows.InodeApartCardSaid :=
  Claim7.holds_tied_plain_at .later [] _ _ _ _ inodeApart_said (fun _ h => by cases h) (by kernel_rfl) (fun _ h => by cases h) inodeApart_row_tie rfl ⟨rfl, rfl⟩ (by kernel_rfl) rfl inodeApart_plain (by kernel_rfl)

end Go.Proofs.YtmabdbleakolbaaDoor
