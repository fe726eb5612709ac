/-
  The argument of SummaryHolds, and the plain law: turned bits in one block of a whole part. By an AI agent.
-/
import Derived.Test.YtieajlpkiheebaaDoorSumL
namespace Go.Proofs.YtieajlpkiheebaaDoor
open Go.ChangeShapes Go.WideShapes Go.ChangeAt Go.RowKit

section
variable {H : Type} {enc : TypeId × Value → H} {W : World} {base b0 : Nat} {r : Reach} {P : Program}
theorem slice_one {t e fuel : Nat} {cs : List Value} {x : DataW H × List MemPlace} {spare : Nat → Bool} {held : Bool} (ht : P.underlying t = some (.slice e)) (h : DataW.trod enc P W base spare held fuel t cs = some x) : ∃ a n c, cs = [.slice a n c] := by
  rcases Go.Deep.open_slice ht h with ⟨hcs, _⟩ | ⟨a, len, cap, m, n, D, Pl, hcs, _⟩
  · exact ⟨_, _, _, hcs⟩
  · exact ⟨_, _, _, hcs⟩
theorem leaf_bool {d : Nat} {t : TypeId} {fuel : Nat} {cs : List Value} {x : DataW H × List MemPlace} {spare : Nat → Bool} {held : Bool} (h : DataW.trod enc P W base spare held fuel t cs = some x) {j : Nat} {ty : TypeId} (hp : (j, ty) ∈ leavesAt P d 0 t) (hu : P.underlying ty = some .bool) :
    ∃ b, cs[j]? = some (.bool b) := by
  obtain ⟨_, n, y, cs', ht, hc⟩ := leaf_of d t fuel cs x 0 h _ hp
  obtain ⟨s, hz, _⟩ := DataW.trod_bool hu ht
  refine ⟨s, ?_⟩
  have := hc 0 (.bool s) (by rw [hz]; rfl)
  simpa using this
/-- A slice of slices of octets, by its cell. -/
theorem bss_of_cs {t e q fuel : Nat} (ht : P.underlying t = some (.slice e)) (he : P.underlying e = some (.slice q)) (hq : P.underlying q = some (.int .u8)) (ce : P.cellsOf e = 1) (cq : P.cellsOf q = 1)
    {a0 : Option Addr} {len0 cap0 : Nat} {x : DataW H × List MemPlace} (h : DataW.trod enc P W base (fun _ => true) true fuel t [.slice a0 len0 cap0] = some x) :
    ∃ ls : List (List UInt8), Bss W W.heap.size (.slice a0 len0 cap0) ls := by
  rcases Go.Deep.open_int_rows ht he hq ce cq h with ⟨hcs, _⟩ | ⟨x9, len, cap, A, L, C, Z, hcs, _, hl, hm, _, hrow⟩
  · simp at hcs
    obtain ⟨rfl, rfl, rfl⟩ := hcs
    exact ⟨[], [], rfl, Rds.nil_ _ _ _, fun j u l hu => by simp at hu⟩
  · simp at hcs
    obtain ⟨rfl, rfl, rfl⟩ := hcs
    have row' : ∀ r', r' < cap0 → ∃ l : List UInt8, Bs W W.heap.size (.slice (A r') (L r') (C r')) l := by
      intro r' hr'
      obtain ⟨_, hLC, hCm, hZ, hwf, hnone, hsome⟩ := hrow r' hr'
      have hlen : ((Z r').take (L r')).length = L r' := by rw [List.length_take, hZ]; omega
      refine bs_of_is (zs := (Z r').take (L r')) ⟨A r', C r', by rw [hlen], by rw [hlen]; exact hLC, hCm, by simp, fun hn => ?_⟩ (fun n hn => hwf n (List.mem_of_mem_take hn))
      rw [hlen] at hn
      cases hA : A r' with
      | none => have := hnone hA; omega
      | some y =>
        obtain ⟨_, hc⟩ := hsome y hA
        obtain ⟨b, off, spot⟩ := y
        have h0 := hc 0 (by omega)
        obtain rfl : spot = none := by simpa [Addr.add] using addr_none h0
        refine ⟨b, off, rfl, World.block_lt_of_cell? W _ (by simpa [Addr.add] using h0), fun j u hu => ?_⟩
        rw [List.getElem?_map] at hu
        by_cases hj : j < ((Z r').take (L r')).length
        · rw [List.getElem?_eq_getElem hj] at hu
          have hj' : j < (Z r').length := by rw [hlen] at hj; omega
          have hcj := hc j (by omega)
          rw [add_plain] at hcj
          rw [hcj, ← hu]
          simp [List.getD, hj', List.getElem_take]
        · rw [List.getElem?_eq_none (by omega)] at hu
          cases hu
    obtain ⟨ls, hls, hbs⟩ := build_list len0 (fun j l => Bs W W.heap.size (.slice (A j) (L j) (C j)) l) (fun i hi => row' i (by omega))
    refine ⟨ls, (List.range len0).map fun j => .slice (A j) (L j) (C j), by simp [hls], ⟨some x9, cap0, by rw [hls], by rw [hls]; exact hl, hm, by simp [hls], fun hn => ?_⟩, fun j u l hu hl' => ?_⟩
    · rw [hls] at hn
      obtain ⟨b, off, spot⟩ := x9
      have h0 := (hrow 0 (by omega)).1
      obtain rfl : spot = none := by simpa [Addr.add] using addr_none h0
      refine ⟨b, off, rfl, World.block_lt_of_cell? W _ (by simpa [Addr.add] using h0), fun j u hu => ?_⟩
      rw [List.getElem?_map] at hu
      by_cases hj : j < len0
      · rw [List.getElem?_range hj] at hu
        have hcj := (hrow j (by omega)).1
        rw [add_plain] at hcj
        rw [hcj]; exact hu
      · rw [List.getElem?_eq_none (by simpa using hj)] at hu
        cases hu
    · have hj : j < len0 := by
        rcases Nat.lt_or_ge j len0 with h' | h'
        · exact h'
        · rw [List.getElem?_eq_none (by simpa using h')] at hu; cases hu
      rw [List.getElem?_map, List.getElem?_range hj] at hu
      injection hu with hu
      rw [← hu]
      exact hbs j l hl'
def tcells (s n : Int) (e : Bool) (vl vb : Value) (a t : Nat) : List Value := [.int .i64 s, .int .i64 n, .bool e, vl, vb, .int .u64 (a : Int), .int .u32 (t : Int)]
theorem turned_of_trod {v : Value} {d : DataW H} {ps : List MemPlace} (hv : Value.okWide Tryd.prog W r b0 51 v) (h : DataW.Trod enc Tryd.prog W base (fun _ => true) true 51 v d ps) :
    ∃ (s n : Int) (e : Bool) (vl vb : Value) (l : List Sm.En) (bl : List (List UInt8)) (a t : Nat), v = .agg (tcells s n e vl vb a t).toArray ∧ Ents W W.heap.size vl l ∧ Bss W W.heap.size vb bl ∧ a < 18446744073709551616 ∧ t < 4294967296 := by
  obtain ⟨cs, rfl, hsz⟩ := okWide_struct Tryd.underlying51 hv
  rw [show Tryd.prog.cellsOf 51 = 7 by kernel_rfl] at hsz
  obtain ⟨fuel, hf⟩ := h
  rw [show (Value.agg cs).cells.toList = cs.toList from rfl] at hf
  obtain ⟨l, hl⟩ : ∃ l, l = cs.toList := ⟨_, rfl⟩
  have hll : l.length = 7 := by rw [hl, Array.length_toList, hsz]
  have hcs : cs = l.toArray := by rw [hl]
  rw [← hl] at hf
  subst hcs
  clear hl hsz hv
  obtain ⟨z0, h0, _⟩ := leaf_int (d := 2) hf (j := 0) (ty := 3) (k := .i64) (by decide +kernel) Tryd.underlying3
  obtain ⟨z1, h1, _⟩ := leaf_int (d := 2) hf (j := 1) (ty := 3) (k := .i64) (by decide +kernel) Tryd.underlying3
  obtain ⟨z2, h2⟩ := leaf_bool (d := 2) hf (j := 2) (ty := 4) (by decide +kernel) Tryd.underlying4
  obtain ⟨_, n3, y3, cs3, ht3, hc3⟩ := leaf_of 2 _ fuel l _ 0 hf (3, 22) (by decide +kernel)
  obtain ⟨_, n4, y4, cs4, ht4, hc4⟩ := leaf_of 2 _ fuel l _ 0 hf (4, 39) (by decide +kernel)
  obtain ⟨z5, h5, w5⟩ := leaf_int (d := 2) hf (j := 5) (ty := 48) (k := .u64) (by decide +kernel) Tryd.underlying48
  obtain ⟨z6, h6, w6⟩ := leaf_int (d := 2) hf (j := 6) (ty := 49) (k := .u32) (by decide +kernel) Tryd.underlying49
  obtain ⟨a3, m3, c3, rfl⟩ := slice_one Tryd.underlying22 ht3
  obtain ⟨a4, m4, c4, rfl⟩ := slice_one Tryd.underlying39 ht4
  obtain ⟨el, he, _⟩ := ents_of_cs ht3
  obtain ⟨bl, hb⟩ := bss_of_cs Tryd.underlying39 Tryd.underlying26 Tryd.underlying5 (by kernel_rfl) cellsU8 ht4
  have h3 := hc3 0 _ rfl
  have h4 := hc4 0 _ rfl
  have u5 := wf_u64 w5
  have u6 := wf_u32 w6
  obtain ⟨a5, rfl⟩ := Int.eq_ofNat_of_zero_le u5.1
  obtain ⟨a6, rfl⟩ := Int.eq_ofNat_of_zero_le u6.1
  match l, hll with
  | [q0, q1, q2, q3, q4, q5, q6], _ =>
    simp only [List.getElem?_cons_zero, List.getElem?_cons_succ, Option.some.injEq, Nat.sub_zero, Nat.add_zero] at h0 h1 h2 h3 h4 h5 h6
    subst h0 h1 h2 h3 h4 h5 h6
    exact ⟨_, _, _, _, _, el, bl, a5, a6, rfl, he, hb, by omega, by omega⟩
end

/-! ### Plain -/
theorem ofL_get (l : List Sm.En) (bl : List (List UInt8)) (k : Nat) (h : k < l.length) : (ofL l bl)[k]? = some (sumE bl (k, l[k])) := by
  unfold ofL idx
  rw [List.getElem?_map, List.getElem?_map, List.getElem?_range h]
  simp only [Option.map_some]
  rw [List.getD_eq_getElem?_getD, List.getElem?_eq_getElem h]
  rfl
theorem ofB_parts {s n : Int} {e : Bool} {l : List Sm.En} {bl : List (List UInt8)} (h : ofB ⟨s, n, e, l⟩ bl = true) : bl.length = l.length ∧ Sm.mayB ⟨s, n, e, l⟩ = true ∧ ∀ k, k < l.length → (bl.getD k []).length = 128 := by
  unfold ofB at h
  rw [Bool.and_eq_true, Bool.and_eq_true] at h
  obtain ⟨⟨h1, h2⟩, h3⟩ := h
  refine ⟨beq_iff_eq.1 h1, h2, fun k hk => ?_⟩
  unfold allL at h3
  have := List.all_eq_true.1 h3 (k, l[k]) (by unfold idx; exact List.mem_map.2 ⟨k, List.mem_range.2 hk, by rw [List.getD_eq_getElem?_getD, List.getElem?_eq_getElem hk]; rfl⟩)
  unfold lenE at this
  exact beq_iff_eq.1 this
theorem wh_of {s n : Int} {e : Bool} {l : List Sm.En} {bl : List (List UInt8)} (h : ofB ⟨s, n, e, l⟩ bl = true) : whB ⟨s, n, e, ofL l bl⟩ bl = true := by
  obtain ⟨h1, h2, h3⟩ := ofB_parts h
  unfold whB
  rw [may_ofL, h2, show (bl.length == (ofL l bl).length) = true by rw [ofL_len, h1]; simp, Bool.true_and, Bool.true_and]
  unfold allW
  refine List.all_eq_true.2 fun x hx => ?_
  unfold idx at hx
  obtain ⟨k, hk, rfl⟩ := List.mem_map.1 hx
  have hk' : k < l.length := by have := List.mem_range.1 hk; rw [ofL_len] at this; exact this
  unfold okE
  rw [List.getD_eq_getElem?_getD (l := ofL l bl), ofL_get l bl k hk']
  show ((bl.getD k []).length == 128 && Crc.sum (bl.getD k []) == (sumE bl (k, l[k])).s) = true
  rw [h3 k hk']
  unfold sumE
  simp
theorem wh_turned {s n : Int} {e : Bool} {l : List Sm.En} {bl : List (List UInt8)} {i : Nat} {y : List UInt8} (h : ofB ⟨s, n, e, l⟩ bl = true) (hi : i < bl.length) (hy : Crc.sum y ≠ Crc.sum (bl.getD i [])) : whB ⟨s, n, e, ofL l bl⟩ (bl.set i y) = false := by
  obtain ⟨h1, h2, h3⟩ := ofB_parts h
  have hil : i < (ofL l bl).length := by rw [ofL_len]; omega
  have hal : allW (bl.set i y) (idx (ofL l bl) (ofL l bl).length) = false := by
    refine allW_all _ _ i hil ?_
    have hg : (ofL l bl)[i] = sumE bl (i, l[i]'(by omega)) := by
      have := ofL_get l bl i (by omega)
      rw [List.getElem?_eq_getElem hil] at this
      exact Option.some.inj this
    rw [hg]
    unfold okE sumE
    show (((bl.set i y).getD i []).length == 128 && Crc.sum ((bl.set i y).getD i []) == Crc.sum (bl.getD i [])) = false
    rw [show (bl.set i y).getD i [] = y by rw [List.getD_eq_getElem?_getD, List.getElem?_set_self hi]; rfl, beq_eq_false_iff_ne.2 hy, Bool.and_false]
  unfold whB
  rw [hal, Bool.and_false]
theorem wh_zero (bl : List (List UInt8)) : whB ⟨0, 0, false, []⟩ bl = false := by
  unfold whB
  rw [show Sm.mayB ⟨0, 0, false, []⟩ = false by decide]
  rfl
end Go.Proofs.YtieajlpkiheebaaDoor
