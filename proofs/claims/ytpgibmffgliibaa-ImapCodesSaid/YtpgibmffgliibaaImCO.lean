/-
  An argument that is two maps, a number, and octets: its cells. By an AI agent.
-/
import Derived.Test.YtpgibmffgliibaaImGO
namespace Go.Proofs.Ytpgibmffgliibaa
open Go.RowKit Go.ChangeShapes Go.WideShapes Go.ChangeAt
open Im (Sl)

def dcells (m o : List Sl) (k : Int) (v : Value) : List Value := mcells m ++ (mcells o ++ [.int .i64 k, v])
theorem dcells_m (m o : List Sl) (k : Int) (v : Value) : mcells m = ((dcells m o k v).drop 0).take (mcells m).length := by
  unfold dcells
  rw [List.drop_zero, List.take_left' rfl]
theorem dcells_o (m o : List Sl) (k : Int) (v : Value) (hm : m.length = 40) : mcells o = ((dcells m o k v).drop 120).take (mcells o).length := by
  unfold dcells
  rw [List.drop_left' (by rw [mcells_len, hm]), List.take_left' rfl]
theorem dcells_at (m o : List Sl) (k : Int) (v : Value) (hm : m.length = 40) (ho : o.length = 40) : (dcells m o k v)[240]? = some (.int .i64 k) ∧ (dcells m o k v)[241]? = some v := by
  unfold dcells
  have h1 := mcells_len m
  have h2 := mcells_len o
  rw [hm] at h1
  rw [ho] at h2
  constructor
  · rw [List.getElem?_append_right (by omega), List.getElem?_append_right (by omega), h1, h2]; rfl
  · rw [List.getElem?_append_right (by omega), List.getElem?_append_right (by omega), h1, h2]; rfl
section
variable {H : Type} {enc : TypeId × Value → H} {P : Program} {W : World} {base b0 : Nat} {r : Reach}
/-- Octets that came in, inside a struct. -/
theorem bs_of_cs {t e : TypeId} (ht : P.underlying t = some (.slice e)) (he : P.underlying e = some (.int .u8)) (hc : P.cellsOf e = 1) {fuel : Nat} {cs : List Value} {y : DataW H × List MemPlace}
    (hf : DataW.trod enc P W base (fun _ => true) true fuel t cs = some y) : ∃ (v : Value) (l : List UInt8), cs = [v] ∧ Bs W W.heap.size v l := by
  rcases open_ints ht he hc hf with ⟨hcs, _⟩ | ⟨x, len0, c, zs, hcs, _, hl, hm, hz, _, hcell, hwz⟩
  · exact ⟨_, [], hcs, Rds.nil_ _ _ _⟩
  · simp only [if_true] at hz
    have hlen : (zs.take len0).length = len0 := by rw [List.length_take, hz]; omega
    have his : Is .u8 W W.heap.size (.slice (some x) len0 c) (zs.take len0) := by
      refine ⟨some x, c, by rw [hlen], by rw [hlen]; exact hl, hm, by simp, fun hn => ?_⟩
      rw [hlen] at hn
      obtain ⟨b, off, spot⟩ := x
      have h0 := hcell 0 (by omega)
      obtain rfl : spot = none := by simpa [Addr.add] using addr_none h0
      refine ⟨b, off, rfl, World.block_lt_of_cell? W _ (by simpa [Addr.add] using h0), fun j u hu => ?_⟩
      rw [List.getElem?_map] at hu
      by_cases hj : j < (zs.take len0).length
      · rw [List.getElem?_eq_getElem hj] at hu
        have hj' : j < zs.length := by rw [hlen] at hj; omega
        have hcj := hcell j hj'
        rw [add_plain] at hcj
        rw [hcj, ← hu]
        simp [List.getD, hj', List.getElem_take]
      · rw [List.getElem?_eq_none (by omega)] at hu
        cases hu
    obtain ⟨l, hbl⟩ := bs_of_is his (fun n hn => hwz n (List.mem_of_mem_take hn))
    exact ⟨_, l, hcs, hbl⟩
end
def dik : List IntKind := imk 40 ++ (imk 40 ++ [.i64])
section
variable {H : Type} {enc : TypeId × Value → H} {W : World} {base b0 : Nat} {r : Reach}
theorem leavesD : (leavesAt Try.prog 5 0 53).map (fun p => (p.1, Try.prog.underlying p.2)) = ((List.range 241).map fun j => (j, some (.int (dik.getD j .i64)))) ++ [(241, some (.slice 5))] := by kernel_rfl
theorem leavesDS : (241, 48) ∈ leavesAt Try.prog 5 0 53 := List.contains_iff_mem.1 (by kernel_rfl)
theorem codes_of_trod {v : Value} {d : DataW H} {ps : List MemPlace} (hv : Value.okWide Try.prog W r b0 53 v) (h : DataW.Trod enc Try.prog W base (fun _ => true) true 53 v d ps) :
    ∃ (m o : List Sl) (k : Int) (vb : Value) (l : List UInt8), v = .agg (dcells m o k vb).toArray ∧ Im.Good m ∧ Im.Good o ∧ (Lit.int .i64 k).wf = true ∧ Bs W W.heap.size vb l := by
  obtain ⟨cs, rfl, hsz⟩ := okWide_struct Try.underlying53 hv
  rw [show Try.prog.cellsOf 53 = 242 by kernel_rfl] at hsz
  obtain ⟨fuel, hf⟩ := h
  rw [show (Value.agg cs).cells.toList = cs.toList from rfl] at hf
  obtain ⟨l, hl⟩ : ∃ l, l = cs.toList := ⟨_, rfl⟩
  have hll : l.length = 242 := by rw [hl, Array.length_toList, hsz]
  have hcs : cs = l.toArray := by rw [hl]
  rw [← hl] at hf
  subst hcs
  clear hl hsz hv
  obtain ⟨_, n1, y1, cs1, ht1, hc1⟩ := leaf_of 5 _ fuel l _ 0 hf _ leavesDS
  obtain ⟨vb, lb, rfl, hbs⟩ := bs_of_cs Try.underlying48 Try.underlying5 cellsU8 ht1
  have e1 : l[241]? = some vb := hc1 0 vb rfl
  have h40 : (imk 40).length = 120 := imk_len 40
  have hdl : dik.length = 241 := by unfold dik; rw [List.length_append, List.length_append, h40]; rfl
  obtain ⟨zs, hz1, hz2, hz3⟩ := ints_of_cells dik (l.take 241) (by rw [List.length_take, hll, hdl]; rfl) (fun j k hj => by
    have hjl : j < 241 := by
      rcases Nat.lt_or_ge j 241 with h | h
      · exact h
      · rw [List.getElem?_eq_none (by omega)] at hj; cases hj
    have hm : (j, some (TypeDesc.int k)) ∈ (leavesAt Try.prog 5 0 53).map (fun p => (p.1, Try.prog.underlying p.2)) := by
      rw [leavesD]
      refine List.mem_append_left _ (List.mem_map.2 ⟨j, List.mem_range.2 hjl, ?_⟩)
      rw [List.getD_eq_getElem?_getD, hj]; rfl
    obtain ⟨⟨j', ty⟩, hp, he⟩ := List.mem_map.1 hm
    simp only [Prod.mk.injEq] at he
    obtain ⟨rfl, hu⟩ := he
    obtain ⟨z, g1, g2⟩ := leaf_int hf hp hu
    exact ⟨z, by rw [List.getElem?_take, if_pos hjl]; exact g1, g2⟩)
  rw [hdl] at hz1
  have hg1 : ∀ j, j < 120 → dik[j]? = (imk 40)[j]? := fun j hj => by unfold dik; rw [List.getElem?_append_left (by omega)]
  have hg2 : ∀ j, j < 120 → dik[120 + j]? = (imk 40)[j]? := fun j hj => by
    unfold dik
    rw [List.getElem?_append_right (by omega), h40, List.getElem?_append_left (by omega)]
    congr 1
    omega
  have lt120 : ∀ (j : Nat) (k : IntKind), (imk 40)[j]? = some k → j < 120 := fun j k hj => by
    rcases Nat.lt_or_ge j 120 with h | h
    · exact h
    · rw [List.getElem?_eq_none (by omega)] at hj; cases hj
  obtain ⟨m, gm, em⟩ := im_of_ints (zs.take 120) (by rw [List.length_take, hz1, h40]; rfl) (fun j k z hj hz => by
    have hj1 := lt120 j k hj
    rw [List.getElem?_take, if_pos hj1] at hz
    exact hz3 j k z (by rw [hg1 j hj1]; exact hj) hz)
  obtain ⟨o, go, eo⟩ := im_of_ints ((zs.drop 120).take 120) (by rw [List.length_take, List.length_drop, hz1, h40]; rfl) (fun j k z hj hz => by
    have hj1 := lt120 j k hj
    rw [List.getElem?_take, if_pos hj1, List.getElem?_drop] at hz
    exact hz3 (120 + j) k z (by rw [hg2 j hj1]; exact hj) hz)
  obtain ⟨a, hab⟩ : ∃ a, zs.drop 240 = [a] := by
    have hd : (zs.drop 240).length = 1 := by rw [List.length_drop, hz1]
    match h : zs.drop 240, hd with
    | [a], _ => exact ⟨a, rfl⟩
  have hka : (Lit.int .i64 a).wf = true := by
    have h : (zs.drop 240)[0]? = some a := by rw [hab]; rfl
    rw [List.getElem?_drop] at h
    exact hz3 240 .i64 a (by kernel_rfl) h
  refine ⟨m, o, a, vb, lb, ?_, gm, go, hka, hbs⟩
  congr 2
  have h1 : (zs.drop 120).drop 120 = [a] := by rw [List.drop_drop]; exact hab
  have hzs : zs = zs.take 120 ++ ((zs.drop 120).take 120 ++ [a]) := by
    rw [← h1, List.take_append_drop, List.take_append_drop]
  have l1 : (imk 40).length = (zs.take 120).length := by rw [h40, List.length_take, hz1]; rfl
  have l2 : (imk 40).length = ((zs.drop 120).take 120).length := by rw [h40, List.length_take, List.length_drop, hz1]; rfl
  generalize zs.take 120 = A at *
  generalize (zs.drop 120).take 120 = B at *
  have hl2 : l = l.take 241 ++ [vb] := by
    apply List.ext_getElem?
    intro i
    by_cases hi : i < 241
    · rw [List.getElem?_append_left (by rw [List.length_take, hll]; exact hi), List.getElem?_take, if_pos hi]
    · rw [List.getElem?_append_right (by rw [List.length_take, hll]; omega), List.length_take, hll]
      rcases (by omega : i = 241 ∨ 242 ≤ i) with rfl | h
      · exact e1
      · rw [List.getElem?_eq_none (by omega)]
        obtain ⟨k, hk⟩ : ∃ k, i - min 241 242 = k + 1 := ⟨i - 242, by omega⟩
        rw [hk]; rfl
  rw [hl2, hz2, hzs]
  unfold dik dcells
  rw [List.zip_append l1, List.zip_append l2, List.map_append, List.map_append, em, eo]
  simp
end
end Go.Proofs.Ytpgibmffgliibaa
