/-
  An argument that is a struct or an array, of structs and arrays, down to integers: its cells. No program. By an AI agent.
-/
import Derived.Test.YtahcbgllnoopgaaBase
import Derived.Lib.SmallJoins
namespace Go.Proofs.Ytahcbgllnoopgaa
open Go.RowKit Go.ChangeShapes Go.WideShapes Go.ChangeAt

/-- The places and types of the parts that are no struct and no array. -/
def leavesAt (P : Program) : Nat → Nat → TypeId → List (Nat × TypeId)
  | 0, off, t => [(off, t)]
  | d + 1, off, t => match P.underlying t with
    | some (.struct fs) => fs.toList.flatMap fun f => leavesAt P d (off + f.offset) f.type
    | some (.array n e) => (List.range n).flatMap fun i => leavesAt P d (off + i * P.cellsOf e) e
    | _ => [(off, t)]
section
variable {H : Type} {enc : TypeId × Value → H} {P : Program} {w : World} {base : Nat} {spare : Nat → Bool} {held : Bool}
theorem leaf_of : ∀ (d : Nat) (t : TypeId) (fuel : Nat) (cs : List Value) (x : DataW H × List MemPlace) (off : Nat), DataW.trod enc P w base spare held fuel t cs = some x → ∀ p ∈ leavesAt P d off t,
    off ≤ p.1 ∧ ∃ (n : Nat) (y : DataW H × List MemPlace) (cs' : List Value), DataW.trod enc P w base spare held n p.2 cs' = some y ∧ ∀ (i : Nat) (v : Value), cs'[i]? = some v → cs[p.1 - off + i]? = some v := by
  intro d
  induction d with
  | zero =>
    intro t fuel cs x off h p hp
    simp only [leavesAt, List.mem_singleton] at hp
    subst hp
    exact ⟨Nat.le_refl _, fuel, x, cs, h, fun i v hv => by simpa using hv⟩
  | succ d ih =>
    intro t fuel cs x off h p hp
    unfold leavesAt at hp
    split at hp
    · rename_i fs hu
      obtain ⟨f, hf, hpf⟩ := List.mem_flatMap.1 hp
      obtain ⟨xs, n, _, _, _, hlen, hg⟩ := DataW.trod_struct hu h
      obtain ⟨j, hj⟩ := List.mem_iff_getElem?.1 hf
      have hj' : fs[j]? = some f := by rw [← Array.getElem?_toList]; exact hj
      have h1 := hg j f hj'
      have hjl : j < xs.length := by rw [hlen]; exact (Array.getElem?_eq_some_iff.1 hj').1
      rw [List.getElem?_eq_getElem hjl] at h1
      obtain ⟨hle, n', y, cs', ht, hc⟩ := ih f.type n _ _ (off + f.offset) h1 p hpf
      refine ⟨by omega, n', y, cs', ht, fun i v hv => ?_⟩
      have h2 := hc i v hv
      rw [List.getElem?_take] at h2
      split at h2
      · rw [List.getElem?_drop] at h2
        rw [← h2]
        congr 1
        omega
      · cases h2
    · rename_i m e hu
      obtain ⟨k, hk, hpf⟩ := List.mem_flatMap.1 hp
      obtain ⟨xs, n, _, _, _, hlen, hg⟩ := DataW.trod_array hu h
      have hkm := List.mem_range.1 hk
      have h1 := hg k hkm
      rw [List.getElem?_eq_getElem (by omega)] at h1
      obtain ⟨hle, n', y, cs', ht, hc⟩ := ih e n _ _ (off + k * P.cellsOf e) h1 p hpf
      refine ⟨by omega, n', y, cs', ht, fun i v hv => ?_⟩
      have h2 := hc i v hv
      rw [List.getElem?_take] at h2
      split at h2
      · rw [List.getElem?_drop] at h2
        rw [← h2]
        congr 1
        omega
      · cases h2
    · simp only [List.mem_singleton] at hp
      subst hp
      exact ⟨Nat.le_refl _, fuel, x, cs, h, fun i v hv => by simpa using hv⟩
theorem leaf_int {d : Nat} {t : TypeId} {fuel : Nat} {cs : List Value} {x : DataW H × List MemPlace} (h : DataW.trod enc P w base spare held fuel t cs = some x) {j : Nat} {ty : TypeId} {k : IntKind} (hp : (j, ty) ∈ leavesAt P d 0 t) (hu : P.underlying ty = some (.int k)) :
    ∃ z, cs[j]? = some (.int k z) ∧ (Lit.int k z).wf = true := by
  obtain ⟨_, n, y, cs', ht, hc⟩ := leaf_of d t fuel cs x 0 h _ hp
  obtain ⟨z, hz, _, hw⟩ := DataW.trod_int hu ht
  refine ⟨z, ?_, hw⟩
  have := hc 0 (.int k z) (by rw [hz]; rfl)
  simpa using this
/-- The integers of which an argument is made, in their order. -/
theorem ints_of_cells (ks : List IntKind) (cs : List Value) (hl : cs.length = ks.length) (h : ∀ (j : Nat) (k : IntKind), ks[j]? = some k → ∃ z, cs[j]? = some (Value.int k z) ∧ (Lit.int k z).wf = true) :
    ∃ zs : List Int, zs.length = ks.length ∧ cs = (ks.zip zs).map (fun p => Value.int p.1 p.2) ∧ ∀ (j : Nat) (k : IntKind) (z : Int), ks[j]? = some k → zs[j]? = some z → (Lit.int k z).wf = true := by
  induction ks generalizing cs with
  | nil =>
    have : cs = [] := List.eq_nil_of_length_eq_zero hl
    exact ⟨[], rfl, by rw [this]; rfl, by simp⟩
  | cons k ks ih =>
    match cs, hl with
    | c :: cs, hl =>
      obtain ⟨z, hz, hw⟩ := h 0 k rfl
      simp only [List.getElem?_cons_zero, Option.some.injEq] at hz
      obtain ⟨zs, h1, h2, h3⟩ := ih cs (by simpa using hl) (fun j k' hj => h (j + 1) k' hj)
      refine ⟨z :: zs, by simp [h1], by rw [hz, h2]; rfl, fun j k' z' hj hz' => ?_⟩
      match j, hj, hz' with
      | 0, hj, hz' =>
        simp only [List.getElem?_cons_zero, Option.some.injEq] at hj hz'
        subst hj hz'
        exact hw
      | j + 1, hj, hz' => exact h3 j k' z' hj hz'
theorem okWide_array {r : Reach} {b0 n : Nat} {t e : TypeId} {v : Value} (ht : P.underlying t = some (.array n e)) (h : Value.okWide P w r b0 t v) : ∃ cs, v = .agg cs ∧ cs.size = P.cellsOf t := by
  unfold Value.okWide at h
  rw [ht] at h
  obtain ⟨cs, h1, h2, _⟩ := h
  exact ⟨cs, h1, h2⟩
/-- AN ARGUMENT OF INTEGERS. -/
theorem ints_of_agg {t : TypeId} {v : Value} {dd : DataW H} {ps : List MemPlace} (d : Nat) (ks : List IntKind) (hk : (leavesAt P d 0 t).map (fun p => (p.1, P.underlying p.2)) = (List.range ks.length).map fun j => (j, some (.int (ks.getD j .i64))))
    (hs : ∃ cs, v = .agg cs ∧ cs.size = P.cellsOf t) (hc : P.cellsOf t = ks.length) (hd : DataW.Trod enc P w base spare held t v dd ps) :
    ∃ zs : List Int, zs.length = ks.length ∧ v = .agg ((ks.zip zs).map (fun p => Value.int p.1 p.2)).toArray ∧ ∀ (j : Nat) (k : IntKind) (z : Int), ks[j]? = some k → zs[j]? = some z → (Lit.int k z).wf = true := by
  obtain ⟨cs, rfl, hsz⟩ := hs
  obtain ⟨fuel, hf⟩ := hd
  have hce : (Value.agg cs).cells.toList = cs.toList := rfl
  rw [hce] at hf
  obtain ⟨zs, h1, h2, h3⟩ := ints_of_cells ks cs.toList (by rw [Array.length_toList, hsz, hc]) (fun j k hj => by
    have hjl : j < ks.length := (List.getElem?_eq_some_iff.1 hj).1
    have hm : (j, some (TypeDesc.int k)) ∈ (leavesAt P d 0 t).map (fun p => (p.1, P.underlying p.2)) := by
      rw [hk]
      refine List.mem_map.2 ⟨j, List.mem_range.2 hjl, ?_⟩
      rw [List.getD_eq_getElem?_getD, hj]; rfl
    obtain ⟨⟨j', ty⟩, hp, he⟩ := List.mem_map.1 hm
    simp only [Prod.mk.injEq] at he
    obtain ⟨rfl, hu⟩ := he
    exact leaf_int hf hp hu)
  exact ⟨zs, h1, by rw [← h2], h3⟩
end
end Go.Proofs.Ytahcbgllnoopgaa
