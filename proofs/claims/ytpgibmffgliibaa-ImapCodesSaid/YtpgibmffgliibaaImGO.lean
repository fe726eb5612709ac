/-
  An argument that is two maps, a number, and how often: its cells. By an AI agent.
-/
import Derived.Test.YtpgibmffgliibaaImO
namespace Go.Proofs.Ytpgibmffgliibaa
open Go.RowKit Go.ChangeShapes Go.WideShapes Go.ChangeAt
open Im (Sl)

def gcells (m o : List Sl) (i : Int) (t : Nat) : List Value := mcells m ++ (mcells o ++ [.int .i64 i, .int .u8 (t : Int)])
theorem gcells_m (m o : List Sl) (i : Int) (t : Nat) : mcells m = ((gcells m o i t).drop 0).take (mcells m).length := by
  unfold gcells
  rw [List.drop_zero, List.take_left' rfl]
theorem gcells_o (m o : List Sl) (i : Int) (t : Nat) (hm : m.length = 40) : mcells o = ((gcells m o i t).drop 120).take (mcells o).length := by
  unfold gcells
  rw [List.drop_left' (by rw [mcells_len, hm]), List.take_left' rfl]
theorem gcells_at (m o : List Sl) (i : Int) (t : Nat) (hm : m.length = 40) (ho : o.length = 40) : (gcells m o i t)[240]? = some (.int .i64 i) ∧ (gcells m o i t)[241]? = some (.int .u8 (t : Int)) := by
  unfold gcells
  have h1 := mcells_len m
  have h2 := mcells_len o
  rw [hm] at h1
  rw [ho] at h2
  constructor
  · rw [List.getElem?_append_right (by omega), List.getElem?_append_right (by omega), h1, h2]; rfl
  · rw [List.getElem?_append_right (by omega), List.getElem?_append_right (by omega), h1, h2]; rfl
def gik : List IntKind := imk 40 ++ (imk 40 ++ [.i64, .u8])
theorem imk_len : ∀ n, (imk n).length = 3 * n
  | 0 => rfl
  | n + 1 => by simp only [imk, List.length_cons, imk_len n]; omega
theorem gives_of_ints (zs : List Int) (hl : zs.length = gik.length) (hw : ∀ (j : Nat) (k : IntKind) (z : Int), gik[j]? = some k → zs[j]? = some z → (Lit.int k z).wf = true) :
    ∃ (m o : List Sl) (i : Int) (t : Nat), Im.Good m ∧ Im.Good o ∧ t < 256 ∧ (gik.zip zs).map (fun p => Value.int p.1 p.2) = gcells m o i t := by
  have h40 : (imk 40).length = 120 := imk_len 40
  have hgl : gik.length = 242 := by unfold gik; rw [List.length_append, List.length_append, h40]; rfl
  rw [hgl] at hl
  have hg1 : ∀ j, j < 120 → gik[j]? = (imk 40)[j]? := fun j hj => by unfold gik; rw [List.getElem?_append_left (by omega)]
  have hg2 : ∀ j, j < 120 → gik[120 + j]? = (imk 40)[j]? := fun j hj => by
    unfold gik
    rw [List.getElem?_append_right (by omega), h40, List.getElem?_append_left (by omega)]
    congr 1
    omega
  obtain ⟨m, gm, em⟩ := im_of_ints (zs.take 120) (by rw [List.length_take, hl, h40]; rfl) (fun j k z hj hz => by
    have hj1 : j < 120 := by
      rcases Nat.lt_or_ge j 120 with h | h
      · exact h
      · rw [List.getElem?_eq_none (by omega)] at hj; cases hj
    rw [List.getElem?_take, if_pos hj1] at hz
    exact hw j k z (by rw [hg1 j hj1]; exact hj) hz)
  obtain ⟨o, go, eo⟩ := im_of_ints ((zs.drop 120).take 120) (by rw [List.length_take, List.length_drop, hl, h40]; rfl) (fun j k z hj hz => by
    have hj1 : j < 120 := by
      rcases Nat.lt_or_ge j 120 with h | h
      · exact h
      · rw [List.getElem?_eq_none (by omega)] at hj; cases hj
    rw [List.getElem?_take, if_pos hj1, List.getElem?_drop] at hz
    exact hw (120 + j) k z (by rw [hg2 j hj1]; exact hj) hz)
  obtain ⟨a, b, hab⟩ : ∃ a b, zs.drop 240 = [a, b] := by
    have hd : (zs.drop 240).length = 2 := by rw [List.length_drop, hl]
    match h : zs.drop 240, hd with
    | [a, b], _ => exact ⟨a, b, rfl⟩
  have hb : zs[241]? = some b := by
    have h : (zs.drop 240)[1]? = some b := by rw [hab]; rfl
    rwa [List.getElem?_drop] at h
  have hk : gik[241]? = some .u8 := by kernel_rfl
  have hwb := wf_u8 (hw 241 .u8 b hk hb)
  obtain ⟨t, rfl⟩ := Int.eq_ofNat_of_zero_le hwb.1
  refine ⟨m, o, a, t, gm, go, by have := hwb.2; omega, ?_⟩
  have h1 : (zs.drop 120).drop 120 = [a, (t : Int)] := by rw [List.drop_drop]; exact hab
  have hzs : zs = zs.take 120 ++ ((zs.drop 120).take 120 ++ [a, (t : Int)]) := by
    rw [← h1, List.take_append_drop, List.take_append_drop]
  have l1 : (imk 40).length = (zs.take 120).length := by rw [h40, List.length_take, hl]; rfl
  have l2 : (imk 40).length = ((zs.drop 120).take 120).length := by rw [h40, List.length_take, List.length_drop, hl]; rfl
  generalize zs.take 120 = A at *
  generalize (zs.drop 120).take 120 = B at *
  rw [hzs]
  unfold gik gcells
  rw [List.zip_append l1, List.zip_append l2, List.map_append, List.map_append, em, eo]
  rfl
end Go.Proofs.Ytpgibmffgliibaa
