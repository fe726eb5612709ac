/-
  Join of package path. By an AI agent.
-/
import Derived.Test.YtahcbgllnoopgaaPaK
import Derived.Test.YtahcbgllnoopgaaPaShelf
namespace Go.Proofs.Ytahcbgllnoopgaa
open Go.RowKit Go.ChangeShapes Go.WideShapes Go.ChangeAt

theorem join_len (l : List (List UInt8)) (h : ∀ x ∈ l, x.length ≤ 60) : (Lib.join l [47]).length ≤ 61 * l.length := by
  have h1 := congrArg List.length (join_jn l)
  rw [List.length_append, List.length_singleton] at h1
  by_cases h0 : l = []
  · subst h0; simp [Lib.join_nil]
  · rw [if_neg h0] at h1
    have := jn_len l h
    omega
theorem joinS_any (A : Option Addr) (c : Nat) (l : List (List UInt8)) (w : World) (hl : Strs w w.heap.size (.slice A l.length c) l) (hs : ∀ x ∈ l, x.length ≤ 60) (hl10 : l.length ≤ 10) :
    Calls Try.prog 28 #[.slice A l.length c, .string ⟨#[47]⟩] w fun e w' => e = .returned (.string ⟨(Lib.join l [47]).toArray⟩) ∧ Below w.heap.size w w' := by
  obtain ⟨A2, c2, he, hlc, hcm, hE⟩ := hl.open_
  injection he with e1 e2 e3
  subst e1 e3
  have hm : (l.map fun s => (⟨s.toArray⟩ : ByteArray)).map (·.data.toList) = l := by
    rw [List.map_map]
    exact List.map_id'' (fun _ => rfl) l
  have hjl := join_len l hs
  by_cases h0 : l = []
  · subst h0
    refine (Try.strings_Join_none A c ⟨#[47]⟩ w).mono ?_
    rintro e w' ⟨rfl, rfl⟩
    exact ⟨rfl, Below.refl _ _⟩
  · obtain ⟨b, off, rfl, hb, _⟩ := hE 0 (List.length_pos_iff.2 h0)
    have := Try.strings_Join b off c (l.map fun s => (⟨s.toArray⟩ : ByteArray)) ⟨#[47]⟩ w (fun j x hx => by
      rw [List.getElem?_map] at hx
      obtain ⟨y, hy, rfl⟩ := Option.map_eq_some_iff.1 hx
      have hj := (List.getElem?_eq_some_iff.1 hy).1
      obtain ⟨b2, off2, e2, _, hc⟩ := hE j hj
      injection e2 with e2
      injection e2 with e3 e4
      subst e3 e4
      rw [hc]
      have : l.getD j [] = y := by rw [List.getD_eq_getElem?_getD, hy]; rfl
      rw [this]) hb (by rw [List.length_map]; omega) (by rw [List.length_map]; omega) (by rw [hm]; show (Lib.join l [47]).length ≤ _; omega)
    rw [hm, List.length_map] at this
    exact this

set_option maxRecDepth 100000 in
set_option maxHeartbeats 4000000 in
theorem join_any (v : Value) (l : List (List UInt8)) (w : World) (hl : Strs w w.heap.size v l) (hs : ∀ x ∈ l, x.length ≤ 60) (hl10 : l.length ≤ 10) :
    Calls Try.prog 16 #[v] w fun e w' => e = .returned (.tuple #[.string ⟨(Pa.join l).1.toArray⟩, .int .i64 ((Pa.join l).2 : Nat)]) ∧ Below w.heap.size w w' := by
  obtain ⟨A, c, rfl, hlc, hcm, _⟩ := hl.open_
  have HL := Lib.hid hl
  have HS := Lib.hid hs
  have HJ := Lib.hid (join_parts l)
  have HJJ := Lib.hid (join_jn l)
  have hjl := join_len l hs
  clear hl hs
  go_enter Try.func16, Try.ntmps16
  go_wp2_with fail
  refine (containsF_any _ l w HL.out (fun x hx => by have := HS.out x hx; omega)).mono ?_
  rintro e w1 ⟨rfl, b1⟩
  have HL1 := Lib.hid (Rds.more (Rds.ext HL.out (Nat.le_refl _) b1) b1.size)
  cases ha : l.all Tl.isN with
  | false =>
    rw [ha, if_neg (by decide)] at HJ
    clear ha
    go_wp2
    go_ret2
    exact ⟨by rw [HJ.out]; rfl, b1⟩
  | true =>
    rw [ha, if_pos rfl] at HJ
    clear ha
    by_cases h8 : 8 < l.length
    · have h8' : (8 : Int) < (l.length : Int) := by omega
      rw [if_pos h8] at HJ
      clear h8
      go_wp2
      go_ret2
      exact ⟨by rw [HJ.out]; rfl, b1⟩
    · have h8' : ¬ (8 : Int) < (l.length : Int) := by omega
      rw [if_neg h8, ← HJJ.out] at HJ
      have HQ := Lib.hid (ba_append [47] (Lib.join l [47]))
      have HSJ := Lib.hid (joinS_any A c l w1 HL1.out HS.out hl10)
      have z1 := ba_size (Lib.join l [47])
      have hs1 : (⟨#[47]⟩ : ByteArray).size = 1 := rfl
      generalize (⟨(Lib.join l [47]).toArray⟩ : ByteArray) = SJ at *
      obtain ⟨SR, hSR⟩ : ∃ SR, (⟨([47] ++ Lib.join l [47]).toArray⟩ : ByteArray) = SR := ⟨_, rfl⟩
      rw [hSR] at HQ
      have HSR := Lib.hid hSR
      generalize (Lib.join l [47]).length = nj at *
      clear h8 hSR
      go_wp2_with fail
      refine HSJ.out.mono ?_
      rintro e w2 ⟨rfl, b2⟩
      have d2 := b1.trans (b2.mono b1.size)
      have hq := HQ.out
      have n1 : ¬ 9223372036854775807 < 1 + nj := by omega
      go_wp2
      go_ret2
      exact ⟨by rw [HJ.out]; dsimp only; rw [HSR.out]; rfl, d2⟩
end Go.Proofs.Ytahcbgllnoopgaa
