/-
  Join of the reference; slices.ContainsFunc at what Join refuses. By an AI agent.
-/
import Derived.Test.YtahcbgllnoopgaaPaJ
namespace Go.Proofs.Ytahcbgllnoopgaa
open Go.RowKit Go.ChangeShapes Go.WideShapes Go.ChangeAt

theorem refused_any (c : List UInt8) (w : World) (hc : c.length < 1099511627776) :
    Calls Try.prog 26 #[.string ⟨c.toArray⟩] w fun e w' => e = .returned (.bool (!Tl.isN c)) ∧ Below w.heap.size w w' := by
  have HI := Lib.hid (is_any c)
  generalize Tl.isN c = b at *
  generalize (⟨c.toArray⟩ : ByteArray) = S at *
  go_enter Try.func26, Try.ntmps26
  go_wp2_with fail
  refine (HI.out w hc).mono ?_
  rintro e w1 ⟨rfl, b1⟩
  go_wp2
  go_ret
  exact ⟨rfl, b1⟩
theorem all_next {l : List (List UInt8)} {k : Nat} (hk : k < l.length) (h : (l.take k).all Tl.isN = true) : (Tl.isN (l.getD k []) = true → (l.take (k + 1)).all Tl.isN = true) ∧ (Tl.isN (l.getD k []) = false → l.all Tl.isN = false) := by
  have hg : l.getD k [] = l[k] := by simp [List.getD, hk]
  rw [hg]
  refine ⟨fun h1 => ?_, fun h1 => ?_⟩
  · rw [List.take_succ_eq_append_getElem hk, List.all_append, h, List.all_cons, h1]; rfl
  · cases ha : l.all Tl.isN with
    | false => rfl
    | true => have := List.all_eq_true.1 ha _ (List.getElem_mem hk); rw [h1] at this; cases this

set_option maxRecDepth 100000 in
set_option maxHeartbeats 4000000 in
theorem indexF_any (v : Value) (l : List (List UInt8)) (w : World) (hl : Strs w w.heap.size v l) (hs : ∀ x ∈ l, x.length < 1099511627776) :
    Calls Try.prog 38 #[v, .func (.func 26) #[] #[]] w fun e w' => ∃ z : Int, e = .returned (.int .i64 z) ∧ decide (0 ≤ z) = !l.all Tl.isN ∧ Below w.heap.size w w' := by
  obtain ⟨A, c, rfl, hlc, hcm, hE⟩ := hl.open_
  have HE := Lib.hid hE
  have HS := Lib.hid hs
  clear hE hl hs
  go_enter Try.func38, Try.ntmps38
  go_wp2
  go_loopw [5, 8] (fun _ i wr => ∃ k : Nat, k ≤ l.length ∧ i = .int .i64 k ∧ Hid ((l.take k).all Tl.isN = true) ∧ Below w.heap.size w wr) (fun _ i _ => l.length - (intOf i).toNat)
  case atStart => exact ⟨0, Nat.zero_le _, rfl, Lib.hid rfl, Below.refl _ _⟩
  case round =>
    obtain ⟨k, hk, rfl, HA, hbr⟩ := hrel
    by_cases hlt : k < l.length
    · obtain ⟨b, off, rfl, hbB, h0⟩ := (HE.out.below hbr) k hlt
      have HN := Lib.hid (all_next hlt HA.out)
      have hx : (l.getD k []).length < 1099511627776 := HS.out _ (by simp only [List.getD, List.getElem?_eq_getElem hlt, Option.getD_some]; exact List.getElem_mem hlt)
      generalize l.getD k [] = x at *
      go_wp2_with fail
      refine (refused_any x wr hx).mono ?_
      rintro e w1 ⟨rfl, b1⟩
      have d1 := hbr.trans (b1.mono hbr.size)
      clear h0 b1
      cases hi : Tl.isN x with
      | true =>
        have H := Lib.hid (HN.out.1 hi)
        clear hi
        go_wp2
        go_roundw
        case rel => exact ⟨k + 1, by omega, by go_num, H, d1⟩
        case measure => simp [intOf]; omega
      | false =>
        have H := Lib.hid (HN.out.2 hi)
        clear hi
        go_wp2
        go_ret
        exact ⟨_, rfl, by rw [H.out]; simp, d1⟩
    · obtain rfl : k = l.length := by omega
      have H := HA.out
      rw [List.take_length] at H
      have HX := Lib.hid H
      clear H
      go_wp2
      go_ret
      exact ⟨_, rfl, by rw [HX.out]; rfl, hbr⟩
theorem containsF_any (v : Value) (l : List (List UInt8)) (w : World) (hl : Strs w w.heap.size v l) (hs : ∀ x ∈ l, x.length < 1099511627776) :
    Calls Try.prog 27 #[v, .func (.func 26) #[] #[]] w fun e w' => e = .returned (.bool (!l.all Tl.isN)) ∧ Below w.heap.size w w' := by
  have HI := Lib.hid (indexF_any v l w hl hs)
  clear hl hs
  go_enter Try.func27, Try.ntmps27
  go_wp2_with fail
  refine HI.out.mono ?_
  rintro e w1 ⟨z, rfl, hz, b1⟩
  have HZ := Lib.hid hz
  clear hz
  go_wp2
  go_ret
  exact ⟨by rw [← HZ.out]; rfl, b1⟩

/-! ### Join of the reference -/
theorem jn_take {l : List (List UInt8)} {k : Nat} (hk : k < l.length) : jn (l.take (k + 1)) = jn (l.take k) ++ 47 :: l.getD k [] := by
  rw [List.take_succ_eq_append_getElem hk, jn_snoc]
  simp [List.getD, hk]
theorem jn_nil {l : List (List UInt8)} : jn l = [] ↔ l = [] := by
  cases l with
  | nil => exact ⟨fun _ => rfl, fun _ => rfl⟩
  | cons x l => unfold jn; simp
theorem jn_len (l : List (List UInt8)) (h : ∀ x ∈ l, x.length ≤ 60) : (jn l).length ≤ 61 * l.length := by
  induction l with
  | nil => simp [jn]
  | cons x l ih =>
    have := ih (fun y hy => h y (List.mem_cons_of_mem _ hy))
    have := h x List.mem_cons_self
    have e : jn (x :: l) = 47 :: (x ++ jn l) := by unfold jn; rw [List.flatMap_cons]; rfl
    rw [e]
    simp
    omega

set_option maxRecDepth 100000 in
set_option maxHeartbeats 4000000 in
theorem joinR_any (v : Value) (l : List (List UInt8)) (w : World) (hl : Strs w w.heap.size v l) (hs : ∀ x ∈ l, x.length ≤ 60) (hl10 : l.length ≤ 10) :
    Calls Try.prog 17 #[v] w fun e w' => e = .returned (.tuple #[.string ⟨(Pa.join l).1.toArray⟩, .int .i64 ((Pa.join l).2 : Nat)]) ∧ Below w.heap.size w w' := by
  obtain ⟨A, c, rfl, hlc, hcm, hE⟩ := hl.open_
  have HE := Lib.hid hE
  have HS := Lib.hid hs
  have HJ := Lib.hid (join_parts l)
  have HLN := Lib.hid (fun k => jn_len (l.take k) (fun x hx => hs x (List.mem_of_mem_take hx)))
  clear hE hl hs
  go_enter Try.func17, Try.ntmps17
  go_wp2
  go_loopw [4, 5] (fun s i wr => ∃ k : Nat, k ≤ l.length ∧ i = .int .i64 k ∧ s = .string ⟨(jn (l.take k)).toArray⟩ ∧ Hid ((l.take k).all Tl.isN = true) ∧ Below w.heap.size w wr) (fun _ i _ => l.length - (intOf i).toNat)
  case atStart => exact ⟨0, Nat.zero_le _, rfl, rfl, Lib.hid rfl, Below.refl _ _⟩
  case round =>
    obtain ⟨k, hk, rfl, rfl, HA, hbr⟩ := hrel
    by_cases hlt : k < l.length
    · obtain ⟨b, off, rfl, hbB, h0⟩ := (HE.out.below hbr) k hlt
      have HN := Lib.hid (all_next hlt HA.out)
      have hx : (l.getD k []).length ≤ 60 := HS.out _ (by simp only [List.getD, List.getElem?_eq_getElem hlt, Option.getD_some]; exact List.getElem_mem hlt)
      have HT := Lib.hid (jn_take hlt)
      have hjl := HLN.out k
      rw [List.length_take] at hjl
      have hbw : b < wr.heap.size := Nat.lt_of_lt_of_le hbB hbr.size
      generalize l.getD k [] = x at *
      generalize jn (l.take k) = acc at *
      have HIS := Lib.hid (isR_any x)
      have HQ1 := Lib.hid (ba_append [47] x)
      have HQ2 := Lib.hid (ba_append acc (47 :: x))
      have z1 := ba_size x
      have z2 := ba_size acc
      have z3 := ba_size (47 :: x)
      obtain ⟨SX, hSX⟩ : ∃ SX, (⟨x.toArray⟩ : ByteArray) = SX := ⟨_, rfl⟩
      obtain ⟨SA, hSA⟩ : ∃ SA, (⟨acc.toArray⟩ : ByteArray) = SA := ⟨_, rfl⟩
      obtain ⟨SY, hSY⟩ : ∃ SY, (⟨(47 :: x).toArray⟩ : ByteArray) = SY := ⟨_, rfl⟩
      obtain ⟨SZ, hSZ⟩ : ∃ SZ, (⟨(acc ++ 47 :: x).toArray⟩ : ByteArray) = SZ := ⟨_, rfl⟩
      rw [show ([47] : List UInt8) ++ x = 47 :: x from rfl] at HQ1
      rw [hSX] at h0 HIS HQ1 z1
      rw [hSY] at HQ1 HQ2 z3
      rw [hSA] at HQ2 z2 ⊢
      rw [hSZ] at HQ2
      have HSZ := Lib.hid hSZ
      clear hSX hSA hSY hSZ
      go_wp2_with fail
      refine (HIS.out wr (by omega)).mono ?_
      rintro e w1 ⟨rfl, b1⟩
      have d1 := hbr.trans (b1.mono hbr.size)
      have h0' := (b1.cell (p := ⟨b, off + k, none⟩) hbw).trans h0
      clear h0 b1 HIS
      cases hi : Tl.isN x with
      | false =>
        have H := Lib.hid (HN.out.2 hi)
        rw [H.out, if_neg (by decide)] at HJ
        clear hi
        go_wp2
        go_ret2
        exact ⟨by rw [HJ.out]; rfl, d1⟩
      | true =>
        have H := Lib.hid (HN.out.1 hi)
        have hq1 := HQ1.out
        have hq2 := HQ2.out
        have hs1 : (⟨#[47]⟩ : ByteArray).size = 1 := rfl
        have n1 : ¬ 9223372036854775807 < 1 + x.length := by omega
        have n2 : ¬ 9223372036854775807 < acc.length + (x.length + 1) := by omega
        rw [List.length_cons] at z3
        clear hi
        go_wp2
        go_roundw
        case rel => exact ⟨k + 1, by omega, by go_num, by rw [HT.out, HSZ.out], H, d1⟩
        case measure => simp [intOf]; omega
    · obtain rfl : k = l.length := by omega
      have H := HA.out
      rw [List.take_length] at H ⊢
      rw [H, if_pos rfl] at HJ
      have hz : ((⟨(jn l).toArray⟩ : ByteArray).toList == []) = decide (l = []) := by
        rw [ba_toList, Bool.eq_iff_iff, beq_iff_eq, decide_eq_true_iff]
        exact jn_nil
      clear H
      by_cases h8 : 8 < l.length
      · have h8' : (8 : Int) < (l.length : Int) := by omega
        rw [if_pos h8] at HJ
        generalize (⟨(jn l).toArray⟩ : ByteArray) = S at *
        clear h8
        go_wp2
        go_ret2
        exact ⟨by rw [HJ.out]; rfl, hbr⟩
      · have h8' : ¬ (8 : Int) < (l.length : Int) := by omega
        rw [if_neg h8] at HJ
        by_cases h0 : l = []
        · rw [if_pos h0] at HJ
          rw [decide_eq_true h0] at hz
          generalize (⟨(jn l).toArray⟩ : ByteArray) = S at *
          clear h8 h0
          go_wp2
          go_ret2
          exact ⟨by rw [HJ.out]; rfl, hbr⟩
        · rw [if_neg h0] at HJ
          rw [decide_eq_false h0] at hz
          obtain ⟨S, hS⟩ : ∃ S, (⟨(jn l).toArray⟩ : ByteArray) = S := ⟨_, rfl⟩
          rw [hS] at hz ⊢
          have HSS := Lib.hid hS
          clear h8 h0 hS
          go_wp2
          go_ret2
          exact ⟨by rw [HJ.out]; dsimp only; rw [HSS.out]; rfl, hbr⟩
end Go.Proofs.Ytahcbgllnoopgaa
