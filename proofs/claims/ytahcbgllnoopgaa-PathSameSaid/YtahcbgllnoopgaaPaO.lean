/-
  Arguments of the laws of layer 11: a slice of texts; names. By an AI agent.
-/
import Derived.Test.YtahcbgllnoopgaaPaN
import Derived.Test.YtahcbgllnoopgaaArgs
import Derived.Test.YtahcbgllnoopgaaLeaf
import Derived.Test.YtahcbgllnoopgaaPlain
namespace Go.Proofs.Ytahcbgllnoopgaa
open Go.ChangeShapes Go.WideShapes Go.ChangeAt Go.RowKit

def str1 (s : List UInt8) : List Value := [.string ⟨s.toArray⟩]
theorem str1_flat (l : List (List UInt8)) : l.flatMap str1 = strs l := by
  unfold strs
  induction l with
  | nil => rfl
  | cons x l ih => rw [List.flatMap_cons, ih]; rfl
section
variable {H : Type} {enc : TypeId × Value → H} {W : World} {base : Nat} {r : Reach} {b0 : Nat}
theorem str_of_cs {held : Bool} {spare : Nat → Bool} {fuel : Nat} {cs : List Value} {x : DataW H × List MemPlace} (h : DataW.trod enc Try.prog W base spare held fuel 9 cs = some x) (hl : cs.length = 1) : ∃ y : List UInt8, cs = str1 y := by
  obtain ⟨s, hs⟩ := leaf_string (d := 0) (j := 0) (ty := 9) h (by decide +kernel) Try.underlying9
  refine ⟨s.data.toList, ?_⟩
  match cs, hl with
  | [a], _ =>
    simp only [List.getElem?_cons_zero, Option.some.injEq] at hs
    subst hs
    cases s
    simp [str1]
theorem strs_of_trod {v : Value} {d : DataW H} {ps : List MemPlace} (hv : Value.okWide Try.prog W r b0 23 v) (h : DataW.Trod enc Try.prog W base (fun _ => true) true 23 v d ps) :
    ∃ l : List (List UInt8), Strs W W.heap.size v l := by
  obtain ⟨a0, len0, cap0, rfl⟩ := okWide_slice Try.underlying23 hv
  obtain ⟨n, h⟩ := h
  have hce : (Value.slice a0 len0 cap0).cells.toList = [.slice a0 len0 cap0] := rfl
  rw [hce] at h
  obtain ⟨l, h1, _⟩ := rds_of_cs str1 (fun _ => True) Try.underlying23 (k := 1) (by kernel_rfl) (by decide) (fun _ => rfl) (fun n cs y h hl => by
    obtain ⟨z, hz⟩ := str_of_cs h hl
    exact ⟨z, hz, trivial⟩) h
  rw [str1_flat] at h1
  exact ⟨l, h1⟩
end

/-! ### names -/
def namesL (l : List (List UInt8)) : List (List UInt8) := (l.take 10).map (·.take 60)
theorem names_len (l : List (List UInt8)) : (namesL l).length ≤ 10 := by unfold namesL; rw [List.length_map]; exact List.length_take_le _ _
theorem names_each (l : List (List UInt8)) : ∀ x ∈ namesL l, x.length ≤ 60 := by
  intro x hx
  obtain ⟨z, _, rfl⟩ := List.mem_map.1 hx
  exact List.length_take_le _ _

set_option maxRecDepth 100000 in
set_option maxHeartbeats 4000000 in
/-- The loop of names. -/
theorem names_any (v : Value) (l : List (List UInt8)) (w : World) (hl : Strs w w.heap.size v l) :
    Calls Try.prog 15 #[v] w fun e w' => ∃ u, e = .returned u ∧ Strs w' w'.heap.size u (namesL l) ∧ Below w.heap.size w w' := by
  obtain ⟨A, c, rfl, hlc, hcm, hE⟩ := hl.open_
  obtain ⟨m, hm⟩ : ∃ m, l.take 10 = m := ⟨_, rfl⟩
  have hml : m.length ≤ 10 := by rw [← hm]; exact List.length_take_le _ _
  have hmll : m.length ≤ l.length := by rw [← hm, List.length_take]; omega
  have HF := Lib.hid (show namesL l = m.map (·.take 60) by unfold namesL; rw [hm])
  have hEm : StrsAt w w.heap.size A m := fun j hj => by
    obtain ⟨b, off, e, hB, h0⟩ := hE j (by omega)
    refine ⟨b, off, e, hB, ?_⟩
    rw [h0]
    have : l.getD j [] = m.getD j [] := by
      rw [← hm, List.getD_eq_getElem?_getD, List.getD_eq_getElem?_getD, List.getElem?_take, if_pos (by omega)]
    rw [this]
  have HE := Lib.hid hEm
  have hcc : m.length ≤ c := by omega
  have hcut : 10 < l.length → m.length = 10 := fun h => by rw [← hm, List.length_take]; omega
  have hcut2 : ¬ 10 < l.length → l.length = m.length := fun h => by rw [← hm, List.length_take]; omega
  clear hE hEm hm hl
  by_cases h10 : 10 < l.length
  · have h10' := hcut h10
    have hg : (10 : Int) < (l.length : Int) := by omega
    have hhd := fun W => run_headS A l.length c m.length hcc (10 : Int) (by omega) W
    clear hcut hcut2 h10
    go_enter Try.func15, Try.ntmps15
    go_wp2
    clear hhd hg
    go_loopw [3, 4] (fun s i wr => ∃ k : Nat, k ≤ m.length ∧ i = .int .i64 k ∧ wr.ownsRow w.heap.size 9 1 s k (strs ((m.take k).map (·.take 60))) ∧ Below w.heap.size w wr) (fun _ i _ => m.length - (intOf i).toNat)
    case atStart => exact ⟨0, Nat.zero_le _, rfl, World.ownsRow_nil _ _ _ _, Below.refl _ _⟩
    case round =>
      obtain ⟨k, hk, rfl, hown, hbr⟩ := hrel
      by_cases hlt : k < m.length
      · obtain ⟨b, off, rfl, hbB, h0⟩ := (HE.out.below hbr) k hlt
        have HM := Lib.hid (show (m.take (k + 1)).map (·.take 60) = (m.take k).map (·.take 60) ++ [(m.getD k []).take 60] by rw [List.take_succ_eq_append_getElem hlt, List.map_append]; simp [List.getD, hlt])
        generalize m.getD k [] = y at *
        have hsz := ba_size y
        have hx := ba_take y 60
        by_cases h60 : 60 < y.length
        · have h1 : (60 : Int) < (y.length : Int) := by omega
          obtain ⟨S, hS⟩ : ∃ S, (⟨y.toArray⟩ : ByteArray) = S := ⟨_, rfl⟩
          rw [hS] at h0 hsz hx
          have h2 : (60 : Int) ≤ (y.length : Int) := by omega
          generalize hT : (⟨(y.take 60).toArray⟩ : ByteArray) = T at *
          have HT := Lib.hid hT
          clear hS h60 hT
          go_wp2_with (at_builtin; refine stop_ ?_)
          refine wpList_append_elem rfl _ _ rfl rfl rfl (by simp) Try.underlying23 infoStr rfl (by decide) hown rfl (by simp [Value.oneCell']) (by rw [maxLen_eq]; omega) (by omega) hbr.size ?_
          rintro v2 wb hownb hgrb
          have hBb := hbr.grown hgrb hbr.size (fun j e => (hown.lt j e).1)
          obtain ⟨A2, c2, rfl⟩ := own_slice hownb
          clear hgrb hown h0
          go_wp2
          go_roundw
          case rel =>
            refine ⟨k + 1, by omega, by go_num, ?_, hBb⟩
            rw [HM.out, strs_app]
            rw [← HT.out] at hownb
            exact hownb
          case measure => simp [intOf]; omega
        · have h1 : ¬ (60 : Int) < (y.length : Int) := by omega
          obtain ⟨S, hS⟩ : ∃ S, (⟨y.toArray⟩ : ByteArray) = S := ⟨_, rfl⟩
          rw [hS] at h0 hsz
          have HT : Hid ((⟨(y.take 60).toArray⟩ : ByteArray) = S) := Lib.hid (by rw [List.take_of_length_le (by omega), hS])
          clear hS h60 hx
          go_wp2_with (at_builtin; refine stop_ ?_)
          refine wpList_append_elem rfl _ _ rfl rfl rfl (by simp) Try.underlying23 infoStr rfl (by decide) hown rfl (by simp [Value.oneCell']) (by rw [maxLen_eq]; omega) (by omega) hbr.size ?_
          rintro v2 wb hownb hgrb
          have hBb := hbr.grown hgrb hbr.size (fun j e => (hown.lt j e).1)
          obtain ⟨A2, c2, rfl⟩ := own_slice hownb
          clear hgrb hown h0
          go_wp2
          go_roundw
          case rel =>
            refine ⟨k + 1, by omega, by go_num, ?_, hBb⟩
            rw [HM.out, strs_app]
            rw [← HT.out] at hownb
            exact hownb
          case measure => simp [intOf]; omega
      · obtain rfl : k = m.length := by omega
        rw [List.take_length] at hown
        have hS := Strs.of_own hown
        obtain ⟨A2, c2, rfl⟩ := own_slice hown
        go_wp2
        go_ret
        exact ⟨_, rfl, by rw [HF.out]; exact hS, hbr⟩
  · have h10' := hcut2 h10
    rw [h10']
    have hg : ¬ (10 : Int) < (m.length : Int) := by omega
    clear hcut hcut2 h10 h10'
    go_enter Try.func15, Try.ntmps15
    go_wp2
    clear hg
    go_loopw [3, 4] (fun s i wr => ∃ k : Nat, k ≤ m.length ∧ i = .int .i64 k ∧ wr.ownsRow w.heap.size 9 1 s k (strs ((m.take k).map (·.take 60))) ∧ Below w.heap.size w wr) (fun _ i _ => m.length - (intOf i).toNat)
    case atStart => exact ⟨0, Nat.zero_le _, rfl, World.ownsRow_nil _ _ _ _, Below.refl _ _⟩
    case round =>
      obtain ⟨k, hk, rfl, hown, hbr⟩ := hrel
      by_cases hlt : k < m.length
      · obtain ⟨b, off, rfl, hbB, h0⟩ := (HE.out.below hbr) k hlt
        have HM := Lib.hid (show (m.take (k + 1)).map (·.take 60) = (m.take k).map (·.take 60) ++ [(m.getD k []).take 60] by rw [List.take_succ_eq_append_getElem hlt, List.map_append]; simp [List.getD, hlt])
        generalize m.getD k [] = y at *
        have hsz := ba_size y
        have hx := ba_take y 60
        by_cases h60 : 60 < y.length
        · have h1 : (60 : Int) < (y.length : Int) := by omega
          obtain ⟨S, hS⟩ : ∃ S, (⟨y.toArray⟩ : ByteArray) = S := ⟨_, rfl⟩
          rw [hS] at h0 hsz hx
          have h2 : (60 : Int) ≤ (y.length : Int) := by omega
          generalize hT : (⟨(y.take 60).toArray⟩ : ByteArray) = T at *
          have HT := Lib.hid hT
          clear hS h60 hT
          go_wp2_with (at_builtin; refine stop_ ?_)
          refine wpList_append_elem rfl _ _ rfl rfl rfl (by simp) Try.underlying23 infoStr rfl (by decide) hown rfl (by simp [Value.oneCell']) (by rw [maxLen_eq]; omega) (by omega) hbr.size ?_
          rintro v2 wb hownb hgrb
          have hBb := hbr.grown hgrb hbr.size (fun j e => (hown.lt j e).1)
          obtain ⟨A2, c2, rfl⟩ := own_slice hownb
          clear hgrb hown h0
          go_wp2
          go_roundw
          case rel =>
            refine ⟨k + 1, by omega, by go_num, ?_, hBb⟩
            rw [HM.out, strs_app]
            rw [← HT.out] at hownb
            exact hownb
          case measure => simp [intOf]; omega
        · have h1 : ¬ (60 : Int) < (y.length : Int) := by omega
          obtain ⟨S, hS⟩ : ∃ S, (⟨y.toArray⟩ : ByteArray) = S := ⟨_, rfl⟩
          rw [hS] at h0 hsz
          have HT : Hid ((⟨(y.take 60).toArray⟩ : ByteArray) = S) := Lib.hid (by rw [List.take_of_length_le (by omega), hS])
          clear hS h60 hx
          go_wp2_with (at_builtin; refine stop_ ?_)
          refine wpList_append_elem rfl _ _ rfl rfl rfl (by simp) Try.underlying23 infoStr rfl (by decide) hown rfl (by simp [Value.oneCell']) (by rw [maxLen_eq]; omega) (by omega) hbr.size ?_
          rintro v2 wb hownb hgrb
          have hBb := hbr.grown hgrb hbr.size (fun j e => (hown.lt j e).1)
          obtain ⟨A2, c2, rfl⟩ := own_slice hownb
          clear hgrb hown h0
          go_wp2
          go_roundw
          case rel =>
            refine ⟨k + 1, by omega, by go_num, ?_, hBb⟩
            rw [HM.out, strs_app]
            rw [← HT.out] at hownb
            exact hownb
          case measure => simp [intOf]; omega
      · obtain rfl : k = m.length := by omega
        rw [List.take_length] at hown
        have hS := Strs.of_own hown
        obtain ⟨A2, c2, rfl⟩ := own_slice hown
        go_wp2
        go_ret
        exact ⟨_, rfl, by rw [HF.out]; exact hS, hbr⟩
end Go.Proofs.Ytahcbgllnoopgaa
