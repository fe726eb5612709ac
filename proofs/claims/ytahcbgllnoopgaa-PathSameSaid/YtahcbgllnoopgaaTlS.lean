/-
  The walks of the reference of layer 9, on: what Runes, sign, Count, Is, Head, Fold, cut and Fit answer. By an AI agent.
-/
import Derived.Test.YtahcbgllnoopgaaTlR
namespace Go.Proofs.Ytahcbgllnoopgaa
open Go.RowKit
open Tl (It)

def rnC (x : It) : List Value := [.int .i64 x.v, .string ⟨x.s.toArray⟩, .bool x.odd]
def Rns (w : World) (B : Nat) (v : Value) (xs : List It) : Prop := Rds w B 3 v xs.length (xs.flatMap rnC)
theorem rnCells (xs : List It) : (xs.flatMap rnC).length = xs.length * 3 := by
  induction xs with
  | nil => rfl
  | cons x xs ih => rw [List.flatMap_cons, List.length_append, ih, List.length_cons]; simp [rnC]; omega
theorem rnAt : ∀ (xs : List It) (k : Nat) (h : k < xs.length), (xs.flatMap rnC)[k * 3]? = some (.int .i64 xs[k].v) ∧ (xs.flatMap rnC)[k * 3 + 1]? = some (.string ⟨xs[k].s.toArray⟩) ∧ (xs.flatMap rnC)[k * 3 + 2]? = some (.bool xs[k].odd)
  | x :: xs, 0, _ => ⟨rfl, rfl, rfl⟩
  | x :: xs, k + 1, h => by
    have := rnAt xs k (by simpa using h)
    rw [List.flatMap_cons, show (k + 1) * 3 = k * 3 + 1 + 1 + 1 by omega]
    exact this
theorem Rns.open_ {w : World} {B : Nat} {v : Value} {xs : List It} (h : Rns w B v xs) : ∃ (A : Option Addr) (c : Nat), v = .slice A xs.length c ∧ xs.length ≤ c ∧ c ≤ 9223372036854775807 ∧
    ∀ (j : Nat) (hj : j < xs.length), ∃ b off, A = some ⟨b, off, none⟩ ∧ b < B ∧ w.cell? ⟨b, off + j * 3, none⟩ = some (.int .i64 xs[j].v) ∧ w.cell? ⟨b, off + j * 3 + 1, none⟩ = some (.string ⟨xs[j].s.toArray⟩) ∧ w.cell? ⟨b, off + j * 3 + 2, none⟩ = some (.bool xs[j].odd) := by
  obtain ⟨A, c, h1, h2, h3, h4, h5⟩ := h
  refine ⟨A, c, h1, h2, h3, fun j hj => ?_⟩
  obtain ⟨b, off, e, hb, hc⟩ := h5 (by omega)
  have := rnAt xs j hj
  exact ⟨b, off, e, hb, hc _ _ this.1, by have := hc _ _ this.2.1; rw [Nat.add_assoc]; exact this, by have := hc _ _ this.2.2; rw [Nat.add_assoc]; exact this⟩
theorem infoRune : (Try.prog.info? 64).map (fun i => (i.zero, i.size, i.bytes)) = some (some (.agg #[.int .i64 0, .string .empty, .bool false]), 3, 32) := by kernel_rfl
def strLen : Value → Nat
  | .string s => s.size
  | _ => 0
set_option maxHeartbeats 2000000 in
theorem runes_any (l : List UInt8) (w : World) (hl : l.length < 1099511627776) :
    Calls Try.prog 36 #[.string ⟨l.toArray⟩] w fun e w' => ∃ v, e = .returned v ∧ Rns w' w'.heap.size v (Tl.runes l) ∧ Below w.heap.size w w' := by
  go_enter Try.func36, Try.ntmps36
  go_wp2
  go_loopw [0, 3] (fun s v wr => ∃ (pre : List It) (m : List UInt8), s = .string ⟨m.toArray⟩ ∧ Tl.runes l = pre ++ Tl.runes m ∧ pre.length + m.length ≤ l.length ∧ wr.ownsRow w.heap.size 64 3 v pre.length (pre.flatMap rnC) ∧ Below w.heap.size w wr) (fun s _ _ => strLen s)
  case atStart => exact ⟨[], l, rfl, rfl, by simp, World.ownsRow_nil _ _ _ _, Below.refl _ _⟩
  case round =>
    obtain ⟨pre, m, rfl, hpre, hpl, hown, hbw⟩ := hrel
    have hsz := ba_size m
    by_cases hm : m = []
    · subst hm
      have hz : (0 : Int) = ((⟨([] : List UInt8).toArray⟩ : ByteArray).size : Int) := rfl
      have HP := Lib.hid (show Tl.runes l = pre by rw [hpre]; simp [Tl.runes_nil])
      clear hpre hsz hz
      go_wp2
      go_ret
      exact ⟨_, rfl, by rw [HP.out]; exact Rds.of_own hown, hbw⟩
    · have hm0 : 0 < m.length := by cases m with | nil => exact absurd rfl hm | cons a t => simp
      have hil := Tl.it_len m hm
      have hrc := Tl.runes_cons m hm
      have hnx := fun W => next_any m W (by omega) hm
      have hdr : (⟨m.toArray⟩ : ByteArray).extract (Tl.it m).s.length (⟨m.toArray⟩ : ByteArray).size = ⟨(m.drop (Tl.it m).s.length).toArray⟩ := by
        rw [hsz, ba_extract, List.take_of_length_le (Nat.le_refl _)]
      have hxs := ba_size (Tl.it m).s
      have HPP := Lib.hid (show Tl.runes l = (pre ++ [Tl.it m]) ++ Tl.runes (m.drop (Tl.it m).s.length) by rw [hpre, hrc]; simp)
      have hdl : (m.drop (Tl.it m).s.length).length = m.length - (Tl.it m).s.length := List.length_drop ..
      generalize Tl.it m = x at *
      have HFM := Lib.hid (show (pre ++ [x]).flatMap rnC = pre.flatMap rnC ++ rnC x by rw [List.flatMap_append]; simp)
      obtain ⟨xv, xs, xo⟩ := x
      simp only [itV] at hnx hil hxs hdr HPP hdl
      have HDR := Lib.hid hdr
      have HDL := Lib.hid hdl
      have hgt : (0 : Int) < ((⟨m.toArray⟩ : ByteArray).size : Int) := by rw [hsz]; omega
      have hle : (⟨xs.toArray⟩ : ByteArray).size ≤ (⟨m.toArray⟩ : ByteArray).size := by rw [hxs, hsz]; exact hil.2.1
      have HX := Lib.hid hxs
      have HZ := Lib.hid hsz
      have hi1 := hil.1
      clear hrc hpre hdr hdl hxs hsz hil hm
      generalize hMM : (⟨m.toArray⟩ : ByteArray) = M at *
      generalize hXX : (⟨xs.toArray⟩ : ByteArray) = X at *
      have HXX := Lib.hid hXX
      have HMM := Lib.hid hMM
      clear hMM hXX
      go_wp2_with fail
      refine (hnx _).mono ?_
      rintro e w1 ⟨rfl, hb1⟩
      have hown1 := own_ext hown hb1
      have hbb := hbw.trans (hb1.mono hbw.size)
      clear hnx hb1 hbw hown
      go_wp2_with (at_builtin; refine stop_ ?_)
      have hkv := Blk.new w1 64 #[.int .i64 xv, .string X, .bool xo]
      have hown2 := hown1.alloc (.cells #[.int .i64 xv, .string X, .bool xo] 64)
      have hb2 := hbb.alloc hbb.size (.cells #[.int .i64 xv, .string X, .bool xo] 64)
      refine wpList_append_elem rfl _ _ rfl rfl rfl (by simp) Try.underlying60 infoRune rfl (by decide) hown2 rfl (by simp [Value.oneCell']) (by rw [maxLen_eq]; omega) (by omega) hb2.size ?_
      intro v' w3 hown3 hgr
      have hb3 := hb2.grown hgr hb2.size (fun g hg => (hown2.lt g hg).1)
      have hk3 := hkv.grown hgr (fun e => by have := (hown1.lt _ e.symm).2; omega)
      clear hgr hown1 hown2 hkv hb2 hbb
      have c1 := hk3.cell 1
      simp only [List.getElem?_cons_zero, List.getElem?_cons_succ] at c1
      have g1 : (0 : Int) ≤ (X.size : Int) := by omega
      have g2 : (X.size : Int) ≤ M.size := by omega
      go_wp2
      go_roundw
      case rel =>
        refine ⟨pre ++ [⟨xv, xs, xo⟩], m.drop xs.length, ?_, HPP.out, ?_, ?_, hb3⟩
        · rw [← HDR.out, ← HX.out]
        · rw [HDL.out, List.length_append]; simp; omega
        · rw [HFM.out, List.length_append]
          show w3.ownsRow _ _ 3 v' (pre.length + 1) (pre.flatMap rnC ++ [.int .i64 xv, .string ⟨xs.toArray⟩, .bool xo])
          rw [HXX.out]
          exact hown3
      case measure =>
        have h1 : (M.extract X.size M.size).size = M.size - X.size := by simp
        have h2 := HX.out
        simp only [strLen, h1]
        omega
set_option maxHeartbeats 400000 in
theorem sign_any (x : It) (w : World) :
    Calls Try.prog 37 #[itV x] w fun e w' => e = .returned (.bool (Tl.sgn x)) ∧ Below w.heap.size w w' := by
  obtain ⟨v, xs, od⟩ := x
  unfold itV Tl.sgn
  simp only
  cases od with
  | true =>
    go_enter Try.func37, Try.ntmps37
    go_wp2
    go_ret
    exact ⟨rfl, (Below.refl _ _).alloc (Nat.le_refl _) _⟩
  | false =>
    by_cases h1 : 32 ≤ v
    · cases h2 : (v != 127)
      · go_enter Try.func37, Try.ntmps37
        go_wp2
        go_ret
        exact ⟨by simp, (Below.refl _ _).alloc (Nat.le_refl _) _⟩
      · go_enter Try.func37, Try.ntmps37
        go_wp2
        go_ret
        exact ⟨by simp [h1], (Below.refl _ _).alloc (Nat.le_refl _) _⟩
    · go_enter Try.func37, Try.ntmps37
      go_wp2
      go_ret
      exact ⟨by simp; omega, (Below.refl _ _).alloc (Nat.le_refl _) _⟩
theorem filter_snoc {α : Type} (p : α → Bool) (xs : List α) (k : Nat) (h : k < xs.length) : ((xs.take (k + 1)).filter p).length = ((xs.take k).filter p).length + (if p xs[k] then 1 else 0) := by
  rw [List.take_succ_eq_append_getElem h, List.filter_append, List.length_append]
  cases hp : p xs[k] <;> simp [hp]
theorem all_snoc {α : Type} (p : α → Bool) (xs : List α) (k : Nat) (h : k < xs.length) (hp : ∀ x ∈ xs.take k, p x = true) (hk : p xs[k] = true) : ∀ x ∈ xs.take (k + 1), p x = true := by
  intro x hx
  rw [List.take_succ_eq_append_getElem h] at hx
  rcases List.mem_append.1 hx with hx | hx
  · exact hp x hx
  · rw [List.mem_singleton.1 hx]; exact hk
set_option maxHeartbeats 2000000 in
theorem isR_any (l : List UInt8) (w : World) (hl : l.length < 1099511627776) :
    Calls Try.prog 24 #[.string ⟨l.toArray⟩] w fun e w' => e = .returned (.bool (Tl.isN l)) ∧ Below w.heap.size w w' := by
  have hrl := Tl.runes_len l
  have HN := Lib.hid (show Tl.isN l = ((Tl.runes l).all Tl.sgn && decide (1 ≤ l.length) && decide (l.length ≤ 24) && decide ((Tl.runes l).length ≤ 16) && l != [46] && l != [46, 46]) from rfl)
  have hsz := ba_size l
  have e1 : (⟨l.toArray⟩ : ByteArray).toList = l := ba_toList l
  go_enter Try.func24, Try.ntmps24
  go_wp2_with fail
  refine (runes_any l _ hl).mono ?_
  rintro e w1 ⟨v, rfl, hr, hb⟩
  generalize Tl.runes l = xs at *
  generalize hs : (⟨l.toArray⟩ : ByteArray) = s at *
  have HE := Lib.hid e1
  clear hs e1
  obtain ⟨A, c, rfl, hc, hm, hcell⟩ := hr.open_
  clear hr
  go_wp2
  go_loopw [4] (fun i wr => ∃ k : Nat, k ≤ xs.length ∧ i = .int .i64 k ∧ (∀ x ∈ xs.take k, Tl.sgn x = true) ∧ Below w1.heap.size w1 wr) (fun i _ => xs.length - (intOf i).toNat)
  case atStart => exact ⟨0, Nat.zero_le _, rfl, by simp, Below.refl _ _⟩
  case round =>
    obtain ⟨k, hk, rfl, hall, hbw⟩ := hrel
    by_cases hlt : k < xs.length
    · obtain ⟨b, off, rfl, hb', h1, h2, h3⟩ := hcell k hlt
      have h1' := (hbw.cell (p := ⟨b, off + k * 3, none⟩) hb').trans h1
      have h2' := (hbw.cell (p := ⟨b, off + k * 3 + 1, none⟩) hb').trans h2
      have h3' := (hbw.cell (p := ⟨b, off + k * 3 + 2, none⟩) hb').trans h3
      have HS := Lib.hid (fun h => all_snoc Tl.sgn xs k hlt hall h)
      have HF := Lib.hid (show Tl.sgn xs[k] = false → Tl.isN l = false from fun h => by
        rw [HN.out]
        have : xs.all Tl.sgn = false := by
          rw [List.all_eq_false]
          exact ⟨xs[k], List.getElem_mem hlt, by rw [h]; decide⟩
        rw [this]; simp)
      have hsg := fun W => sign_any xs[k] W
      unfold itV at hsg
      generalize Tl.sgn xs[k] = g at *
      generalize xs[k].v = xv at *
      generalize (⟨xs[k].s.toArray⟩ : ByteArray) = xss at *
      generalize xs[k].odd = xo at *
      clear hcell h1 h2 h3 hall
      go_wp2_with fail
      refine (hsg _).mono ?_
      rintro e w2 ⟨rfl, hb2⟩
      have hbb := hbw.trans (hb2.mono hbw.size)
      clear hsg
      cases g with
      | true =>
        go_wp2
        go_roundw
        case rel => exact ⟨k + 1, by omega, by go_num, HS.out (by trivial), hbb⟩
        case measure => simp [intOf]; omega
      | false =>
        go_wp2
        go_ret
        exact ⟨by rw [HF.out (by trivial)]; rfl, hb.trans (hbb.mono hb.size)⟩
    · obtain rfl : k = xs.length := by omega
      rw [List.take_length] at hall
      have HA := Lib.hid (show xs.all Tl.sgn = true from List.all_eq_true.2 hall)
      have HB := hb.trans (hbw.mono hb.size)
      clear hall hcell
      by_cases h1 : 1 ≤ l.length
      · have g1 : (1 : Int) ≤ s.size := by omega
        by_cases h2 : l.length ≤ 24
        · have g2 : (s.size : Int) ≤ 24 := by omega
          by_cases h3 : xs.length ≤ 16
          · have g3 : (xs.length : Int) ≤ 16 := by omega
            by_cases h4 : l = [46]
            · have g4 : (s.toList == [46]) = true := by rw [HE.out, h4]; rfl
              have H := Lib.hid (show Tl.isN l = false by rw [HN.out, h4]; simp)
              clear h4 hsz
              go_wp2
              go_ret
              exact ⟨by rw [H.out]; rfl, HB⟩
            · have g4 : (s.toList == [46]) = false := by rw [HE.out]; simpa using h4
              by_cases h5 : l = [46, 46]
              · have g5 : (s.toList == [46, 46]) = true := by rw [HE.out, h5]; rfl
                have H := Lib.hid (show Tl.isN l = false by rw [HN.out, h5]; simp)
                clear h4 h5 hsz
                go_wp2
                go_ret
                exact ⟨by rw [H.out]; rfl, HB⟩
              · have g5 : (s.toList == [46, 46]) = false := by rw [HE.out]; simpa using h5
                have H := Lib.hid (show Tl.isN l = true by rw [HN.out, HA.out, decide_eq_true h1, decide_eq_true h2, decide_eq_true h3, show (l != [46]) = true from bne_iff_ne.2 h4, show (l != [46, 46]) = true from bne_iff_ne.2 h5]; rfl)
                clear h4 h5 hsz
                go_wp2
                go_ret
                exact ⟨by rw [H.out]; rfl, HB⟩
          · have g3 : ¬ (xs.length : Int) ≤ 16 := by omega
            have H := Lib.hid (show Tl.isN l = false by rw [HN.out, decide_eq_false h3]; simp)
            clear hsz
            go_wp2
            go_ret
            exact ⟨by rw [H.out]; rfl, HB⟩
        · have g2 : ¬ (s.size : Int) ≤ 24 := by omega
          have H := Lib.hid (show Tl.isN l = false by rw [HN.out, decide_eq_false h2]; simp)
          clear hsz
          go_wp2
          go_ret
          exact ⟨by rw [H.out]; rfl, HB⟩
      · have g1 : ¬ (1 : Int) ≤ s.size := by omega
        have H := Lib.hid (show Tl.isN l = false by rw [HN.out, decide_eq_false h1]; simp)
        clear hsz
        go_wp2
        go_ret
        exact ⟨by rw [H.out]; rfl, HB⟩
end Go.Proofs.Ytahcbgllnoopgaa
