/-
  The walk of title.visit, whatever function it is handed, and of what it calls. By an AI agent.
-/
import Derived.Test.YtahcbgllnoopgaaChecked
import Derived.Test.YtahcbgllnoopgaaBase
import Derived.Test.YtahcbgllnoopgaaRegion
import Derived.Test.YtahcbgllnoopgaaTitleP
import Derived.Lib.OthersKept
import Derived.Deep.DeepCutAuto
namespace Go.Proofs.Ytahcbgllnoopgaa
open Go.RowKit
open Tl (It)

/-- Every block but a string's iterator stands. -/
def Stay (w w' : World) : Prop := ∀ (k : Nat) (o : Obj), w.heap[k]? = some o → (∀ s p, o ≠ Obj.stringIter s p) → w'.heap[k]? = some o
/-- Every string's iterator stands. -/
def Iters (w w' : World) : Prop := ∀ (k : Nat) (s : ByteArray) (p : Nat), w.heap[k]? = some (Obj.stringIter s p) → w'.heap[k]? = some (Obj.stringIter s p)

set_option maxHeartbeats 400000 in
theorem runeLen_any (r : Nat) (w : World) (h : r ≤ 1114111) (h2 : r < 55296 ∨ 57343 < r) :
    Calls Try.prog 42 #[.int .i32 (r : Int)] w fun e w' => e = .returned (.int .i64 (Tl.runeLen r : Nat)) ∧ w = w' := by
  unfold Tl.runeLen
  by_cases h1 : r ≤ 127
  · rw [if_pos h1]
    go_enter Try.func42, Try.ntmps42
    go_wp2
    go_ret
    exact ⟨rfl, rfl⟩
  rw [if_neg h1]
  by_cases h3 : r ≤ 2047
  · rw [if_pos h3]
    go_enter Try.func42, Try.ntmps42
    go_wp2
    go_ret
    exact ⟨rfl, rfl⟩
  rw [if_neg h3]
  by_cases h4 : r ≤ 65535
  · rw [if_pos h4]
    by_cases h5 : 55296 ≤ r
    · have h6 : 57343 < r := by omega
      go_enter Try.func42, Try.ntmps42
      go_wp2
      go_ret
      exact ⟨rfl, rfl⟩
    · go_enter Try.func42, Try.ntmps42
      go_wp2
      go_ret
      exact ⟨rfl, rfl⟩
  · rw [if_neg h4]
    go_enter Try.func42, Try.ntmps42
    go_wp2
    go_ret
    exact ⟨rfl, rfl⟩

theorem ba_ext (s : ByteArray) (i j : Nat) : s.extract i j = ⟨((s.data.toList.take j).drop i).toArray⟩ := ba_extract s.data.toList i j
theorem ba_toList (l : List UInt8) : (⟨l.toArray⟩ : ByteArray).toList = l := ByteArray.toList_eq _
set_option maxHeartbeats 400000 in
theorem hasPrefix_any (s : ByteArray) (w : World) :
    Calls Try.prog 19 #[.string s, .string ⟨#[239, 191, 189]⟩] w fun e w' => e = .returned (.bool (decide (s.data.toList.take 3 = [239, 191, 189]))) ∧ w = w' := by
  by_cases h : 3 ≤ s.size
  · have H := Lib.hid (show decide (s.data.toList.take 3 = [239, 191, 189]) = ((s.extract 0 3).toList == [239, 191, 189]) by
      rw [ba_ext, ba_toList, List.drop_zero, Bool.eq_iff_iff]
      simp)
    go_enter Try.func19, Try.ntmps19
    go_wp2
    go_ret
    exact ⟨by rw [H.out]; rfl, rfl⟩
  · have H := Lib.hid (show decide (s.data.toList.take 3 = [239, 191, 189]) = false by
      rw [decide_eq_false_iff_not]
      intro h3
      have := congrArg List.length h3
      rw [List.length_take] at this
      have h4 : s.data.toList.length = s.size := rfl
      simp only [List.length_cons, List.length_nil] at this
      omega)
    go_enter Try.func19, Try.ntmps19
    go_wp2
    go_ret
    exact ⟨by rw [H.out]; rfl, rfl⟩

/-- The value that a range gives. -/
def itR (x : It) : Int := if x.odd then 65533 else x.v

theorem Stay.refl (w : World) : Stay w w := fun _ _ h _ => h
theorem Stay.trans {a b c : World} (h : Stay a b) (k : Stay b c) : Stay a c := fun i o hi ho => k i o (h i o hi ho) ho
theorem Stay.alloc {a w : World} (h : Stay a w) (o : Obj) : Stay a (w.alloc o) := by
  intro k x hk hx
  have h1 := h k x hk hx
  exact (Lib.alloc_old w o k (Array.getElem?_eq_some_iff.1 h1).1).trans h1
theorem Stay.setCell_new {a w : World} (h : Stay a w) {p : Addr} (hp : a.heap.size ≤ p.block) (v : Value) : Stay a (w.setCell p v) := by
  intro k x hk hx
  have h1 := h k x hk hx
  have hlt : k < a.heap.size := (Array.getElem?_eq_some_iff.1 hk).1
  rw [Below.heap_setCell _ _ _ _ (fun e => by subst e; omega)]
  exact h1
theorem Stay.iterAt {a w : World} (h : Stay a w) {k : Nat} {s : ByteArray} {pos : Nat} (hk : a.heap[k]? = some (.stringIter s pos)) (pos' : Nat) : Stay a (w.iterAt k s pos') := by
  intro i x hi hx
  rw [Lib.iterAt_other w k i s pos' (fun e => by subst e; rw [hk] at hi; exact hx _ _ (Option.some.inj hi).symm)]
  exact h i x hi hx

theorem wide (s : ByteArray) (pos n : Nat) : s.extract pos (pos + n) = ⟨((s.data.toList.drop pos).take n).toArray⟩ := by
  rw [ba_ext, List.take_drop, Nat.add_comm]

set_option maxRecDepth 100000 in
set_option maxHeartbeats 1000000 in
theorem visit_any {σ : Type} (s : ByteArray) (hs : s.size < 4611686018427387904) (K : Nat) (c1 c2 : Value) (I : σ → World → Prop) (step : σ → It → σ) (go : σ → It → Bool) (st0 : σ) (B : Nat) (w : World)
    (hB : B ≤ w.heap.size)
    (hK : ∀ args w, (callFunc K args).run Try.prog w = .ok (.enter K args) w)
    (hI : ∀ st w w', I st w → Stay w w' → I st w')
    (hc : ∀ pre x post w, Tl.runes s.data.toList = pre ++ x :: post → I (pre.foldl step st0) w → Calls Try.prog K #[.agg #[.int .i32 (itR x), .string ⟨x.s.toArray⟩, .bool x.odd], c1, c2] w fun e w' => e = .returned (.bool (go (pre.foldl step st0) x)) ∧ I (step (pre.foldl step st0) x) w' ∧ Below B w w' ∧ Iters w w')
    (h0 : I st0 w) :
    Calls Try.prog 30 #[.string s, .func (.func K) #[] #[c1, c2]] w fun e w' => e = .returned (.tuple #[]) ∧ I (Tl.run step go st0 (Tl.runes s.data.toList)) w' ∧ Below B w w' := by
  go_enter Try.func30, Try.ntmps30
  go_wp2
  go_loopw [] (fun wr => ∃ (pos : Nat) (pre : List It), Tl.runes s.data.toList = pre ++ Tl.runes (s.data.toList.drop pos) ∧ I (pre.foldl step st0) wr ∧
      Tl.run step go st0 (Tl.runes s.data.toList) = Tl.run step go (pre.foldl step st0) (Tl.runes (s.data.toList.drop pos)) ∧
      wr.heap[w.heap.size]? = some (.stringIter s pos) ∧ Below B w wr ∧ pos ≤ s.size) (fun wr => s.size - wr.iterPos w.heap.size)
  case atStart =>
    refine ⟨0, [], by simp, ?_, by simp, ?_, ?_, Nat.zero_le _⟩
    · exact hI _ _ _ h0 ((Stay.refl w).alloc _)
    · exact World.iter_heap w s 0
    · exact (Below.refl B w).alloc hB _
  case round =>
    obtain ⟨pos, pre, hpre, hi, hrun, hit, hbw, hps⟩ := hrel
    have hblt : w.heap.size < wr.heap.size := (Array.getElem?_eq_some_iff.1 hit).1
    by_cases hp : pos < s.size
    · have hne : s.data.toList.drop pos ≠ [] := by
        intro h
        have := congrArg List.length h
        rw [List.length_drop] at this
        have h4 : s.data.toList.length = s.size := rfl
        simp at this
        omega
      obtain ⟨q1, q2, q3, q4, q5, q6⟩ := Tl.rn_facts _ hne
      have hil := Tl.it_len _ hne
      have hrc := Tl.runes_cons _ hne
      have hod := Tl.odd_iff (s.data.toList.drop pos)
      have hor := Tl.odd_rn (s.data.toList.drop pos)
      have hdl : (s.data.toList.drop pos).length = s.size - pos := by rw [List.length_drop]; rfl
      have hwid := wide s pos
      have hnx0 : ∀ ty, (Instr.next (.pointer (some ⟨w.heap.size, 0, none⟩)) true ty).run Try.prog wr = _ := fun ty => Lib.run_next_any_at wr w.heap.size s pos ty hit hp
      rw [Tl.decode_drop] at hnx0
      have hitd : Tl.it (s.data.toList.drop pos) = if Tl.odd (s.data.toList.drop pos) then ⟨-1, (s.data.toList.drop pos).take 1, true⟩ else ⟨(Tl.rn (s.data.toList.drop pos)).1, (s.data.toList.drop pos).take (Tl.rn (s.data.toList.drop pos)).2, false⟩ := rfl
      have hex : (s.extract pos s.size).data.toList = s.data.toList.drop pos := by
        rw [ba_ext]
        show (s.data.toList.take s.size).drop pos = _
        rw [List.take_of_length_le (show s.data.toList.length ≤ s.size from Nat.le_refl _)]
      have hdd : ∀ n, s.data.toList.drop (pos + n) = (s.data.toList.drop pos).drop n := fun n => by rw [List.drop_drop]
      have hom : Tl.odd (s.data.toList.drop pos) = true → (Tl.rn (s.data.toList.drop pos)).1 = 65533 ∧ (Tl.rn (s.data.toList.drop pos)).2 = 1 := by
        unfold Tl.odd
        simp
      generalize s.data.toList.drop pos = L at *
      generalize hr' : (Tl.rn L).1 = r at *
      generalize hn' : (Tl.rn L).2 = n at *
      have hpn : pos + n ≤ s.size := by omega
      have hI1 := hI _ _ _ hi ((Stay.refl wr).iterAt hit (pos + n))
      have hit1 := Lib.iterAt_heap wr w.heap.size s pos (pos + n) hit
      have hb1 := Lib.below_iterAt hbw (k := w.heap.size) hB s (pos + n)
      have hz1 : (wr.iterAt w.heap.size s (pos + n)).heap.size = wr.heap.size := Lib.iterAt_size ..
      have hnx : ∀ ty, (Instr.next (.pointer (some ⟨w.heap.size, 0, none⟩)) true ty).run Try.prog wr = .ok (.tuple #[.bool true, .int .i64 pos, .int .i32 (r : Int)]) (wr.iterAt w.heap.size s (pos + n)) := hnx0
      generalize wr.iterAt w.heap.size s (pos + n) = w1 at *
      clear hnx0
      obtain ⟨x, hx⟩ : ∃ x, Tl.it L = x := ⟨_, rfl⟩
      rw [hx] at hitd hil hrc
      have hxx : itR x = r ∧ x.s.length = n ∧ (⟨x.s.toArray⟩ : ByteArray) = s.extract pos (pos + n) ∧ x.odd = Tl.odd L := by
        rw [hwid]
        cases ho : Tl.odd L with
        | true =>
          obtain ⟨rfl, rfl⟩ := hom ho
          rw [hitd, ho]
          simp [itR]
          omega
        | false =>
          rw [hitd, ho]
          simp [itR]
          omega
      obtain ⟨x1, x2, x3, x4⟩ := hxx
      have hcall := fun w2 (hw2 : Stay w1 w2) => hc pre x (Tl.runes (s.data.toList.drop (pos + n))) w2 (by rw [hpre, hrc, hdd, x2]) (hI _ _ _ hI1 hw2)
      rw [x1, x3, x4] at hcall
      have hfin : Hid (Tl.run step go st0 (Tl.runes s.data.toList) = if go (pre.foldl step st0) x then Tl.run step go ((pre ++ [x]).foldl step st0) (Tl.runes (s.data.toList.drop (pos + n))) else step (pre.foldl step st0) x) := Lib.hid (by
        rw [hrun, hrc, Tl.run, hdd, x2, List.foldl_append]
        rfl)
      have hpx : Tl.runes s.data.toList = (pre ++ [x]) ++ Tl.runes (s.data.toList.drop (pos + n)) := by rw [hpre, hrc, hdd, x2]; simp
      have HP := Lib.hid hpx
      have HF : (pre ++ [x]).foldl step st0 = step (pre.foldl step st0) x := by rw [List.foldl_append]; rfl
      generalize hg : go (pre.foldl step st0) x = g at hcall hfin
      generalize ht : step (pre.foldl step st0) x = t at hcall hfin HF
      have HT := Lib.hid HF
      have hbz : w.heap.size < w1.heap.size := by omega
      clear HF hpx hrun hpre hrc hdd hc ht hg hitd hil hI1 hi
      have hpf : r = 65533 → ∀ W, Calls Try.prog 19 #[.string (s.extract pos s.size), .string ⟨#[239, 191, 189]⟩] W fun e w' => e = .returned (.bool (!Tl.odd L)) ∧ W = w' := by
        intro h W
        have := hasPrefix_any (s.extract pos s.size) W
        rw [hex] at this
        rw [hod h, Bool.not_not]
        exact this
      generalize Tl.odd L = o at *
      clear hod hor hex hwid x1 x2 x3 x4 hx hr' hn' hne hdl
      cases o with
      | true =>
        obtain ⟨rfl, rfl⟩ := hom rfl
        have hpf := hpf rfl
        clear hom q6 
        have hsl : ∀ W, (Instr.slice 9 (.string s) (some (.int .i64 (pos : Int))) (some (.int .i64 ((pos : Int) + 1))) none).run Try.prog W = .ok (.string (s.extract pos (pos + 1))) W := by
          intro W
          have := run_slice_string (P := Try.prog) W 9 s .i64 .i64 (pos : Int) ((pos : Int) + 1) Try.underlying9 (by omega) (by omega) (by omega)
          rw [this, Int.toNat_natCast, show ((pos : Int) + 1).toNat = pos + 1 by omega]
        go_wp2_with (first | (go_at_call 19; refine (hpf _).mono ?_; rintro e w' ⟨rfl, rfl⟩) | fail)
        refine (hcall _ ?_).mono ?_
        · exact (Stay.refl w1).alloc _
        rintro e w3 ⟨rfl, hi3, hb3, hit3⟩
        have hit4 := hit3 _ _ _ ((Lib.alloc_old w1 _ w.heap.size hbz).trans hit1)
        have hb4 : Below B w w3 := (hb1.alloc (by omega) _).trans hb3
        cases g with
        | true =>
          go_wp2
          go_roundw
          case rel =>
            refine ⟨pos + 1, pre ++ [x], HP.out, by rw [HT.out]; exact hi3, ?_, hit4, hb4, hpn⟩
            rw [hfin.out]
            rfl
          case measure =>
            simp only [World.iterPos, hit4, hit]
            omega
        | false =>
          go_wp2
          refine bodyPost_ret (results_none rfl _ _ _) rfl ⟨rfl, ?_, hb4⟩
          rw [hfin.out]
          exact hi3
      | false =>
        have q6 := q6 rfl
        have hlen : ∀ W, Calls Try.prog 42 #[.int .i32 (r : Int)] W fun e w' => e = .returned (.int .i64 (n : Int)) ∧ W = w' := by
          intro W
          have := runeLen_any r W q4 q5
          rw [q6] at this
          exact this
        have hsl : ∀ W, (Instr.slice 9 (.string s) (some (.int .i64 (pos : Int))) (some (.int .i64 ((pos : Int) + (n : Int)))) none).run Try.prog W = .ok (.string (s.extract pos (pos + n))) W := by
          intro W
          have := run_slice_string (P := Try.prog) W 9 s .i64 .i64 (pos : Int) ((pos : Int) + (n : Int)) Try.underlying9 (by omega) (by omega) (by omega)
          rw [this, Int.toNat_natCast, show ((pos : Int) + (n : Int)).toNat = pos + n by omega]
        clear hom q6
        by_cases h3 : r = 65533
        · subst h3
          have hpf := hpf rfl
          go_wp2_with (first | (go_at_call 19; refine (hpf _).mono ?_; rintro e w' ⟨rfl, rfl⟩) | (go_at_call 42; refine (hlen _).mono ?_; rintro e w' ⟨rfl, rfl⟩) | fail)
          refine (hcall _ ?_).mono ?_
          · exact (Stay.refl w1).alloc _
          rintro e w3 ⟨rfl, hi3, hb3, hit3⟩
          have hit4 := hit3 _ _ _ ((Lib.alloc_old w1 _ w.heap.size hbz).trans hit1)
          have hb4 : Below B w w3 := (hb1.alloc (by omega) _).trans hb3
          cases g with
          | true =>
            go_wp2
            go_roundw
            case rel =>
              refine ⟨pos + n, pre ++ [x], HP.out, by rw [HT.out]; exact hi3, ?_, hit4, hb4, hpn⟩
              rw [hfin.out]
              rfl
            case measure =>
              simp only [World.iterPos, hit4, hit]
              omega
          | false =>
            go_wp2
            refine bodyPost_ret (results_none rfl _ _ _) rfl ⟨rfl, ?_, hb4⟩
            rw [hfin.out]
            exact hi3
        · clear hpf
          have h3' : ((r : Int) == 65533) = false := by simp; omega
          go_wp2_with (first | (go_at_call 42; refine (hlen _).mono ?_; rintro e w' ⟨rfl, rfl⟩) | fail)
          refine (hcall _ ?_).mono ?_
          · exact (Stay.refl w1).alloc _
          rintro e w3 ⟨rfl, hi3, hb3, hit3⟩
          have hit4 := hit3 _ _ _ ((Lib.alloc_old w1 _ w.heap.size hbz).trans hit1)
          have hb4 : Below B w w3 := (hb1.alloc (by omega) _).trans hb3
          cases g with
          | true =>
            go_wp2
            go_roundw
            case rel =>
              refine ⟨pos + n, pre ++ [x], HP.out, by rw [HT.out]; exact hi3, ?_, hit4, hb4, hpn⟩
              rw [hfin.out]
              rfl
            case measure =>
              simp only [World.iterPos, hit4, hit]
              omega
          | false =>
            go_wp2
            refine bodyPost_ret (results_none rfl _ _ _) rfl ⟨rfl, ?_, hb4⟩
            rw [hfin.out]
            exact hi3
    · have hnx : ∀ ty, (Instr.next (.pointer (some ⟨w.heap.size, 0, none⟩)) true ty).run Try.prog wr = _ := fun ty => Lib.run_next_end_at wr w.heap.size s pos ty hit hp
      have hd : s.data.toList.drop pos = [] := List.drop_eq_nil_of_le (by have h4 : s.data.toList.length = s.size := rfl; omega)
      rw [hd] at hrun
      have HR := Lib.hid hrun
      clear hrun
      go_wp2
      go_end0
      refine ⟨rfl, ?_, hbw⟩
      rw [HR.out]
      exact hi

end Go.Proofs.Ytahcbgllnoopgaa
