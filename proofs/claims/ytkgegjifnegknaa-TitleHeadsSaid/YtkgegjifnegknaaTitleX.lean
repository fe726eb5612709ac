/-
  The walks of title.cut and title.Fit, for every text. By an AI agent.
-/
import Derived.Test.YtkgegjifnegknaaTitleW
import Derived.Test.YtkgegjifnegknaaTitleB
namespace Go.Proofs.Ytkgegjifnegknaa
open Go.RowKit
open Tl (It)

def cutStep (st : List UInt8 × Nat) (x : It) : List UInt8 × Nat := if Tl.sgn x then (if st.2 = 16 ∨ 24 < st.1.length + x.s.length then st else (st.1 ++ x.s, st.2 + 1)) else st
def cutGo (st : List UInt8 × Nat) (x : It) : Bool := !Tl.sgn x || !decide (st.2 = 16 ∨ 24 < st.1.length + x.s.length)
theorem run_cut (xs : List It) : ∀ (out : List UInt8) (n : Nat), (Tl.run cutStep cutGo (out, n) xs).1 = Tl.cutF xs out n := by
  induction xs with
  | nil => intro out n; rfl
  | cons x xs ih =>
    intro out n
    unfold Tl.run Tl.cutF
    cases hs : Tl.sgn x with
    | false =>
      rw [show cutGo (out, n) x = true by unfold cutGo; rw [hs]; rfl, if_pos rfl, show cutStep (out, n) x = (out, n) by unfold cutStep; rw [hs]; rfl, ih]
      simp
    | true =>
      by_cases h : n = 16 ∨ 24 < out.length + x.s.length
      · rw [show cutGo (out, n) x = false by unfold cutGo; rw [hs]; simp only [h, decide_true]; rfl, show cutStep (out, n) x = (out, n) by unfold cutStep; rw [hs, if_pos rfl, if_pos h]]
        simp [h]
      · rw [show cutGo (out, n) x = true by unfold cutGo; rw [hs]; simp only [h, decide_false]; rfl, if_pos rfl, show cutStep (out, n) x = (out ++ x.s, n + 1) by unfold cutStep; rw [hs, if_pos rfl, if_neg h], ih]
        simp [h]

/-- A builder stands where every block but one of another kind does. -/
theorem builder_keep {T e t : TypeId} {B b : Nat} {bs : List Value} {w w' : World} {gr : Nat} {cs : List Value} (h : Lib.IsBuilderF T e B b bs w) (hgr : Blk w gr t cs) (h1 : t ≠ T) (h2 : t ≠ e)
    (hk : ∀ (k : Nat) (o : Obj), w.heap[k]? = some o → k ≠ gr → (∀ s p, o ≠ Obj.stringIter s p) → w'.heap[k]? = some o) : Lib.IsBuilderF T e B b bs w' := by
  have key : ∀ p, Lib.BuilderAtF T e B b p bs w → Lib.BuilderAtF T e B b p bs w' := by
    rintro p ⟨hB, v, hb, hown, hne⟩
    refine ⟨hB, v, hk b _ hb (fun e' => ?_) (fun s p e' => by cases e'), ?_, hne⟩
    · subst e'
      unfold Blk at hgr
      rw [hgr] at hb
      injection hb with hb
      injection hb with _ hb
      exact h1 hb
    · refine ⟨hown.1, ?_⟩
      rcases hown.2 with h' | ⟨g, cap, cur, fz, hv, hg1, hg2, hrest⟩
      · exact .inl h'
      · refine .inr ⟨g, cap, cur, fz, hv, hg1, hk g _ hg2 (fun e' => ?_) (fun s p e' => by cases e'), hrest⟩
        subst e'
        unfold Blk at hgr
        rw [hgr] at hg2
        injection hg2 with hg2
        injection hg2 with _ hg2
        exact h2 hg2
  rcases h with h | h
  · exact .inl (key _ h)
  · exact .inr (key _ h)
theorem builder_stay {T e : TypeId} {B b : Nat} {bs : List Value} {w w' : World} (h : Lib.IsBuilderF T e B b bs w) (hs : Stay w w') : Lib.IsBuilderF T e B b bs w' := by
  have key : ∀ p, Lib.BuilderAtF T e B b p bs w → Lib.BuilderAtF T e B b p bs w' := by
    rintro p ⟨hB, v, hb, hown, hne⟩
    refine ⟨hB, v, hs b _ hb (fun s p e' => by cases e'), ⟨hown.1, ?_⟩, hne⟩
    rcases hown.2 with h' | ⟨g, cap, cur, fz, hv, hg1, hg2, hrest⟩
    · exact .inl h'
    · exact .inr ⟨g, cap, cur, fz, hv, hg1, hs g _ hg2 (fun s p e' => by cases e'), hrest⟩
  rcases h with h | h
  · exact .inl (key _ h)
  · exact .inr (key _ h)
theorem builder_lt {T e : TypeId} {B b : Nat} {bs : List Value} {w : World} (h : Lib.IsBuilderF T e B b bs w) : B ≤ b ∧ ∃ p v, w.heap[b]? = some (.cells #[p, v] T (0, 0)) := by
  rcases h with ⟨hB, v, hb, _⟩ | ⟨hB, v, hb, _⟩
  · exact ⟨hB, _, _, hb⟩
  · exact ⟨hB, _, _, hb⟩
theorem iters_kept {e : TypeId} {b : Nat} {w w' : World} {p v : Value} {T : TypeId} {fr : Nat × Nat} (h : Lib.OthersKept e (some b) w w') (hb : w.heap[b]? = some (.cells #[p, v] T fr)) : Iters w w' := by
  intro k s q hk
  refine h k _ hk (fun e' => ?_) (fun c fz e' => by cases e')
  injection e' with e'
  subst e'
  rw [hb] at hk
  cases hk
theorem Tl.mem_len (l : List UInt8) (x : It) (h : x ∈ Tl.runes l) : x.s.length ≤ 4 := by
  have key : ∀ (n : Nat) (l : List UInt8), l.length ≤ n → x ∈ Tl.runes l → x.s.length ≤ 4 := by
    intro n
    induction n with
    | zero => intro l h hx; have : l = [] := List.eq_nil_of_length_eq_zero (by omega); subst this; simp [Tl.runes_nil] at hx
    | succ n ih =>
      intro l h hx
      by_cases h0 : l = []
      · subst h0; simp [Tl.runes_nil] at hx
      · have := Tl.it_len l h0
        rw [Tl.runes_cons l h0] at hx
        rcases List.mem_cons.1 hx with rfl | hx
        · exact this.2.2.1
        · exact ih _ (by rw [List.length_drop]; omega) hx
  exact key _ l (Nat.le_refl _) h
theorem byteCells_app (l m : List UInt8) : Lib.byteCells l ++ Lib.byteCells m = Lib.byteCells (l ++ m) := by
  unfold Lib.byteCells
  rw [List.map_append]

set_option maxHeartbeats 2000000 in
theorem cut1_any (x : It) (gr gb B : Nat) (out : List UInt8) (n : Nat) (w : World) (hr : Blk w gr 3 [.int .i64 (n : Int)]) (hbd : Lib.IsBuilderF 49 5 B gb (Lib.byteCells out) w) (hn : n ≤ 16) (ho : out.length ≤ 24) (hx : x.s.length ≤ 4) (hB : B ≤ gr) :
    Calls Try.prog 37 #[.agg #[.int .i32 (itR x), .string ⟨x.s.toArray⟩, .bool x.odd], .pointer (some ⟨gr, 0, none⟩), .pointer (some ⟨gb, 0, none⟩)] w fun en w' => en = .returned (.bool (cutGo (out, n) x)) ∧
      (Blk w' gr 3 [.int .i64 ((cutStep (out, n) x).2 : Int)] ∧ Lib.IsBuilderF 49 5 B gb (Lib.byteCells (cutStep (out, n) x).1) w') ∧ Below B w w' ∧ Iters w w' := by
  obtain ⟨hBb, pb, vb, hbk⟩ := builder_lt hbd
  have lr := hr.lt
  have hBw : B ≤ w.heap.size := by omega
  have c1 := hr.cell 0
  have f1 := hr.frozen 0
  simp only [List.getElem?_cons_zero] at c1
  unfold cutStep cutGo
  rw [sgn_alw]
  obtain ⟨v, xs, od⟩ := x
  have hsz := ba_size xs
  generalize itR ⟨v, xs, od⟩ = ir
  simp only at hx ⊢
  generalize hs : (⟨xs.toArray⟩ : ByteArray) = s at *
  have HS := Lib.hid hs
  have HZ := Lib.hid hsz
  have hs4 : s.size ≤ 4 := by omega
  cases od with
  | true =>
    clear hs hsz
    go_enter Try.func37, Try.ntmps37
    go_wp2
    go_ret
    exact ⟨rfl, ⟨hr.alloc _, hbd.alloc _⟩, (Below.refl B w).alloc hBw _, (Iters.refl w).alloc _⟩
  | false =>
    simp only [Bool.not_false, Bool.true_and]
    cases hal : alw ir with
    | false =>
      have HA := Lib.hid hal
      clear hs hsz hal
      go_enter Try.func37, Try.ntmps37
      go_wp2_with (go_at_call 28; refine (allowed_any _ _).mono ?_; rintro e w' ⟨rfl, rfl⟩; rw [HA.out])
      go_ret
      exact ⟨rfl, ⟨hr.alloc _, hbd.alloc _⟩, (Below.refl B w).alloc hBw _, (Iters.refl w).alloc _⟩
    | true =>
      have HA := Lib.hid hal
      have hcr : ∀ o, Blk (w.alloc o) gr 3 [.int .i64 (n : Int)] := fun o => hr.alloc o
      have hbr : ∀ o, Lib.IsBuilderF 49 5 B gb (Lib.byteCells out) (w.alloc o) := fun o => hbd.alloc o
      have hlen : (Lib.byteCells out).length = out.length := Lib.byteCells_length out
      by_cases h16 : n = 16
      · subst h16
        clear hs hsz hal
        simp only [true_or, decide_true, Bool.not_true, Bool.or_false, if_true]
        go_enter Try.func37, Try.ntmps37
        go_wp2_with (go_at_call 28; refine (allowed_any _ _).mono ?_; rintro e w' ⟨rfl, rfl⟩; rw [HA.out])
        go_quiet (fail)
        go_wp2
        go_ret
        exact ⟨rfl, ⟨(hr.alloc _).drewN _, builder_stay (hbd.alloc _) (fun k o h _ => h)⟩, below_drewN ((Below.refl B w).alloc hBw _) _, fun k s p h => ((Iters.refl w).alloc _) k s p h⟩
      · have h16' : ((n : Int) == 16) = false := by simp; omega
        by_cases h24 : 24 < out.length + xs.length
        · have hc : n = 16 ∨ 24 < out.length + xs.length := .inr h24
          have h24' : (24 : Int) < (out.length : Int) + (s.size : Int) := by omega
          simp only [hc, decide_true, Bool.not_true, Bool.or_false, if_true]
          clear hs hsz hal hc h24 h16
          have hLen : ∀ (o : Obj) (k : Nat), Calls Try.prog 38 #[.pointer (some ⟨gb, 0, none⟩)] ((w.alloc o).drewN k) fun e w' => e = .returned (.int .i64 (out.length : Int)) ∧ w' = (w.alloc o).drewN k := by
            intro o k
            have := Try.Builder_Len_f B gb _ ((w.alloc o).drewN k) (builder_stay (hbr o) (fun _ _ h _ => h))
            rw [hlen] at this
            exact this
          clear hcr hbr hlen
          go_enter Try.func37, Try.ntmps37
          go_wp2_with (go_at_call 28; refine (allowed_any _ _).mono ?_; rintro e w' ⟨rfl, rfl⟩; rw [HA.out])
          go_quiet ((go_at_call 38; exact Calls.quiet_of_same (hLen _ _)))
          go_wp2
          go_ret
          exact ⟨rfl, ⟨(hr.alloc _).drewN _, builder_stay (hbd.alloc _) (fun k o h _ => h)⟩, below_drewN ((Below.refl B w).alloc hBw _) _, fun k s p h => ((Iters.refl w).alloc _) k s p h⟩
        · have hc : ¬ (n = 16 ∨ 24 < out.length + xs.length) := by omega
          have h24' : ¬ (24 : Int) < (out.length : Int) + (s.size : Int) := by omega
          simp only [hc, decide_false, Bool.not_false, Bool.or_true, if_true, if_false]
          clear hs hsz hal hc h16
          have hLen : ∀ (o : Obj) (k : Nat), Calls Try.prog 38 #[.pointer (some ⟨gb, 0, none⟩)] ((w.alloc o).drewN k) fun e w' => e = .returned (.int .i64 (out.length : Int)) ∧ w' = (w.alloc o).drewN k := by
            intro o k
            have := Try.Builder_Len_f B gb _ ((w.alloc o).drewN k) (builder_stay (hbr o) (fun _ _ h _ => h))
            rw [hlen] at this
            exact this
          have HL := Lib.hid hlen
          clear hcr hbr hlen
          go_enter Try.func37, Try.ntmps37
          go_wp2_with (go_at_call 28; refine (allowed_any _ _).mono ?_; rintro e w' ⟨rfl, rfl⟩; rw [HA.out])
          go_quiet ((go_at_call 38; exact Calls.quiet_of_same (hLen _ _)))
          clear hLen
          go_wp2_with fail
          have hr1 := ((hr.alloc (.cells #[.int .i32 ir, .string s, .bool false] 35)).drewN nq)
          have hr2 := hr1.set_ 0 (.int .i64 ((n : Int) + 1))
          have hd1 : Lib.IsBuilderF 49 5 B gb (Lib.byteCells out) ((w.alloc (.cells #[.int .i32 ir, .string s, .bool false] 35)).drewN nq) := builder_stay (hbd.alloc _) (fun _ _ h _ => h)
          have hd2 := builder_keep (w' := ((w.alloc (.cells #[.int .i32 ir, .string s, .bool false] 35)).drewN nq).setCell ⟨gr, 0, none⟩ (.int .i64 ((n : Int) + 1))) hd1 hr1 (by decide) (by decide) (fun k o hk hne _ => (Below.heap_setCell _ _ _ _ hne).trans hk)
          have hB1 := below_drewN ((Below.refl B w).alloc hBw (.cells #[.int .i32 ir, .string s, .bool false] 35)) nq
          have hB2 := hB1.setCell (p := ⟨gr, 0, none⟩) hB (.int .i64 ((n : Int) + 1))
          have hI1 : Iters w ((w.alloc (.cells #[.int .i32 ir, .string s, .bool false] 35)).drewN nq) := fun k s p h => ((Iters.refl w).alloc _) k s p h
          have hI2 := hI1.set_ (i := 0) hr1 (.int .i64 ((n : Int) + 1))
          generalize ((w.alloc (.cells #[.int .i32 ir, .string s, .bool false] 35)).drewN nq).setCell ⟨gr, 0, none⟩ (.int .i64 ((n : Int) + 1)) = W at *
          clear hr1 hd1 hB1 hI1
          refine (writeString_k B gb (Lib.byteCells out) s W hd2 (by rw [HL.out]; omega) (Nat.le_trans hB (Nat.le_of_lt hr2.lt))).mono ?_
          rintro e w3 ⟨rfl, hA3, hB3, hK3⟩
          obtain ⟨_, p3, v3, hbk3⟩ := builder_lt hd2
          have hI3 := hI2.trans (iters_kept hK3 hbk3)
          have hr3 : Blk w3 gr 3 [.int .i64 ((n : Int) + 1)] := hK3 gr _ hr2 (fun e' => by
            injection e' with e'
            subst e'
            unfold Blk at hr2
            rw [hr2] at hbk3
            injection hbk3 with hbk3
            injection hbk3 with hbk3 _
            simp at hbk3) (fun c fz e' => by injection e' with _ e'; exact absurd e' (by decide))
          have hA4 : Lib.IsBuilderF 49 5 B gb (Lib.byteCells (out ++ xs)) w3 := by
            right
            rw [← byteCells_app]
            rw [← HS.out] at hA3
            exact hA3
          clear hA3 hK3 hd2 hI2 hr2
          go_wp2
          go_ret
          exact ⟨rfl, ⟨hr3, hA4⟩, hB2.trans hB3, hI3⟩

theorem builder_new (w : World) (B : Nat) (hB : B ≤ w.heap.size) : Lib.IsBuilderF 49 5 B w.heap.size (Lib.byteCells []) (w.alloc (.cells #[.pointer none, .slice none 0 0] 49)) := by
  left
  exact ⟨hB, _, heap_alloc_new w _, ⟨rfl, .inl ⟨rfl, rfl⟩⟩, by simp [Value.ownBlock]⟩

set_option maxHeartbeats 1000000 in
theorem cut_any (l : List UInt8) (w : World) (hl : l.length < 1099511627776) :
    Calls Try.prog 30 #[.string ⟨l.toArray⟩] w fun e w' => e = .returned (.string ⟨(Tl.cut l).toArray⟩) ∧ Below w.heap.size w w' := by
  go_enter Try.func30, Try.ntmps30
  go_wp2_with fail
  have hd := (builder_new w w.heap.size (Nat.le_refl _)).alloc (.cells #[.int .i64 0] 3)
  have hk := Blk.new (w.alloc (.cells #[.pointer none, .slice none 0 0] 49)) 3 #[.int .i64 0]
  have hb := ((Below.refl w.heap.size w).alloc (Nat.le_refl _) (.cells #[.pointer none, .slice none 0 0] 49)).alloc (by simp) (.cells #[.int .i64 0] 3)
  simp only [World.size_alloc] at hk
  generalize (w.alloc (.cells #[.pointer none, .slice none 0 0] 49)).alloc (.cells #[.int .i64 0] 3) = W at *
  refine (visit_any ⟨l.toArray⟩ (by rw [ba_size]; omega) 37 _ _ (fun (st : List UInt8 × Nat) w' => (Blk w' (w.heap.size + 1) 3 [.int .i64 (st.2 : Int)] ∧ Lib.IsBuilderF 49 5 w.heap.size w.heap.size (Lib.byteCells st.1) w') ∧ st.2 ≤ 16 ∧ st.1.length ≤ 24)
    cutStep cutGo ([], 0) w.heap.size W hb.size (enters_of Try.func37 (by kernel_rfl) rfl) (fun st w1 w2 h hs => ⟨⟨h.1.1.stay hs, builder_stay h.1.2 hs⟩, h.2⟩) ?_ ⟨⟨hk, hd⟩, by simp⟩).mono ?_
  · intro pre x post w1 hpre hI
    have hx : x.s.length ≤ 4 := Tl.mem_len l x (by rw [show Tl.runes l = pre ++ x :: post from hpre]; simp)
    generalize pre.foldl cutStep ([], 0) = st at *
    obtain ⟨a, b⟩ := st
    simp only at hI
    refine (cut1_any x (w.heap.size + 1) w.heap.size w.heap.size a b w1 hI.1.1 hI.1.2 hI.2.1 hI.2.2 hx (Nat.le_succ _)).mono ?_
    rintro e w2 ⟨rfl, hI2, hB, hit⟩
    refine ⟨rfl, ⟨hI2, ?_⟩, hB, hit⟩
    unfold cutStep
    split
    · split
      · exact hI.2
      · rename_i h
        simp only at h
        simp only [List.length_append]
        omega
    · exact hI.2
  · rintro e w2 ⟨rfl, hI, hB⟩
    have hr := run_cut (Tl.runes l) [] 0
    rw [show (⟨l.toArray⟩ : ByteArray).data.toList = l from rfl] at hI
    have HB := hb.trans hB
    have h2 := hI.1.2
    rw [hr] at h2
    clear hI hr
    go_wp2_with fail
    refine (Try.Builder_String_any_k w.heap.size w.heap.size _ _ h2 HB.size).mono ?_
    rintro e w3 ⟨rfl, _, hB3, _⟩
    go_wp2
    go_ret
    exact ⟨rfl, HB.trans hB3⟩

theorem cut_len (l : List UInt8) : (Tl.cut l).length ≤ 24 := (Tl.cut_spec l).2.2

set_option maxHeartbeats 1000000 in
theorem fit_any (l : List UInt8) (w : World) (hl : l.length < 1099511627776) :
    Calls Try.prog 18 #[.string ⟨l.toArray⟩] w fun e w' => e = .returned (.string ⟨(Tl.fit l).toArray⟩) ∧ Below w.heap.size w w' := by
  have hc := cut_len l
  go_enter Try.func18, Try.ntmps18
  go_wp2_with fail
  refine (cut_any l w hl).mono ?_
  rintro e w1 ⟨rfl, hb1⟩
  have H := Lib.hid (show Tl.fit l = if Tl.isN (Tl.cut l) then Tl.cut l else Tl.cut (120 :: Tl.cut l) from rfl)
  generalize Tl.cut l = t at *
  go_wp2_with fail
  refine (is_any t w1 (by omega)).mono ?_
  rintro e w2 ⟨rfl, hb2⟩
  have HB := hb1.trans (hb2.mono hb1.size)
  cases hn : Tl.isN t with
  | true =>
    have HN := Lib.hid hn
    clear hn
    go_wp2
    go_ret
    exact ⟨by rw [H.out, HN.out]; rfl, HB⟩
  | false =>
    have HN := Lib.hid hn
    clear hn
    go_wp2_with fail
    have e1 : (⟨#[120]⟩ : ByteArray) ++ ⟨t.toArray⟩ = ⟨(120 :: t).toArray⟩ := ba_append [120] t
    rw [e1]
    refine (cut_any (120 :: t) w2 (by simp only [List.length_cons]; omega)).mono ?_
    rintro e w3 ⟨rfl, hb3⟩
    go_wp2
    go_ret
    exact ⟨by rw [H.out, HN.out]; rfl, HB.trans (hb3.mono HB.size)⟩
end Go.Proofs.Ytkgegjifnegknaa
