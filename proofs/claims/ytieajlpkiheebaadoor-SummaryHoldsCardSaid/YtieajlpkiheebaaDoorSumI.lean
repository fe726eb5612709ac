/-
  The iterator over entries (package summary): its contract. By an AI agent.
-/
import Derived.Test.YtieajlpkiheebaaDoorSumP
import Derived.Test.YtieajlpkiheebaaDoorRound
import Derived.Test.YtieajlpkiheebaaDoorMid
import Derived.Test.YtieajlpkiheebaaDoorPackW
import Derived.Test.YtieajlpkiheebaaDoorCrcW
namespace Go.Proofs.YtieajlpkiheebaaDoor
open Go.RowKit

attribute [local go_sem] Oper.semAt_some

/-- Entries in memory. -/
def ecell (y : Sm.En) : List Value := [.int .i64 y.k, .int .i64 y.i, .int .i64 y.x, .int .u32 (y.s : Int)]
def ecells (l : List Sm.En) : List Value := l.flatMap ecell
def Ents (w : World) (B : Nat) (v : Value) (l : List Sm.En) : Prop := Rds w B 4 v l.length (ecells l)
theorem ecells_cons (p : Sm.En) (l : List Sm.En) : ecells (p :: l) = .int .i64 p.k :: .int .i64 p.i :: .int .i64 p.x :: .int .u32 (p.s : Int) :: ecells l := by unfold ecells; rw [List.flatMap_cons]; rfl
theorem ecells_len (l : List Sm.En) : (ecells l).length = l.length * 4 := by
  induction l with
  | nil => rfl
  | cons x l ih => rw [ecells_cons]; simp only [List.length_cons, ih]; omega
theorem ecells_app (l m : List Sm.En) : ecells (l ++ m) = ecells l ++ ecells m := by unfold ecells; rw [List.flatMap_append]
theorem ecells_at : ∀ (l : List Sm.En) (k : Nat) (h : k < l.length), (ecells l)[k * 4]? = some (.int .i64 l[k].k) ∧ (ecells l)[k * 4 + 1]? = some (.int .i64 l[k].i) ∧ (ecells l)[k * 4 + 2]? = some (.int .i64 l[k].x) ∧ (ecells l)[k * 4 + 3]? = some (.int .u32 (l[k].s : Int))
  | x :: l, 0, _ => ⟨rfl, rfl, rfl, rfl⟩
  | x :: l, k + 1, h => by
    have := ecells_at l k (by simpa using h)
    rw [ecells_cons, show (k + 1) * 4 = k * 4 + 1 + 1 + 1 + 1 by omega]
    exact this
/-- The cells of a slice of entries, one by one. -/
def EntsAt (w : World) (B : Nat) (A : Option Addr) (l : List Sm.En) : Prop := ∀ (j : Nat) (hj : j < l.length), ∃ b off, A = some ⟨b, off, none⟩ ∧ b < B ∧
  w.cell? ⟨b, off + j * 4, none⟩ = some (.int .i64 l[j].k) ∧ w.cell? ⟨b, off + j * 4 + 1, none⟩ = some (.int .i64 l[j].i) ∧ w.cell? ⟨b, off + j * 4 + 2, none⟩ = some (.int .i64 l[j].x) ∧ w.cell? ⟨b, off + j * 4 + 3, none⟩ = some (.int .u32 (l[j].s : Int))
theorem Ents.open_ {w : World} {B : Nat} {v : Value} {l : List Sm.En} (h : Ents w B v l) : ∃ (A : Option Addr) (c : Nat), v = .slice A l.length c ∧ l.length ≤ c ∧ c ≤ 9223372036854775807 ∧ EntsAt w B A l := by
  obtain ⟨A, c, h1, h2, h3, h4, h5⟩ := h
  refine ⟨A, c, h1, h2, h3, fun j hj => ?_⟩
  obtain ⟨b, off, e, hb, hc⟩ := h5 (by omega)
  have := ecells_at l j hj
  exact ⟨b, off, e, hb, hc _ _ this.1, by have := hc _ _ this.2.1; rw [Nat.add_assoc]; exact this, by have := hc _ _ this.2.2.1; rw [Nat.add_assoc]; exact this, by have := hc _ _ this.2.2.2; rw [Nat.add_assoc]; exact this⟩
theorem EntsAt.below {w w' : World} {B : Nat} {A : Option Addr} {l : List Sm.En} (h : EntsAt w B A l) (hb : Below B w w') : EntsAt w' B A l := fun j hj => by
  obtain ⟨b, off, e, hB, h0, h1, h2, h3⟩ := h j hj
  exact ⟨b, off, e, hB, (hb.cell (p := ⟨b, off + j * 4, none⟩) hB).trans h0, (hb.cell (p := ⟨b, off + j * 4 + 1, none⟩) hB).trans h1, (hb.cell (p := ⟨b, off + j * 4 + 2, none⟩) hB).trans h2, (hb.cell (p := ⟨b, off + j * 4 + 3, none⟩) hB).trans h3⟩

/-- What has come when k rounds are over. -/
def idx (es : List Sm.En) (k : Nat) : List (Nat × Sm.En) := (List.range k).map fun j => (j, es.getD j ⟨0, 0, 0, 0⟩)
theorem idx_len (es : List Sm.En) (k : Nat) : (idx es k).length = k := by simp [idx]
theorem idx_succ (es : List Sm.En) (k : Nat) : idx es (k + 1) = idx es k ++ [(k, es.getD k ⟨0, 0, 0, 0⟩)] := by simp [idx, List.range_succ]
theorem idx_snd (es : List Sm.En) (k : Nat) (hk : k ≤ es.length) : (idx es k).map (·.2) = es.take k := by
  apply List.ext_getElem
  · simp [idx, hk]
  · intro i h1 h2
    have : i < es.length := by simp [idx] at h1; omega
    simp [idx, this]
/-- An entry of es, and where it stands: so a round knows that it is one. -/
abbrev EntOf (es : List Sm.En) := { x : Nat × Sm.En // es[x.1]? = some x.2 }
/-- What a round is handed. -/
def encE (x : Nat × Sm.En) : Array Value := #[.int .i64 (x.1 : Int), .agg #[.int .i64 x.2.k, .int .i64 x.2.i, .int .i64 x.2.x, .int .u32 (x.2.s : Int)]]

set_option maxRecDepth 100000 in
set_option maxHeartbeats 2000000 in
theorem entries1_in (n : Nat) (hn : 1 ≤ n) (l Bs n₀ c : Nat) (A : Option Addr) (es : List Sm.En) (hlc : es.length ≤ 9223372036854775807) (J Jx : List (EntOf es) → World → Prop)
    (hY : ∀ pre (x : EntOf es) W, J pre W → pre.length < es.length → YieldAt Fence.wide (n - 1) Tryd.prog l (encE x.1) W fun e W' =>
      (e = .returned (.bool true) ∧ J (pre ++ [x]) W' ∧ Below n₀ W W') ∨ (e = .returned (.bool false) ∧ Jx (pre ++ [x]) W'))
    (W : World) (hn₀ : n₀ ≤ W.heap.size) (hJ : AbidesFrom W.heap.size J) (hBs : W.cell? ⟨Bs, 0, none⟩ = some (.slice A es.length c)) (hE : EntsAt W n₀ A es) (h0 : J [] W) :
    CallsIn Fence.wide n Tryd.prog 35 #[.func (.yield l) #[] #[], .pointer (some ⟨Bs, 0, none⟩)] W fun e W' => (∃ v, e = .returned v) ∧
      ((∃ ys : List (EntOf es), ys.map (·.1) = idx es es.length ∧ J ys W') ∨ (∃ pre : List (EntOf es), (∃ k, k ≤ es.length ∧ pre.map (·.1) = idx es k) ∧ Jx pre W')) := by
  refine callsIn_of_wp Tryd.func35 rfl trivial ?_ rfl
  simp only [Tryd.ntmps35, List.size_toArray, List.length_cons, List.length_nil, Nat.reduceAdd, Nat.reduceSub, Array.replicate_succ, Array.replicate_zero, List.push_toArray, List.append_toArray, List.nil_append, List.cons_append]
  gi_wp2
  gi_loopw [7] (fun i wr => ∃ (k : Nat) (ys : List (EntOf es)), k ≤ es.length ∧ i = .int .i64 k ∧ ys.map (·.1) = idx es k ∧ J ys wr ∧ Below n₀ W wr)
    (fun i _ => es.length - (intOf i).toNat)
  case atStart => exact ⟨0, [], Nat.zero_le _, rfl, rfl, h0, Below.refl _ _⟩
  case round =>
    obtain ⟨k, ys, hk, rfl, hys, hJs, hnx⟩ := hrel
    by_cases hlt : k < es.length
    · obtain ⟨b, off, rfl, hb, h0, h1, h2, h3⟩ := (hE.below hnx) k hlt
      gi_upto_region 3 with fail
      have hb1 : Below wr.heap.size wr (wr.alloc (.cells #[.int .i64 es[k].k, .int .i64 es[k].i, .int .i64 es[k].x, .int .u32 (es[k].s : Int)] 62)) := (Below.refl _ wr).alloc (Nat.le_refl _) _
      have hbk := Blk.new wr 62 #[.int .i64 es[k].k, .int .i64 es[k].i, .int .i64 es[k].x, .int .u32 (es[k].s : Int)]
      obtain ⟨W1, hW1⟩ : ∃ W1, wr.alloc (.cells #[.int .i64 es[k].k, .int .i64 es[k].i, .int .i64 es[k].x, .int .u32 (es[k].s : Int)] 62) = W1 := ⟨_, rfl⟩
      rw [hW1] at hb1 hbk ⊢
      clear hW1
      have hJ1 : J ys W1 := hJ _ _ _ none hJs (grown_of_below hb1 none) (fun r e => by cases e)
      obtain ⟨fn, tmps, assign, body, hy, hR⟩ := hY _ ⟨(k, es[k]), List.getElem?_eq_getElem hlt⟩ W1 hJ1 (by have := congrArg List.length hys; rw [List.length_map, idx_len] at this; omega)
      unfold encE at hy
      dsimp only at hy
      have hn1 : n₀ ≤ wr.heap.size := Nat.le_trans hn₀ hnx.size
      have e0 : W1.cell? ⟨wr.heap.size, 0, none⟩ = some (.int .i64 es[k].k) := hbk.cell 0
      have e1 : W1.cell? ⟨wr.heap.size, 1, none⟩ = some (.int .i64 es[k].i) := hbk.cell 1
      have e2 : W1.cell? ⟨wr.heap.size, 2, none⟩ = some (.int .i64 es[k].x) := hbk.cell 2
      have e3 : W1.cell? ⟨wr.heap.size, 3, none⟩ = some (.int .u32 (es[k].s : Int)) := hbk.cell 3
      have hk2 : (ys ++ [(⟨(k, es[k]), List.getElem?_eq_getElem hlt⟩ : EntOf es)]).map (fun y : EntOf es => y.1) = idx es (k + 1) := by rw [List.map_append, hys, idx_succ, List.getD_eq_getElem?_getD, List.getElem?_eq_getElem hlt]; rfl
      gi_wp2
      refine hR.mono ?_
      rintro e W3 (⟨rfl, hJ3, hk3⟩ | ⟨rfl, hJx3⟩)
      · gi_wp2
        go_roundw
        case rel => exact ⟨k + 1, _, by omega, by go_num, hk2, hJ3, (hnx.trans (hb1.mono hn1)).trans hk3⟩
        case measure => simp [intOf]; omega
      · gi_wp2
        refine bodyPost_ret (results_none rfl _ _ _) rfl ?_
        exact ⟨⟨_, rfl⟩, .inr ⟨_, ⟨k + 1, by omega, hk2⟩, hJx3⟩⟩
    · obtain rfl : k = es.length := by omega
      gi_wp2
      go_end0
      exact ⟨⟨_, rfl⟩, .inl ⟨_, hys, hJs⟩⟩
set_option maxHeartbeats 1000000 in
/-- entries(l): the slice is boxed; the function value holds the box. -/
theorem entries_any (A : Option Addr) (m c : Nat) (w : World) :
    Calls Tryd.prog 23 #[.slice A m c] w fun e w' => e = .returned (.func (.func 35) #[] #[.pointer (some ⟨w.heap.size, 0, none⟩)]) ∧ w' = w.alloc (.cells #[.slice A m c] 22) := by
  go_enter Tryd.func23, Tryd.ntmps23
  go_wp2
  go_ret
  exact ⟨rfl, rfl⟩

/-- What entries hands back comes with all of es, in order; or with the first k of them. -/
theorem entries_stops (n : Nat) (hn : 1 ≤ n) (Bs n₀ : Nat) (v : Value) (es : List Sm.En) (w : World) (hBs : Bs < w.heap.size) (hn₀ : n₀ ≤ w.heap.size) (hc : w.cell? ⟨Bs, 0, none⟩ = some v) (hI : Ents w n₀ v es) :
    SeqStopsK Fence.wide n Tryd.prog 35 #[.pointer (some ⟨Bs, 0, none⟩)] (fun x : EntOf es => encE x.1) (Below n₀) (fun ys => ys.map (·.1) = idx es es.length) (fun pre => ∃ k, k ≤ es.length ∧ pre.map (·.1) = idx es k) es.length w := fun l J Jx W hW hJ _ hY h0 => by
  have hc' := (hW.cell (p := ⟨Bs, 0, none⟩) hBs).trans hc
  obtain ⟨A, c, rfl, h1, h2, hE⟩ := hI.open_
  exact entries1_in n hn l Bs n₀ c A es (by omega) J Jx hY W (Nat.le_trans hn₀ hW.size) hJ hc' (hE.below (hW.mono hn₀)) h0
end Go.Proofs.YtieajlpkiheebaaDoor
