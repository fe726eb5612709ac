/-
  The walks of the helpers of the statements of layer 7: few and awake. By an AI agent.
-/
import Derived.Test.YtmabdbleakolbaaDoorInodeE
import Derived.Test.YtmabdbleakolbaaDoorInodeZ
import Derived.Test.YtmabdbleakolbaaDoorCodeR
import Derived.Test.YtmabdbleakolbaaDoorCrcR
import Derived.Test.YtmabdbleakolbaaDoorDoor
import Derived.Test.YtmabdbleakolbaaDoorLeaf
namespace Go.Proofs.YtmabdbleakolbaaDoor
open Go.RowKit Go.ChangeShapes Go.WideShapes Go.ChangeAt

set_option maxHeartbeats 400000 in
theorem few_any (w : World) (v : Value) (B : Nat) (l : List UInt8) (h : Bs w B v l) :
    Calls Tryd.prog 14 #[v] w fun e w' => ∃ u, e = .returned u ∧ Bs w B u (l.take 200) ∧ w = w' := by
  obtain ⟨A, c, rfl, hc, hm, _⟩ := h.openD
  by_cases hl : 200 < l.length
  · have hl' : (200 : Int) < l.length := by omega
    have hl2 : (200 : Int) ≤ c := by omega
    have hl3 : (200 : Nat) ≤ c := by omega
    have hh := h.head (k := 200) (by omega)
    clear h
    go_enter Tryd.func14, Tryd.ntmps14
    go_wp2
    go_ret
    exact ⟨_, rfl, hh, rfl⟩
  · have hl' : ¬ (200 : Int) < l.length := by omega
    go_enter Tryd.func14, Tryd.ntmps14
    go_wp2
    go_ret
    exact ⟨_, rfl, by rw [List.take_of_length_le (by omega)]; exact h, rfl⟩


/-- A store into a block that was just made. -/
theorem wpList_store_new {P : Program} {ops : Array Oper} {rest : List Oper} {op : Oper} {a : Act} {w : World} {Q : Exit → Act → World → Prop} (hgd : op.guard = none) (ty : TypeId) (x y : Operand) (ho : op.op = .store ty x y)
    {arr : Array Value} (cs : List Value) (hx : a.eval x = .pointer (some ⟨w.heap.size, 0, none⟩)) (hy : a.eval y = .agg cs.toArray) (hn : cs.length ≤ arr.size) {T : TypeId} (_ : T = ty)
    (hi : (P.info? ty).map (·.size) = some cs.length) (h1 : ∀ v ∈ cs, v.oneCell' = true)
    (h : wpList P ops Q rest (a.put op.dst undef) ((w.alloc (.cells arr T)).setCells w.heap.size 0 cs)) : wpList P ops Q (op :: rest) a (w.alloc (.cells arr T)) := by
  refine wpList_store_mid hgd ty x y ho w.heap.size 0 cs.toArray hx hy ((Blk.new w T arr).there 0 _ (by simpa using hn)) (by simpa using hi) (all_oneCell_toArray h1) ?_
  exact h
def X1 : Nd.In := ⟨2, 2, 0, 0, 0, List.replicate 9 (0, 0)⟩
theorem good_X1 : Nd.Good X1 := Nd.good_zero
theorem encode_one (w : World) (hH : Halves w) : Calls Tryd.prog 8 #[.int .i64 1, .agg #[.int .i64 2, .int .i64 2, .int .i64 0, .int .i64 0, .int .i64 0, .int .i64 0, .int .u32 0, .int .i64 0, .int .u32 0, .int .i64 0, .int .u32 0, .int .i64 0, .int .u32 0, .int .i64 0, .int .u32 0, .int .i64 0, .int .u32 0, .int .i64 0, .int .u32 0, .int .i64 0, .int .u32 0, .int .i64 0, .int .u32 0]] w (Made (Nd.inE 1 X1) w) :=
  encode_yes 1 X1 w good_X1 (by decide) (by decide) hH
theorem iagg_zero : iagg Nd.In.zero = .agg #[.int .i64 0, .int .i64 0, .int .i64 0, .int .i64 0, .int .i64 0, .int .i64 0, .int .u32 0, .int .i64 0, .int .u32 0, .int .i64 0, .int .u32 0, .int .i64 0, .int .u32 0, .int .i64 0, .int .u32 0, .int .i64 0, .int .u32 0, .int .i64 0, .int .u32 0, .int .i64 0, .int .u32 0, .int .i64 0, .int .u32 0] := rfl
theorem inE_len128 (i : Nat) (x : Nd.In) (hg : Nd.Good x) : (Nd.inE i x).length = 128 := Crc.length_sealed _ (by rw [Nd.inE_len i x hg]; omega)
theorem ndE_len128 (ps : List (Int × Nat)) (h : ps.length = 15) : (Nd.ndE ps).length = 128 := Crc.length_sealed _ (by rw [Nd.ndE_len ps h]; omega)

set_option maxRecDepth 100000 in
set_option maxHeartbeats 2000000 in
theorem awake_any (w : World) (hH : Halves w) :
    Calls Tryd.prog 11 #[] w fun e w' => e = .returned (.bool true) ∧ Below w.heap.size w w' := by
  go_enter Tryd.func11, Tryd.ntmps11
  go_wp2_with fail
  refine (encode_one _ hH).mono ?_
  rintro e w1 ⟨u, rfl, hs, b1⟩
  obtain ⟨A, c, rfl, hc, hm, _⟩ := hs.openD
  have hsl := inE_len128 1 X1 good_X1
  have HS := Lib.hid hs
  rw [hsl] at hc
  have ht : (Nd.inE 1 X1).take 7 = [105, 110, 111, 100, 1, 2, 2] := by decide +kernel
  have hhd : Bs w1 w1.heap.size (.slice A 7 c) [105, 110, 111, 100, 1, 2, 2] := by rw [← ht]; exact hs.head (by rw [hsl]; omega)
  have HHD := Lib.hid hhd
  have hdE : Nd.dErr 2 (Nd.inE 1 X1) = 3 := by decide +kernel
  clear hs ht hhd
  go_wp2_with fail
  refine (decode_any 2 w1 _ (Nd.inE 1 X1) (hH.ext b1) HS.out).mono ?_
  rintro e w2 ⟨rfl, b2⟩
  rw [hdE, if_neg (by decide)]
  have c2 := b1.trans (b2.mono b1.size)
  have HHD2 := Lib.hid (HHD.out.ext (Nat.le_refl _) b2)
  have s2 := b2.size
  clear b2 HHD HS hdE
  unfold iagg
  go_wp2_with (with_reducible refine wpList_store_new rfl 27 (.tmp 3) (.tmp 15) rfl (icells Nd.In.zero) rfl rfl ?_ rfl (infoI _ rfl) icells_one ?_)
  · exact Nat.le_refl 23
  generalize hW : (w2.alloc (.cells _ 27)).setCells w2.heap.size 0 _ = w3
  have b3 : Below w2.heap.size w2 w3 := by rw [← hW]; exact below_setCells ((Below.refl _ _).alloc (Nat.le_refl _) _) (Nat.le_refl _) _ _
  have c3 := c2.trans (b3.mono c2.size)
  have HHD3 := Lib.hid (HHD2.out.ext s2 b3)
  have s3 := b3.size
  clear hW HHD2 b3 c2
  refine (node_no w3 _ 0 [] (Rds.nil_ _ _ _) (Nat.zero_le _) (by decide)).mono ?_
  rintro e w4 ⟨rfl, b4⟩
  have c4 := c3.trans (b4.mono c3.size)
  have h4 := HHD3.out.ext (by omega) b4
  have hst := run_string_of (P := Tryd.prog) h4 28 9 5 Tryd.underlying28 Tryd.underlying5 Tryd.underlying9
  have g1 : (7 : Int) ≤ c := by omega
  have g2 : 7 ≤ c := by omega
  clear h4 HHD3 b4 c3
  go_wp2
  go_ret
  exact ⟨rfl, c4⟩
end Go.Proofs.YtmabdbleakolbaaDoor
