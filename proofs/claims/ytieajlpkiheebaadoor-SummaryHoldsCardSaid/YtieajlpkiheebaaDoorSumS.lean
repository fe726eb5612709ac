/-
  summed of package summary. By an AI agent.
-/
import Derived.Test.YtieajlpkiheebaaDoorSumW
namespace Go.Proofs.YtieajlpkiheebaaDoor
open Go.RowKit

set_option maxHeartbeats 1000000 in
theorem summed_any (y : Sm.En) (v : Value) (b : List UInt8) (w : World) (hb : Bs w w.heap.size v b) (hH : Halves w) :
    Calls Tryd.prog 33 #[.agg #[.int .i64 y.k, .int .i64 y.i, .int .i64 y.x, .int .u32 (y.s : Int)], v] w fun e w' => e = .returned (.agg #[.int .i64 y.k, .int .i64 y.i, .int .i64 y.x, .int .u32 (Crc.sum b : Int)]) ∧ Below w.heap.size w w' := by
  have hb0 := ((Below.refl w.heap.size w).alloc (Nat.le_refl _) (.cells #[.int .i64 y.k, .int .i64 y.i, .int .i64 y.x, .int .u32 (y.s : Int)] 62)).alloc (by simp) (.cells #[.int .i64 0, .int .i64 0, .int .i64 0, .int .u32 0] 62)
  have hb2 := (hb.below hb0).more hb0.size
  obtain ⟨A, c, rfl, hc, hm, _⟩ := hb.open_
  go_enter Tryd.func33, Tryd.ntmps33
  go_wp2_with fail
  refine (sum_any _ _ _ [b] ((hH.ext hb0).alloc _) (Bss.lit1' _ hb2 (by simp))).mono ?_
  rintro e w1 ⟨rfl, rfl⟩
  rw [show [b].flatten = b by simp]
  go_wp2
  have k4 := (Blk.new (w.alloc (.cells #[.int .i64 y.k, .int .i64 y.i, .int .i64 y.x, .int .u32 (Crc.sum b : Int)] 62)) 62 #[.int .i64 y.k, .int .i64 y.i, .int .i64 y.x, .int .u32 (Crc.sum b : Int)]).alloc (.cells #[.slice A b.length c] 26)
  rw [World.size_alloc] at k4
  refine bodyPost_ret (res_cell1 _ _ Tryd.results33 rfl k4.range Tryd.underlying62 rfl (by kernel_rfl)) rfl ⟨rfl, ?_⟩
  exact (((Below.refl _ _).alloc (Nat.le_refl _) _).alloc (by simp) _).alloc (by simp; omega) _
end Go.Proofs.YtieajlpkiheebaaDoor
