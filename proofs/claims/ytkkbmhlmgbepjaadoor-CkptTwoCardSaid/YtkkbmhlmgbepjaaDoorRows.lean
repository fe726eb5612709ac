/-
  NARROWER THAN 'FOR EVERY INPUT', by the rows' own cells (each row's printed sentence says how): CkptCodes: laid · CkptChooses: laid · CkptKeeps: laid · CkptTwo: laid.
  DERIVED. THE GIVEN ROWS OF THIS SEAT. 4 by the template 'for every input the law returns true; each argument reads behind the call as it read before'; 0 by the template 'total and deterministic' (their statements: YtkkbmhlmgbepjaaDoorTotals.lean).
  GIVEN WITH THE SEED: the statements are not yours to turn. If you find one false, say at which input.
  Laid BY PROGRAM, IN A SANDBOX (cutbox-rows.mjs): the forced cells as the released guide's own fill.sh prints them over the translation d15df06653642d48… (all of the seat's roots in one cut). By AI agents, Wed Nov 11 2026. No macro, syntax, notation, axiom, sorry.
-/
import Derived.Test.YtkkbmhlmgbepjaaDoorChecked
import GoSem.Claim
import GoSem.ClaimJoined
import GoSem.ClaimMapViews
import Derived.JoinedTies
import Derived.KernelRfl
namespace Go.Proofs.YtkkbmhlmgbepjaaDoor
/- THE CELL 'sum', in the pinned program and in every row, IS THE sha256 OF THE DUMP (.gsa) THAT YtkkbmhlmgbepjaaDoorProg.lean LOADS. Nothing in Lean hashes anything: it is a label: what it is worth is what the hold of that sum in a sandbox is worth. -/
noncomputable def Tryd.pinned : Pinned := { name := "ytkkbmhlmgbepjaadoor", sum := "d15df06653642d488497569430d1a7b5cf2db5988b461dde47f13223084dd4f4", checked := Tryd.checked }
namespace Rows
def none {H : Type} : Left H := { results := [], args := [] }

/- WHAT THE LISTED PACKAGE-LEVEL VARIABLES READ AS WHEN THE CALL BEGINS. Each datum BY PROGRAM (the guide's laid-datum.mjs) off the statement by which the dump's own 'gosem.cut.vars' lays the variable. In a bare row this is a premise. The card (YtkkbmhlmgbepjaaDoorCards.lean) ties it to the program's text. -/
def laid_haymow_crc_halves {H : Type} : DataW H := .agg [.lit (.int .u32 0), .lit (.int .u32 274646895), .lit (.int .u32 549293790), .lit (.int .u32 820201905), .lit (.int .u32 1098587580), .lit (.int .u32 1361435347), .lit (.int .u32 1640403810), .lit (.int .u32 1905808397), .lit (.int .u32 2197175160), .lit (.int .u32 2460548119), .lit (.int .u32 2722870694), .lit (.int .u32 2987750089), .lit (.int .u32 3280807620), .lit (.int .u32 3553878443), .lit (.int .u32 3811616794), .lit (.int .u32 4084100981)]

/-- 'haymowlaw13.CkptCodes': WHATEVER THE INPUT: true; the input reads as it did. -/
def ckptCodesSpec : ChangeSpec := { name := "ckptCodes", fn := fun _ => fun
  | [d1, d2] => { results := [.lit (.bool true)], args := [d1, d2] }
  | _ => none }
def ckptCodesRow : OpenClaim := { program := "ytkkbmhlmgbepjaadoor", sum := "d15df06653642d488497569430d1a7b5cf2db5988b461dde47f13223084dd4f4", func := "haymow/haymowlaw13.CkptCodes", spec := "ckptCodes", unfollowed := true, recurses := true, named := ["haymow/crc.halves"], apart := false, laid := [("haymow/crc.halves", laid_haymow_crc_halves)] }
def CkptCodesSaid : Prop := ckptCodesRow.holds Tryd.pinned (OpenSpec.ofChange ckptCodesSpec)

/-- ITS FALSE NEIGHBOUR: 'it returns false'. Refute it at one input. -/
def ckptCodesWrong : ChangeSpec := { name := "ckptCodes", fn := fun _ => fun
  | [d1, d2] => { results := [.lit (.bool false)], args := [d1, d2] }
  | _ => none }
def CkptCodesWrongFalsely : Prop := ckptCodesRow.holds Tryd.pinned (OpenSpec.ofChange ckptCodesWrong)

/-- 'haymowlaw13.CkptChooses': WHATEVER THE INPUT: true; the input reads as it did. -/
def ckptChoosesSpec : ChangeSpec := { name := "ckptChooses", fn := fun _ => fun
  | [d1, d2] => { results := [.lit (.bool true)], args := [d1, d2] }
  | _ => none }
def ckptChoosesRow : OpenClaim := { program := "ytkkbmhlmgbepjaadoor", sum := "d15df06653642d488497569430d1a7b5cf2db5988b461dde47f13223084dd4f4", func := "haymow/haymowlaw13.CkptChooses", spec := "ckptChooses", unfollowed := true, recurses := true, named := ["haymow/crc.halves"], apart := false, laid := [("haymow/crc.halves", laid_haymow_crc_halves)] }
def CkptChoosesSaid : Prop := ckptChoosesRow.holds Tryd.pinned (OpenSpec.ofChange ckptChoosesSpec)

/-- ITS FALSE NEIGHBOUR: 'it returns false'. Refute it at one input. -/
def ckptChoosesWrong : ChangeSpec := { name := "ckptChooses", fn := fun _ => fun
  | [d1, d2] => { results := [.lit (.bool false)], args := [d1, d2] }
  | _ => none }
def CkptChoosesWrongFalsely : Prop := ckptChoosesRow.holds Tryd.pinned (OpenSpec.ofChange ckptChoosesWrong)

/-- 'haymowlaw13.CkptKeeps': WHATEVER THE INPUT: true; the input reads as it did. -/
def ckptKeepsSpec : ChangeSpec := { name := "ckptKeeps", fn := fun _ => fun
  | [d1, d2] => { results := [.lit (.bool true)], args := [d1, d2] }
  | _ => none }
def ckptKeepsRow : OpenClaim := { program := "ytkkbmhlmgbepjaadoor", sum := "d15df06653642d488497569430d1a7b5cf2db5988b461dde47f13223084dd4f4", func := "haymow/haymowlaw13.CkptKeeps", spec := "ckptKeeps", unfollowed := true, recurses := true, named := ["haymow/crc.halves"], apart := false, laid := [("haymow/crc.halves", laid_haymow_crc_halves)] }
def CkptKeepsSaid : Prop := ckptKeepsRow.holds Tryd.pinned (OpenSpec.ofChange ckptKeepsSpec)

/-- ITS FALSE NEIGHBOUR: 'it returns false'. Refute it at one input. -/
def ckptKeepsWrong : ChangeSpec := { name := "ckptKeeps", fn := fun _ => fun
  | [d1, d2] => { results := [.lit (.bool false)], args := [d1, d2] }
  | _ => none }
def CkptKeepsWrongFalsely : Prop := ckptKeepsRow.holds Tryd.pinned (OpenSpec.ofChange ckptKeepsWrong)

/-- 'haymowlaw13.CkptTwo': WHATEVER THE INPUT: true; the input reads as it did. -/
def ckptTwoSpec : ChangeSpec := { name := "ckptTwo", fn := fun _ => fun
  | [d1, d2] => { results := [.lit (.bool true)], args := [d1, d2] }
  | _ => none }
def ckptTwoRow : OpenClaim := { program := "ytkkbmhlmgbepjaadoor", sum := "d15df06653642d488497569430d1a7b5cf2db5988b461dde47f13223084dd4f4", func := "haymow/haymowlaw13.CkptTwo", spec := "ckptTwo", unfollowed := true, recurses := true, named := ["haymow/crc.halves"], apart := false, laid := [("haymow/crc.halves", laid_haymow_crc_halves)] }
def CkptTwoSaid : Prop := ckptTwoRow.holds Tryd.pinned (OpenSpec.ofChange ckptTwoSpec)

/-- ITS FALSE NEIGHBOUR: 'it returns false'. Refute it at one input. -/
def ckptTwoWrong : ChangeSpec := { name := "ckptTwo", fn := fun _ => fun
  | [d1, d2] => { results := [.lit (.bool false)], args := [d1, d2] }
  | _ => none }
def CkptTwoWrongFalsely : Prop := ckptTwoRow.holds Tryd.pinned (OpenSpec.ofChange ckptTwoWrong)

/- THE SECOND FORM. 'bulk': how many values and letters a reading holds, each counted each time it is reached (what is shared counts as often as it is met; a slice's spare places count too). A statement '..UptoSaid' is the law's where the arguments, and the package variables that the reading takes, are together of bulk at most 1048576: NARROWER than '..Said'. Prove '..Said' where nothing that the law and all that it calls make is longer than what came in: it says more and counts as full. Else prove '..UptoSaid'. A law counts once. -/
mutual
def uptoBulk {H : Type} : DataW H → Nat
  | .lit (.string bytes) => bytes.length + 1
  | .lit _ => 1
  | .nil => 1
  | .ptr d => uptoBulk d + 1
  | .slice elems spare => uptoBulkAll elems + uptoBulkAll spare + 1
  | .agg parts => uptoBulkAll parts + 1
  | .iface _ d => uptoBulk d + 1
  | .map entries => uptoBulkEntries entries + 1
  | .held _ => 1
def uptoBulkAll {H : Type} : List (DataW H) → Nat
  | [] => 0
  | d :: r => uptoBulk d + uptoBulkAll r
def uptoBulkEntries {H : Type} : List (Lit × DataW H) → Nat
  | [] => 0
  | x :: r => uptoBulkEntry x + uptoBulkEntries r
def uptoBulkEntry {H : Type} : Lit × DataW H → Nat
  | (.string bytes, d) => bytes.length + uptoBulk d + 1
  | (_, d) => uptoBulk d + 1
 end
def uptoSmall : (H : Type) → List (DataW H) → Bool := fun _ ds => decide (uptoBulkAll ds ≤ 1048576)
def OpenSpec.upto (s : _root_.Go.ChangeSpec) : _root_.Go.OpenSpec := { _root_.Go.OpenSpec.ofChange s with cond := some uptoSmall }

/-- 'haymowlaw13.CkptCodes', WHERE WHAT IT READS IS OF BULK AT MOST 1048576: true; the input reads as it did. -/
def ckptCodesUptoRow : OpenClaim := { program := "ytkkbmhlmgbepjaadoor", sum := "d15df06653642d488497569430d1a7b5cf2db5988b461dde47f13223084dd4f4", func := "haymow/haymowlaw13.CkptCodes", spec := "ckptCodes", unfollowed := true, recurses := true, named := ["haymow/crc.halves"], apart := false, laid := [("haymow/crc.halves", laid_haymow_crc_halves)], narrowed := true }
def CkptCodesUptoSaid : Prop := ckptCodesUptoRow.holds Tryd.pinned (OpenSpec.upto ckptCodesSpec)

/-- 'haymowlaw13.CkptChooses', WHERE WHAT IT READS IS OF BULK AT MOST 1048576: true; the input reads as it did. -/
def ckptChoosesUptoRow : OpenClaim := { program := "ytkkbmhlmgbepjaadoor", sum := "d15df06653642d488497569430d1a7b5cf2db5988b461dde47f13223084dd4f4", func := "haymow/haymowlaw13.CkptChooses", spec := "ckptChooses", unfollowed := true, recurses := true, named := ["haymow/crc.halves"], apart := false, laid := [("haymow/crc.halves", laid_haymow_crc_halves)], narrowed := true }
def CkptChoosesUptoSaid : Prop := ckptChoosesUptoRow.holds Tryd.pinned (OpenSpec.upto ckptChoosesSpec)

/-- 'haymowlaw13.CkptKeeps', WHERE WHAT IT READS IS OF BULK AT MOST 1048576: true; the input reads as it did. -/
def ckptKeepsUptoRow : OpenClaim := { program := "ytkkbmhlmgbepjaadoor", sum := "d15df06653642d488497569430d1a7b5cf2db5988b461dde47f13223084dd4f4", func := "haymow/haymowlaw13.CkptKeeps", spec := "ckptKeeps", unfollowed := true, recurses := true, named := ["haymow/crc.halves"], apart := false, laid := [("haymow/crc.halves", laid_haymow_crc_halves)], narrowed := true }
def CkptKeepsUptoSaid : Prop := ckptKeepsUptoRow.holds Tryd.pinned (OpenSpec.upto ckptKeepsSpec)

/-- 'haymowlaw13.CkptTwo', WHERE WHAT IT READS IS OF BULK AT MOST 1048576: true; the input reads as it did. -/
def ckptTwoUptoRow : OpenClaim := { program := "ytkkbmhlmgbepjaadoor", sum := "d15df06653642d488497569430d1a7b5cf2db5988b461dde47f13223084dd4f4", func := "haymow/haymowlaw13.CkptTwo", spec := "ckptTwo", unfollowed := true, recurses := true, named := ["haymow/crc.halves"], apart := false, laid := [("haymow/crc.halves", laid_haymow_crc_halves)], narrowed := true }
def CkptTwoUptoSaid : Prop := ckptTwoUptoRow.holds Tryd.pinned (OpenSpec.upto ckptTwoSpec)

end Rows
end Go.Proofs.YtkkbmhlmgbepjaaDoor
