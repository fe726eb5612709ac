/-
  NARROWER THAN 'FOR EVERY INPUT', by the rows' own cells (each row's printed sentence says how): SummaryEncodes: laid · SummaryDecodes: laid · SummaryWholes: laid · SummaryHolds: laid · SummaryApart: laid.
  DERIVED. THE GIVEN ROWS OF THIS SEAT. 5 by the template 'for every input the law returns true; each argument reads behind the call as it read before'; 0 by the template 'total and deterministic' (their statements: YtieajlpkiheebaaDoorTotals.lean).
  GIVEN WITH THE SEED: the statements are not yours to turn. If you find one false, say at which input.
  Laid BY PROGRAM, IN A SANDBOX (cutbox-rows.mjs): the forced cells as the released guide's own fill.sh prints them over the translation 4356ac5a4117a10a… (all of the seat's roots in one cut). By AI agents, Wed Nov 11 2026. No macro, syntax, notation, axiom, sorry.
-/
import Derived.Test.YtieajlpkiheebaaDoorChecked
import GoSem.Claim
import GoSem.ClaimJoined
import GoSem.ClaimMapViews
import Derived.JoinedTies
import Derived.KernelRfl
namespace Go.Proofs.YtieajlpkiheebaaDoor
/- THE CELL 'sum', in the pinned program and in every row, IS THE sha256 OF THE DUMP (.gsa) THAT YtieajlpkiheebaaDoorProg.lean LOADS. Nothing in Lean hashes anything: it is a label: what it is worth is what the hold of that sum in a sandbox is worth. -/
noncomputable def Tryd.pinned : Pinned := { name := "ytieajlpkiheebaadoor", sum := "4356ac5a4117a10af87e22e7993731680336123c16737f67ed22e9d291cc93d4", checked := Tryd.checked }
namespace Rows
def none {H : Type} : Left H := { results := [], args := [] }

/- WHAT THE LISTED PACKAGE-LEVEL VARIABLES READ AS WHEN THE CALL BEGINS. Each datum BY PROGRAM (the guide's laid-datum.mjs) off the statement by which the dump's own 'gosem.cut.vars' lays the variable. In a bare row this is a premise. The card (YtieajlpkiheebaaDoorCards.lean) ties it to the program's text. -/
def laid_haymow_crc_halves {H : Type} : DataW H := .agg [.lit (.int .u32 0), .lit (.int .u32 274646895), .lit (.int .u32 549293790), .lit (.int .u32 820201905), .lit (.int .u32 1098587580), .lit (.int .u32 1361435347), .lit (.int .u32 1640403810), .lit (.int .u32 1905808397), .lit (.int .u32 2197175160), .lit (.int .u32 2460548119), .lit (.int .u32 2722870694), .lit (.int .u32 2987750089), .lit (.int .u32 3280807620), .lit (.int .u32 3553878443), .lit (.int .u32 3811616794), .lit (.int .u32 4084100981)]

/-- 'haymowlaw06.SummaryEncodes': WHATEVER THE INPUT: true; the input reads as it did. -/
def summaryEncodesSpec : ChangeSpec := { name := "summaryEncodes", fn := fun _ => fun
  | [d] => { results := [.lit (.bool true)], args := [d] }
  | _ => none }
def summaryEncodesRow : OpenClaim := { program := "ytieajlpkiheebaadoor", sum := "4356ac5a4117a10af87e22e7993731680336123c16737f67ed22e9d291cc93d4", func := "haymow/haymowlaw06.SummaryEncodes", spec := "summaryEncodes", unfollowed := true, recurses := true, named := ["haymow/crc.halves"], apart := false, laid := [("haymow/crc.halves", laid_haymow_crc_halves)] }
def SummaryEncodesSaid : Prop := summaryEncodesRow.holds Tryd.pinned (OpenSpec.ofChange summaryEncodesSpec)

/-- ITS FALSE NEIGHBOUR: 'it returns false'. Refute it at one input. -/
def summaryEncodesWrong : ChangeSpec := { name := "summaryEncodes", fn := fun _ => fun
  | [d] => { results := [.lit (.bool false)], args := [d] }
  | _ => none }
def SummaryEncodesWrongFalsely : Prop := summaryEncodesRow.holds Tryd.pinned (OpenSpec.ofChange summaryEncodesWrong)

/-- 'haymowlaw06.SummaryDecodes': WHATEVER THE INPUT: true; the input reads as it did. -/
def summaryDecodesSpec : ChangeSpec := { name := "summaryDecodes", fn := fun _ => fun
  | [d] => { results := [.lit (.bool true)], args := [d] }
  | _ => none }
def summaryDecodesRow : OpenClaim := { program := "ytieajlpkiheebaadoor", sum := "4356ac5a4117a10af87e22e7993731680336123c16737f67ed22e9d291cc93d4", func := "haymow/haymowlaw06.SummaryDecodes", spec := "summaryDecodes", unfollowed := true, recurses := true, named := ["haymow/crc.halves"], apart := false, laid := [("haymow/crc.halves", laid_haymow_crc_halves)] }
def SummaryDecodesSaid : Prop := summaryDecodesRow.holds Tryd.pinned (OpenSpec.ofChange summaryDecodesSpec)

/-- ITS FALSE NEIGHBOUR: 'it returns false'. Refute it at one input. -/
def summaryDecodesWrong : ChangeSpec := { name := "summaryDecodes", fn := fun _ => fun
  | [d] => { results := [.lit (.bool false)], args := [d] }
  | _ => none }
def SummaryDecodesWrongFalsely : Prop := summaryDecodesRow.holds Tryd.pinned (OpenSpec.ofChange summaryDecodesWrong)

/-- 'haymowlaw06.SummaryWholes': WHATEVER THE INPUT: true; the input reads as it did. -/
def summaryWholesSpec : ChangeSpec := { name := "summaryWholes", fn := fun _ => fun
  | [d1, d2] => { results := [.lit (.bool true)], args := [d1, d2] }
  | _ => none }
def summaryWholesRow : OpenClaim := { program := "ytieajlpkiheebaadoor", sum := "4356ac5a4117a10af87e22e7993731680336123c16737f67ed22e9d291cc93d4", func := "haymow/haymowlaw06.SummaryWholes", spec := "summaryWholes", unfollowed := true, recurses := true, named := ["haymow/crc.halves"], apart := false, laid := [("haymow/crc.halves", laid_haymow_crc_halves)] }
def SummaryWholesSaid : Prop := summaryWholesRow.holds Tryd.pinned (OpenSpec.ofChange summaryWholesSpec)

/-- ITS FALSE NEIGHBOUR: 'it returns false'. Refute it at one input. -/
def summaryWholesWrong : ChangeSpec := { name := "summaryWholes", fn := fun _ => fun
  | [d1, d2] => { results := [.lit (.bool false)], args := [d1, d2] }
  | _ => none }
def SummaryWholesWrongFalsely : Prop := summaryWholesRow.holds Tryd.pinned (OpenSpec.ofChange summaryWholesWrong)

/-- 'haymowlaw06.SummaryHolds': WHATEVER THE INPUT: true; the input reads as it did. -/
def summaryHoldsSpec : ChangeSpec := { name := "summaryHolds", fn := fun _ => fun
  | [d] => { results := [.lit (.bool true)], args := [d] }
  | _ => none }
def summaryHoldsRow : OpenClaim := { program := "ytieajlpkiheebaadoor", sum := "4356ac5a4117a10af87e22e7993731680336123c16737f67ed22e9d291cc93d4", func := "haymow/haymowlaw06.SummaryHolds", spec := "summaryHolds", unfollowed := true, recurses := true, named := ["haymow/crc.halves"], apart := false, laid := [("haymow/crc.halves", laid_haymow_crc_halves)] }
def SummaryHoldsSaid : Prop := summaryHoldsRow.holds Tryd.pinned (OpenSpec.ofChange summaryHoldsSpec)

/-- ITS FALSE NEIGHBOUR: 'it returns false'. Refute it at one input. -/
def summaryHoldsWrong : ChangeSpec := { name := "summaryHolds", fn := fun _ => fun
  | [d] => { results := [.lit (.bool false)], args := [d] }
  | _ => none }
def SummaryHoldsWrongFalsely : Prop := summaryHoldsRow.holds Tryd.pinned (OpenSpec.ofChange summaryHoldsWrong)

/-- 'haymowlaw06.SummaryApart': WHATEVER THE INPUT: true; the input reads as it did. -/
def summaryApartSpec : ChangeSpec := { name := "summaryApart", fn := fun _ => fun
  | [d1, d2] => { results := [.lit (.bool true)], args := [d1, d2] }
  | _ => none }
def summaryApartRow : OpenClaim := { program := "ytieajlpkiheebaadoor", sum := "4356ac5a4117a10af87e22e7993731680336123c16737f67ed22e9d291cc93d4", func := "haymow/haymowlaw06.SummaryApart", spec := "summaryApart", unfollowed := true, recurses := true, named := ["haymow/crc.halves"], apart := false, laid := [("haymow/crc.halves", laid_haymow_crc_halves)] }
def SummaryApartSaid : Prop := summaryApartRow.holds Tryd.pinned (OpenSpec.ofChange summaryApartSpec)

/-- ITS FALSE NEIGHBOUR: 'it returns false'. Refute it at one input. -/
def summaryApartWrong : ChangeSpec := { name := "summaryApart", fn := fun _ => fun
  | [d1, d2] => { results := [.lit (.bool false)], args := [d1, d2] }
  | _ => none }
def SummaryApartWrongFalsely : Prop := summaryApartRow.holds Tryd.pinned (OpenSpec.ofChange summaryApartWrong)

/- THE SECOND FORM. 'bulk': how many values and letters a reading holds, each counted each time it is reached (what is shared counts as often as it is met; a slice's spare places count too). A statement '..UptoSaid' is the law's where the arguments, and the package variables that the reading takes, are together of bulk at most 1048576: NARROWER than '..Said'. Prove '..Said' where nothing that the law and all that it calls make is longer than what came in: it says more and counts as full. Else prove '..UptoSaid'. A law counts once. -/
mutual
def uptoBulk {H : Type} : DataW H → Nat
  | .lit (.string bytes) => bytes.length + 1
  | .lit _ => 1
  | .nil => 1
  | .ptr d => uptoBulk d + 1
  | .slice elems spare => uptoBulkAll elems + uptoBulkAll spare + 1
  | .agg parts => uptoBulkAll parts + 1
  | .iface _ d => uptoBulk d + 1
  | .map entries => uptoBulkEntries entries + 1
  | .held _ => 1
def uptoBulkAll {H : Type} : List (DataW H) → Nat
  | [] => 0
  | d :: r => uptoBulk d + uptoBulkAll r
def uptoBulkEntries {H : Type} : List (Lit × DataW H) → Nat
  | [] => 0
  | x :: r => uptoBulkEntry x + uptoBulkEntries r
def uptoBulkEntry {H : Type} : Lit × DataW H → Nat
  | (.string bytes, d) => bytes.length + uptoBulk d + 1
  | (_, d) => uptoBulk d + 1
 end
def uptoSmall : (H : Type) → List (DataW H) → Bool := fun _ ds => decide (uptoBulkAll ds ≤ 1048576)
def OpenSpec.upto (s : _root_.Go.ChangeSpec) : _root_.Go.OpenSpec := { _root_.Go.OpenSpec.ofChange s with cond := some uptoSmall }

/-- 'haymowlaw06.SummaryEncodes', WHERE WHAT IT READS IS OF BULK AT MOST 1048576: true; the input reads as it did. -/
def summaryEncodesUptoRow : OpenClaim := { program := "ytieajlpkiheebaadoor", sum := "4356ac5a4117a10af87e22e7993731680336123c16737f67ed22e9d291cc93d4", func := "haymow/haymowlaw06.SummaryEncodes", spec := "summaryEncodes", unfollowed := true, recurses := true, named := ["haymow/crc.halves"], apart := false, laid := [("haymow/crc.halves", laid_haymow_crc_halves)], narrowed := true }
def SummaryEncodesUptoSaid : Prop := summaryEncodesUptoRow.holds Tryd.pinned (OpenSpec.upto summaryEncodesSpec)

/-- 'haymowlaw06.SummaryDecodes', WHERE WHAT IT READS IS OF BULK AT MOST 1048576: true; the input reads as it did. -/
def summaryDecodesUptoRow : OpenClaim := { program := "ytieajlpkiheebaadoor", sum := "4356ac5a4117a10af87e22e7993731680336123c16737f67ed22e9d291cc93d4", func := "haymow/haymowlaw06.SummaryDecodes", spec := "summaryDecodes", unfollowed := true, recurses := true, named := ["haymow/crc.halves"], apart := false, laid := [("haymow/crc.halves", laid_haymow_crc_halves)], narrowed := true }
def SummaryDecodesUptoSaid : Prop := summaryDecodesUptoRow.holds Tryd.pinned (OpenSpec.upto summaryDecodesSpec)

/-- 'haymowlaw06.SummaryWholes', WHERE WHAT IT READS IS OF BULK AT MOST 1048576: true; the input reads as it did. -/
def summaryWholesUptoRow : OpenClaim := { program := "ytieajlpkiheebaadoor", sum := "4356ac5a4117a10af87e22e7993731680336123c16737f67ed22e9d291cc93d4", func := "haymow/haymowlaw06.SummaryWholes", spec := "summaryWholes", unfollowed := true, recurses := true, named := ["haymow/crc.halves"], apart := false, laid := [("haymow/crc.halves", laid_haymow_crc_halves)], narrowed := true }
def SummaryWholesUptoSaid : Prop := summaryWholesUptoRow.holds Tryd.pinned (OpenSpec.upto summaryWholesSpec)

/-- 'haymowlaw06.SummaryHolds', WHERE WHAT IT READS IS OF BULK AT MOST 1048576: true; the input reads as it did. -/
def summaryHoldsUptoRow : OpenClaim := { program := "ytieajlpkiheebaadoor", sum := "4356ac5a4117a10af87e22e7993731680336123c16737f67ed22e9d291cc93d4", func := "haymow/haymowlaw06.SummaryHolds", spec := "summaryHolds", unfollowed := true, recurses := true, named := ["haymow/crc.halves"], apart := false, laid := [("haymow/crc.halves", laid_haymow_crc_halves)], narrowed := true }
def SummaryHoldsUptoSaid : Prop := summaryHoldsUptoRow.holds Tryd.pinned (OpenSpec.upto summaryHoldsSpec)

/-- 'haymowlaw06.SummaryApart', WHERE WHAT IT READS IS OF BULK AT MOST 1048576: true; the input reads as it did. -/
def summaryApartUptoRow : OpenClaim := { program := "ytieajlpkiheebaadoor", sum := "4356ac5a4117a10af87e22e7993731680336123c16737f67ed22e9d291cc93d4", func := "haymow/haymowlaw06.SummaryApart", spec := "summaryApart", unfollowed := true, recurses := true, named := ["haymow/crc.halves"], apart := false, laid := [("haymow/crc.halves", laid_haymow_crc_halves)], narrowed := true }
def SummaryApartUptoSaid : Prop := summaryApartUptoRow.holds Tryd.pinned (OpenSpec.upto summaryApartSpec)

end Rows
end Go.Proofs.YtieajlpkiheebaaDoor
