/-
  No cell of these rows narrows 'for every input' (looked for: loops, veiled, ifaces, maps, wideKeys, modest, calm, conditions, laid).
  DERIVED. THE GIVEN ROWS OF THIS SEAT. 4 by the template 'for every input the law returns true; each argument reads behind the call as it read before'; 0 by the template 'total and deterministic' (their statements: YtdafkdjgclpolaaTotals.lean).
  GIVEN WITH THE SEED: the statements are not yours to turn. If you find one false, say at which input.
  Laid BY PROGRAM, IN A SANDBOX (cutbox-rows.mjs): the forced cells as the released guide's own fill.sh prints them over the translation dd04369d20ccf5c9… (all of the seat's roots in one cut). By AI agents, Wed Nov 11 2026. No macro, syntax, notation, axiom, sorry.
-/
import Derived.Test.YtdafkdjgclpolaaChecked
import GoSem.Claim
import GoSem.ClaimJoined
import GoSem.ClaimMapViews
import Derived.JoinedTies
import Derived.KernelRfl
namespace Go.Proofs.Ytdafkdjgclpolaa
/- THE CELL 'sum', in the pinned program and in every row, IS THE sha256 OF THE DUMP (.gsa) THAT YtdafkdjgclpolaaProg.lean LOADS. Nothing in Lean hashes anything: it is a label: what it is worth is what the hold of that sum in a sandbox is worth. -/
noncomputable def Try.pinned : Pinned := { name := "ytdafkdjgclpolaa", sum := "dd04369d20ccf5c908df1600c8f8fe72367ef94510098c0a1e70b7dde92b81cc", checked := Try.checked }
namespace Rows
def none {H : Type} : Left H := { results := [], args := [] }

/-- 'spinetlaw25.ImageBoots': WHATEVER THE INPUT: true; the input reads as it did. -/
def imageBootsSpec : ChangeSpec := { name := "imageBoots", fn := fun _ => fun
  | [d1, d2, d3] => { results := [.lit (.bool true)], args := [d1, d2, d3] }
  | _ => none }
def imageBootsRow : OpenClaim := { program := "ytdafkdjgclpolaa", sum := "dd04369d20ccf5c908df1600c8f8fe72367ef94510098c0a1e70b7dde92b81cc", func := "spinet/spinetlaw25.ImageBoots", spec := "imageBoots", apart := false }
def ImageBootsSaid : Prop := imageBootsRow.holds Try.pinned (OpenSpec.ofChange imageBootsSpec)

/-- ITS FALSE NEIGHBOUR: 'it returns false'. Refute it at one input. -/
def imageBootsWrong : ChangeSpec := { name := "imageBoots", fn := fun _ => fun
  | [d1, d2, d3] => { results := [.lit (.bool false)], args := [d1, d2, d3] }
  | _ => none }
def ImageBootsWrongFalsely : Prop := imageBootsRow.holds Try.pinned (OpenSpec.ofChange imageBootsWrong)

/-- 'spinetlaw25.ImageJumps': WHATEVER THE INPUT: true; the input reads as it did. -/
def imageJumpsSpec : ChangeSpec := { name := "imageJumps", fn := fun _ => fun
  | [d1, d2, d3] => { results := [.lit (.bool true)], args := [d1, d2, d3] }
  | _ => none }
def imageJumpsRow : OpenClaim := { program := "ytdafkdjgclpolaa", sum := "dd04369d20ccf5c908df1600c8f8fe72367ef94510098c0a1e70b7dde92b81cc", func := "spinet/spinetlaw25.ImageJumps", spec := "imageJumps", apart := false }
def ImageJumpsSaid : Prop := imageJumpsRow.holds Try.pinned (OpenSpec.ofChange imageJumpsSpec)

/-- ITS FALSE NEIGHBOUR: 'it returns false'. Refute it at one input. -/
def imageJumpsWrong : ChangeSpec := { name := "imageJumps", fn := fun _ => fun
  | [d1, d2, d3] => { results := [.lit (.bool false)], args := [d1, d2, d3] }
  | _ => none }
def ImageJumpsWrongFalsely : Prop := imageJumpsRow.holds Try.pinned (OpenSpec.ofChange imageJumpsWrong)

/-- 'spinetlaw05.CpuCalls': WHATEVER THE INPUT: true; the input reads as it did. -/
def cpuCallsSpec : ChangeSpec := { name := "cpuCalls", fn := fun _ => fun
  | [d1, d2] => { results := [.lit (.bool true)], args := [d1, d2] }
  | _ => none }
def cpuCallsRow : OpenClaim := { program := "ytdafkdjgclpolaa", sum := "dd04369d20ccf5c908df1600c8f8fe72367ef94510098c0a1e70b7dde92b81cc", func := "spinet/spinetlaw05.CpuCalls", spec := "cpuCalls", apart := false }
def CpuCallsSaid : Prop := cpuCallsRow.holds Try.pinned (OpenSpec.ofChange cpuCallsSpec)

/-- ITS FALSE NEIGHBOUR: 'it returns false'. Refute it at one input. -/
def cpuCallsWrong : ChangeSpec := { name := "cpuCalls", fn := fun _ => fun
  | [d1, d2] => { results := [.lit (.bool false)], args := [d1, d2] }
  | _ => none }
def CpuCallsWrongFalsely : Prop := cpuCallsRow.holds Try.pinned (OpenSpec.ofChange cpuCallsWrong)

/-- 'spinetlaw27.RunInside': WHATEVER THE INPUT: true; the input reads as it did. -/
def runInsideSpec : ChangeSpec := { name := "runInside", fn := fun _ => fun
  | [d1, d2] => { results := [.lit (.bool true)], args := [d1, d2] }
  | _ => none }
def runInsideRow : OpenClaim := { program := "ytdafkdjgclpolaa", sum := "dd04369d20ccf5c908df1600c8f8fe72367ef94510098c0a1e70b7dde92b81cc", func := "spinet/spinetlaw27.RunInside", spec := "runInside", apart := false }
def RunInsideSaid : Prop := runInsideRow.holds Try.pinned (OpenSpec.ofChange runInsideSpec)

/-- ITS FALSE NEIGHBOUR: 'it returns false'. Refute it at one input. -/
def runInsideWrong : ChangeSpec := { name := "runInside", fn := fun _ => fun
  | [d1, d2] => { results := [.lit (.bool false)], args := [d1, d2] }
  | _ => none }
def RunInsideWrongFalsely : Prop := runInsideRow.holds Try.pinned (OpenSpec.ofChange runInsideWrong)

/- THE SECOND FORM. 'bulk': how many values and letters a reading holds, each counted each time it is reached (what is shared counts as often as it is met; a slice's spare places count too). A statement '..UptoSaid' is the law's where the arguments, and the package variables that the reading takes, are together of bulk at most 1048576: NARROWER than '..Said'. Prove '..Said' where nothing that the law and all that it calls make is longer than what came in: it says more and counts as full. Else prove '..UptoSaid'. A law counts once. -/
mutual
def uptoBulk {H : Type} : DataW H → Nat
  | .lit (.string bytes) => bytes.length + 1
  | .lit _ => 1
  | .nil => 1
  | .ptr d => uptoBulk d + 1
  | .slice elems spare => uptoBulkAll elems + uptoBulkAll spare + 1
  | .agg parts => uptoBulkAll parts + 1
  | .iface _ d => uptoBulk d + 1
  | .map entries => uptoBulkEntries entries + 1
  | .held _ => 1
def uptoBulkAll {H : Type} : List (DataW H) → Nat
  | [] => 0
  | d :: r => uptoBulk d + uptoBulkAll r
def uptoBulkEntries {H : Type} : List (Lit × DataW H) → Nat
  | [] => 0
  | x :: r => uptoBulkEntry x + uptoBulkEntries r
def uptoBulkEntry {H : Type} : Lit × DataW H → Nat
  | (.string bytes, d) => bytes.length + uptoBulk d + 1
  | (_, d) => uptoBulk d + 1
 end
def uptoSmall : (H : Type) → List (DataW H) → Bool := fun _ ds => decide (uptoBulkAll ds ≤ 1048576)
def OpenSpec.upto (s : _root_.Go.ChangeSpec) : _root_.Go.OpenSpec := { _root_.Go.OpenSpec.ofChange s with cond := some uptoSmall }

/-- 'spinetlaw25.ImageBoots', WHERE WHAT IT READS IS OF BULK AT MOST 1048576: true; the input reads as it did. -/
def imageBootsUptoRow : OpenClaim := { program := "ytdafkdjgclpolaa", sum := "dd04369d20ccf5c908df1600c8f8fe72367ef94510098c0a1e70b7dde92b81cc", func := "spinet/spinetlaw25.ImageBoots", spec := "imageBoots", apart := false, narrowed := true }
def ImageBootsUptoSaid : Prop := imageBootsUptoRow.holds Try.pinned (OpenSpec.upto imageBootsSpec)

/-- 'spinetlaw25.ImageJumps', WHERE WHAT IT READS IS OF BULK AT MOST 1048576: true; the input reads as it did. -/
def imageJumpsUptoRow : OpenClaim := { program := "ytdafkdjgclpolaa", sum := "dd04369d20ccf5c908df1600c8f8fe72367ef94510098c0a1e70b7dde92b81cc", func := "spinet/spinetlaw25.ImageJumps", spec := "imageJumps", apart := false, narrowed := true }
def ImageJumpsUptoSaid : Prop := imageJumpsUptoRow.holds Try.pinned (OpenSpec.upto imageJumpsSpec)

/-- 'spinetlaw05.CpuCalls', WHERE WHAT IT READS IS OF BULK AT MOST 1048576: true; the input reads as it did. -/
def cpuCallsUptoRow : OpenClaim := { program := "ytdafkdjgclpolaa", sum := "dd04369d20ccf5c908df1600c8f8fe72367ef94510098c0a1e70b7dde92b81cc", func := "spinet/spinetlaw05.CpuCalls", spec := "cpuCalls", apart := false, narrowed := true }
def CpuCallsUptoSaid : Prop := cpuCallsUptoRow.holds Try.pinned (OpenSpec.upto cpuCallsSpec)

/-- 'spinetlaw27.RunInside', WHERE WHAT IT READS IS OF BULK AT MOST 1048576: true; the input reads as it did. -/
def runInsideUptoRow : OpenClaim := { program := "ytdafkdjgclpolaa", sum := "dd04369d20ccf5c908df1600c8f8fe72367ef94510098c0a1e70b7dde92b81cc", func := "spinet/spinetlaw27.RunInside", spec := "runInside", apart := false, narrowed := true }
def RunInsideUptoSaid : Prop := runInsideUptoRow.holds Try.pinned (OpenSpec.upto runInsideSpec)

end Rows
end Go.Proofs.Ytdafkdjgclpolaa
