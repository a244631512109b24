/-
  No cell of these rows narrows 'for every input' (looked for: loops, veiled, ifaces, maps, wideKeys, modest, calm, conditions, laid).
  DERIVED. THE GIVEN ROWS OF THIS SEAT. 2 by the template 'for every input the law returns true; each argument reads behind the call as it read before'; 0 by the template 'total and deterministic' (their statements: YtlpkgngjofabaaaTotals.lean).
  GIVEN WITH THE SEED: the statements are not yours to turn. If you find one false, say at which input.
  Laid BY PROGRAM, IN A SANDBOX (cutbox-rows.mjs): the forced cells as the released guide's own fill.sh prints them over the translation dda62375c8e97850… (all of the seat's roots in one cut). By AI agents, Wed Nov 11 2026. No macro, syntax, notation, axiom, sorry.
-/
import Derived.Test.YtlpkgngjofabaaaChecked
import GoSem.Claim
import GoSem.ClaimJoined
import GoSem.ClaimMapViews
import Derived.JoinedTies
import Derived.KernelRfl
namespace Go.Proofs.Ytlpkgngjofabaaa
/- THE CELL 'sum', in the pinned program and in every row, IS THE sha256 OF THE DUMP (.gsa) THAT YtlpkgngjofabaaaProg.lean LOADS. Nothing in Lean hashes anything: it is a label: what it is worth is what the hold of that sum in a sandbox is worth. -/
noncomputable def Try.pinned : Pinned := { name := "ytlpkgngjofabaaa", sum := "dda62375c8e978503174749449c8d5219a60c14afe30ee39c26f1ff5161f5e19", checked := Try.checked }
namespace Rows
def none {H : Type} : Left H := { results := [], args := [] }

/-- 'chancellaw10.SaltSeals': WHATEVER THE INPUT: true; the input reads as it did. -/
def saltSealsSpec : ChangeSpec := { name := "saltSeals", fn := fun _ => fun
  | [d1, d2] => { results := [.lit (.bool true)], args := [d1, d2] }
  | _ => none }
def saltSealsRow : OpenClaim := { program := "ytlpkgngjofabaaa", sum := "dda62375c8e978503174749449c8d5219a60c14afe30ee39c26f1ff5161f5e19", func := "chancel/chancellaw10.SaltSeals", spec := "saltSeals", inPlace := ["internal/abi.NoEscape", "internal/bytealg.MakeNoZero"], apart := false }
def SaltSealsSaid : Prop := saltSealsRow.holds Try.pinned (OpenSpec.ofChange saltSealsSpec)

/-- ITS FALSE NEIGHBOUR: 'it returns false'. Refute it at one input. -/
def saltSealsWrong : ChangeSpec := { name := "saltSeals", fn := fun _ => fun
  | [d1, d2] => { results := [.lit (.bool false)], args := [d1, d2] }
  | _ => none }
def SaltSealsWrongFalsely : Prop := saltSealsRow.holds Try.pinned (OpenSpec.ofChange saltSealsWrong)

/-- 'chancellaw10.SaltFinds': WHATEVER THE INPUT: true; the input reads as it did. -/
def saltFindsSpec : ChangeSpec := { name := "saltFinds", fn := fun _ => fun
  | [d1, d2, d3] => { results := [.lit (.bool true)], args := [d1, d2, d3] }
  | _ => none }
def saltFindsRow : OpenClaim := { program := "ytlpkgngjofabaaa", sum := "dda62375c8e978503174749449c8d5219a60c14afe30ee39c26f1ff5161f5e19", func := "chancel/chancellaw10.SaltFinds", spec := "saltFinds", inPlace := ["internal/abi.NoEscape", "internal/bytealg.MakeNoZero"], unfollowed := true, recurses := true, apart := false }
def SaltFindsSaid : Prop := saltFindsRow.holds Try.pinned (OpenSpec.ofChange saltFindsSpec)

/-- ITS FALSE NEIGHBOUR: 'it returns false'. Refute it at one input. -/
def saltFindsWrong : ChangeSpec := { name := "saltFinds", fn := fun _ => fun
  | [d1, d2, d3] => { results := [.lit (.bool false)], args := [d1, d2, d3] }
  | _ => none }
def SaltFindsWrongFalsely : Prop := saltFindsRow.holds Try.pinned (OpenSpec.ofChange saltFindsWrong)

/- THE SECOND FORM. 'bulk': how many values and letters a reading holds, each counted each time it is reached (what is shared counts as often as it is met; a slice's spare places count too). A statement '..UptoSaid' is the law's where the arguments, and the package variables that the reading takes, are together of bulk at most 1048576: NARROWER than '..Said'. Prove '..Said' where nothing that the law and all that it calls make is longer than what came in: it says more and counts as full. Else prove '..UptoSaid'. A law counts once. -/
mutual
def uptoBulk {H : Type} : DataW H → Nat
  | .lit (.string bytes) => bytes.length + 1
  | .lit _ => 1
  | .nil => 1
  | .ptr d => uptoBulk d + 1
  | .slice elems spare => uptoBulkAll elems + uptoBulkAll spare + 1
  | .agg parts => uptoBulkAll parts + 1
  | .iface _ d => uptoBulk d + 1
  | .map entries => uptoBulkEntries entries + 1
  | .held _ => 1
def uptoBulkAll {H : Type} : List (DataW H) → Nat
  | [] => 0
  | d :: r => uptoBulk d + uptoBulkAll r
def uptoBulkEntries {H : Type} : List (Lit × DataW H) → Nat
  | [] => 0
  | x :: r => uptoBulkEntry x + uptoBulkEntries r
def uptoBulkEntry {H : Type} : Lit × DataW H → Nat
  | (.string bytes, d) => bytes.length + uptoBulk d + 1
  | (_, d) => uptoBulk d + 1
 end
def uptoSmall : (H : Type) → List (DataW H) → Bool := fun _ ds => decide (uptoBulkAll ds ≤ 1048576)
def OpenSpec.upto (s : _root_.Go.ChangeSpec) : _root_.Go.OpenSpec := { _root_.Go.OpenSpec.ofChange s with cond := some uptoSmall }

/-- 'chancellaw10.SaltSeals', WHERE WHAT IT READS IS OF BULK AT MOST 1048576: true; the input reads as it did. -/
def saltSealsUptoRow : OpenClaim := { program := "ytlpkgngjofabaaa", sum := "dda62375c8e978503174749449c8d5219a60c14afe30ee39c26f1ff5161f5e19", func := "chancel/chancellaw10.SaltSeals", spec := "saltSeals", inPlace := ["internal/abi.NoEscape", "internal/bytealg.MakeNoZero"], apart := false, narrowed := true }
def SaltSealsUptoSaid : Prop := saltSealsUptoRow.holds Try.pinned (OpenSpec.upto saltSealsSpec)

/-- 'chancellaw10.SaltFinds', WHERE WHAT IT READS IS OF BULK AT MOST 1048576: true; the input reads as it did. -/
def saltFindsUptoRow : OpenClaim := { program := "ytlpkgngjofabaaa", sum := "dda62375c8e978503174749449c8d5219a60c14afe30ee39c26f1ff5161f5e19", func := "chancel/chancellaw10.SaltFinds", spec := "saltFinds", inPlace := ["internal/abi.NoEscape", "internal/bytealg.MakeNoZero"], unfollowed := true, recurses := true, apart := false, narrowed := true }
def SaltFindsUptoSaid : Prop := saltFindsUptoRow.holds Try.pinned (OpenSpec.upto saltFindsSpec)

end Rows
end Go.Proofs.Ytlpkgngjofabaaa
