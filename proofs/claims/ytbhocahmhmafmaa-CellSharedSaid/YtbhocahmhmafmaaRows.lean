/-
  No cell of these rows narrows 'for every input' (looked for: loops, veiled, ifaces, maps, wideKeys, modest, calm, conditions, laid).
  DERIVED. THE GIVEN ROWS OF THIS SEAT. 4 by the template 'for every input the law returns true; each argument reads behind the call as it read before'; 0 by the template 'total and deterministic' (their statements: YtbhocahmhmafmaaTotals.lean).
  GIVEN WITH THE SEED: the statements are not yours to turn. If you find one false, say at which input.
  Laid BY PROGRAM, IN A SANDBOX (cutbox-rows.mjs): the forced cells as the released guide's own fill.sh prints them over the translation 161b47d5ce5fcd55… (all of the seat's roots in one cut). By AI agents, Wed Nov 11 2026. No macro, syntax, notation, axiom, sorry.
-/
import Derived.Test.YtbhocahmhmafmaaChecked
import GoSem.Claim
import GoSem.ClaimJoined
import GoSem.ClaimMapViews
import Derived.JoinedTies
import Derived.KernelRfl
namespace Go.Proofs.Ytbhocahmhmafmaa
/- THE CELL 'sum', in the pinned program and in every row, IS THE sha256 OF THE DUMP (.gsa) THAT YtbhocahmhmafmaaProg.lean LOADS. Nothing in Lean hashes anything: it is a label: what it is worth is what the hold of that sum in a sandbox is worth. -/
noncomputable def Try.pinned : Pinned := { name := "ytbhocahmhmafmaa", sum := "161b47d5ce5fcd551fab8d27cde1751735278ce9ef04fecea246c843ecc36384", checked := Try.checked }
namespace Rows
def none {H : Type} : Left H := { results := [], args := [] }

/-- 'renlaw20.SharedOwn': WHATEVER THE INPUT: true; the input reads as it did. -/
def sharedOwnSpec : ChangeSpec := { name := "sharedOwn", fn := fun _ => fun
  | [d1, d2, d3, d4, d5] => { results := [.lit (.bool true)], args := [d1, d2, d3, d4, d5] }
  | _ => none }
def sharedOwnRow : OpenClaim := { program := "ytbhocahmhmafmaa", sum := "161b47d5ce5fcd551fab8d27cde1751735278ce9ef04fecea246c843ecc36384", func := "rendezvous/renlaw20.SharedOwn", spec := "sharedOwn", recurses := true, apart := false }
def SharedOwnSaid : Prop := sharedOwnRow.holds Try.pinned (OpenSpec.ofChange sharedOwnSpec)

/-- ITS FALSE NEIGHBOUR: 'it returns false'. Refute it at one input. -/
def sharedOwnWrong : ChangeSpec := { name := "sharedOwn", fn := fun _ => fun
  | [d1, d2, d3, d4, d5] => { results := [.lit (.bool false)], args := [d1, d2, d3, d4, d5] }
  | _ => none }
def SharedOwnWrongFalsely : Prop := sharedOwnRow.holds Try.pinned (OpenSpec.ofChange sharedOwnWrong)

/-- 'renlaw20.SharedRefused': WHATEVER THE INPUT: true; the input reads as it did. -/
def sharedRefusedSpec : ChangeSpec := { name := "sharedRefused", fn := fun _ => fun
  | [d1, d2, d3] => { results := [.lit (.bool true)], args := [d1, d2, d3] }
  | _ => none }
def sharedRefusedRow : OpenClaim := { program := "ytbhocahmhmafmaa", sum := "161b47d5ce5fcd551fab8d27cde1751735278ce9ef04fecea246c843ecc36384", func := "rendezvous/renlaw20.SharedRefused", spec := "sharedRefused", recurses := true, apart := false }
def SharedRefusedSaid : Prop := sharedRefusedRow.holds Try.pinned (OpenSpec.ofChange sharedRefusedSpec)

/-- ITS FALSE NEIGHBOUR: 'it returns false'. Refute it at one input. -/
def sharedRefusedWrong : ChangeSpec := { name := "sharedRefused", fn := fun _ => fun
  | [d1, d2, d3] => { results := [.lit (.bool false)], args := [d1, d2, d3] }
  | _ => none }
def SharedRefusedWrongFalsely : Prop := sharedRefusedRow.holds Try.pinned (OpenSpec.ofChange sharedRefusedWrong)

/-- 'renlaw20.SharedSees': WHATEVER THE INPUT: true; the input reads as it did. -/
def sharedSeesSpec : ChangeSpec := { name := "sharedSees", fn := fun _ => fun
  | [d1, d2, d3] => { results := [.lit (.bool true)], args := [d1, d2, d3] }
  | _ => none }
def sharedSeesRow : OpenClaim := { program := "ytbhocahmhmafmaa", sum := "161b47d5ce5fcd551fab8d27cde1751735278ce9ef04fecea246c843ecc36384", func := "rendezvous/renlaw20.SharedSees", spec := "sharedSees", recurses := true, apart := false }
def SharedSeesSaid : Prop := sharedSeesRow.holds Try.pinned (OpenSpec.ofChange sharedSeesSpec)

/-- ITS FALSE NEIGHBOUR: 'it returns false'. Refute it at one input. -/
def sharedSeesWrong : ChangeSpec := { name := "sharedSees", fn := fun _ => fun
  | [d1, d2, d3] => { results := [.lit (.bool false)], args := [d1, d2, d3] }
  | _ => none }
def SharedSeesWrongFalsely : Prop := sharedSeesRow.holds Try.pinned (OpenSpec.ofChange sharedSeesWrong)

/-- 'renlaw21.CellShared': WHATEVER THE INPUT: true; the input reads as it did. -/
def cellSharedSpec : ChangeSpec := { name := "cellShared", fn := fun _ => fun
  | [d1, d2, d3, d4, d5, d6] => { results := [.lit (.bool true)], args := [d1, d2, d3, d4, d5, d6] }
  | _ => none }
def cellSharedRow : OpenClaim := { program := "ytbhocahmhmafmaa", sum := "161b47d5ce5fcd551fab8d27cde1751735278ce9ef04fecea246c843ecc36384", func := "rendezvous/renlaw21.CellShared", spec := "cellShared", recurses := true, apart := false }
def CellSharedSaid : Prop := cellSharedRow.holds Try.pinned (OpenSpec.ofChange cellSharedSpec)

/-- ITS FALSE NEIGHBOUR: 'it returns false'. Refute it at one input. -/
def cellSharedWrong : ChangeSpec := { name := "cellShared", fn := fun _ => fun
  | [d1, d2, d3, d4, d5, d6] => { results := [.lit (.bool false)], args := [d1, d2, d3, d4, d5, d6] }
  | _ => none }
def CellSharedWrongFalsely : Prop := cellSharedRow.holds Try.pinned (OpenSpec.ofChange cellSharedWrong)

/- THE SECOND FORM. 'bulk': how many values and letters a reading holds, each counted each time it is reached (what is shared counts as often as it is met; a slice's spare places count too). A statement '..UptoSaid' is the law's where the arguments, and the package variables that the reading takes, are together of bulk at most 1048576: NARROWER than '..Said'. Prove '..Said' where nothing that the law and all that it calls make is longer than what came in: it says more and counts as full. Else prove '..UptoSaid'. A law counts once. -/
mutual
def uptoBulk {H : Type} : DataW H → Nat
  | .lit (.string bytes) => bytes.length + 1
  | .lit _ => 1
  | .nil => 1
  | .ptr d => uptoBulk d + 1
  | .slice elems spare => uptoBulkAll elems + uptoBulkAll spare + 1
  | .agg parts => uptoBulkAll parts + 1
  | .iface _ d => uptoBulk d + 1
  | .map entries => uptoBulkEntries entries + 1
  | .held _ => 1
def uptoBulkAll {H : Type} : List (DataW H) → Nat
  | [] => 0
  | d :: r => uptoBulk d + uptoBulkAll r
def uptoBulkEntries {H : Type} : List (Lit × DataW H) → Nat
  | [] => 0
  | x :: r => uptoBulkEntry x + uptoBulkEntries r
def uptoBulkEntry {H : Type} : Lit × DataW H → Nat
  | (.string bytes, d) => bytes.length + uptoBulk d + 1
  | (_, d) => uptoBulk d + 1
 end
def uptoSmall : (H : Type) → List (DataW H) → Bool := fun _ ds => decide (uptoBulkAll ds ≤ 1048576)
def OpenSpec.upto (s : _root_.Go.ChangeSpec) : _root_.Go.OpenSpec := { _root_.Go.OpenSpec.ofChange s with cond := some uptoSmall }

/-- 'renlaw20.SharedOwn', WHERE WHAT IT READS IS OF BULK AT MOST 1048576: true; the input reads as it did. -/
def sharedOwnUptoRow : OpenClaim := { program := "ytbhocahmhmafmaa", sum := "161b47d5ce5fcd551fab8d27cde1751735278ce9ef04fecea246c843ecc36384", func := "rendezvous/renlaw20.SharedOwn", spec := "sharedOwn", recurses := true, apart := false, narrowed := true }
def SharedOwnUptoSaid : Prop := sharedOwnUptoRow.holds Try.pinned (OpenSpec.upto sharedOwnSpec)

/-- 'renlaw20.SharedRefused', WHERE WHAT IT READS IS OF BULK AT MOST 1048576: true; the input reads as it did. -/
def sharedRefusedUptoRow : OpenClaim := { program := "ytbhocahmhmafmaa", sum := "161b47d5ce5fcd551fab8d27cde1751735278ce9ef04fecea246c843ecc36384", func := "rendezvous/renlaw20.SharedRefused", spec := "sharedRefused", recurses := true, apart := false, narrowed := true }
def SharedRefusedUptoSaid : Prop := sharedRefusedUptoRow.holds Try.pinned (OpenSpec.upto sharedRefusedSpec)

/-- 'renlaw20.SharedSees', WHERE WHAT IT READS IS OF BULK AT MOST 1048576: true; the input reads as it did. -/
def sharedSeesUptoRow : OpenClaim := { program := "ytbhocahmhmafmaa", sum := "161b47d5ce5fcd551fab8d27cde1751735278ce9ef04fecea246c843ecc36384", func := "rendezvous/renlaw20.SharedSees", spec := "sharedSees", recurses := true, apart := false, narrowed := true }
def SharedSeesUptoSaid : Prop := sharedSeesUptoRow.holds Try.pinned (OpenSpec.upto sharedSeesSpec)

/-- 'renlaw21.CellShared', WHERE WHAT IT READS IS OF BULK AT MOST 1048576: true; the input reads as it did. -/
def cellSharedUptoRow : OpenClaim := { program := "ytbhocahmhmafmaa", sum := "161b47d5ce5fcd551fab8d27cde1751735278ce9ef04fecea246c843ecc36384", func := "rendezvous/renlaw21.CellShared", spec := "cellShared", recurses := true, apart := false, narrowed := true }
def CellSharedUptoSaid : Prop := cellSharedUptoRow.holds Try.pinned (OpenSpec.upto cellSharedSpec)

end Rows
end Go.Proofs.Ytbhocahmhmafmaa
