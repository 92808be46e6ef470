/-
  No cell of these rows narrows 'for every input' (looked for: loops, veiled, ifaces, maps, wideKeys, modest, calm, conditions, laid).
  DERIVED. THE GIVEN ROWS OF THIS SEAT. 10 by the template 'for every input the law returns true; each argument reads behind the call as it read before'; 0 by the template 'total and deterministic' (their statements: YthmkcgiiakinmaaTotals.lean).
  GIVEN WITH THE SEED: the statements are not yours to turn. If you find one false, say at which input.
  Laid BY PROGRAM, IN A SANDBOX (cutbox-rows.mjs): the forced cells as the released guide's own fill.sh prints them over the translation 49e95a2aae2ad979… (all of the seat's roots in one cut). By AI agents, Wed Nov 11 2026. No macro, syntax, notation, axiom, sorry.
-/
import Derived.Test.YthmkcgiiakinmaaChecked
import GoSem.Claim
import GoSem.ClaimJoined
import GoSem.ClaimMapViews
import Derived.JoinedTies
import Derived.KernelRfl
namespace Go.Proofs.Ythmkcgiiakinmaa
/- THE CELL 'sum', in the pinned program and in every row, IS THE sha256 OF THE DUMP (.gsa) THAT YthmkcgiiakinmaaProg.lean LOADS. Nothing in Lean hashes anything: it is a label: what it is worth is what the hold of that sum in a sandbox is worth. -/
noncomputable def Try.pinned : Pinned := { name := "ythmkcgiiakinmaa", sum := "49e95a2aae2ad979b3ce905c2cf8f079eb2517df057fefe09c463c28a9db3b19", checked := Try.checked }
namespace Rows
def none {H : Type} : Left H := { results := [], args := [] }

/-- 'renlaw17.RaceFinds': WHATEVER THE INPUT: true; the input reads as it did. -/
def raceFindsSpec : ChangeSpec := { name := "raceFinds", fn := fun _ => fun
  | [d1, d2, d3] => { results := [.lit (.bool true)], args := [d1, d2, d3] }
  | _ => none }
def raceFindsRow : OpenClaim := { program := "ythmkcgiiakinmaa", sum := "49e95a2aae2ad979b3ce905c2cf8f079eb2517df057fefe09c463c28a9db3b19", func := "rendezvous/renlaw17.RaceFinds", spec := "raceFinds", apart := false }
def RaceFindsSaid : Prop := raceFindsRow.holds Try.pinned (OpenSpec.ofChange raceFindsSpec)

/-- ITS FALSE NEIGHBOUR: 'it returns false'. Refute it at one input. -/
def raceFindsWrong : ChangeSpec := { name := "raceFinds", fn := fun _ => fun
  | [d1, d2, d3] => { results := [.lit (.bool false)], args := [d1, d2, d3] }
  | _ => none }
def RaceFindsWrongFalsely : Prop := raceFindsRow.holds Try.pinned (OpenSpec.ofChange raceFindsWrong)

/-- 'renlaw17.RaceTurns': WHATEVER THE INPUT: true; the input reads as it did. -/
def raceTurnsSpec : ChangeSpec := { name := "raceTurns", fn := fun _ => fun
  | [d1, d2, d3] => { results := [.lit (.bool true)], args := [d1, d2, d3] }
  | _ => none }
def raceTurnsRow : OpenClaim := { program := "ythmkcgiiakinmaa", sum := "49e95a2aae2ad979b3ce905c2cf8f079eb2517df057fefe09c463c28a9db3b19", func := "rendezvous/renlaw17.RaceTurns", spec := "raceTurns", apart := false }
def RaceTurnsSaid : Prop := raceTurnsRow.holds Try.pinned (OpenSpec.ofChange raceTurnsSpec)

/-- ITS FALSE NEIGHBOUR: 'it returns false'. Refute it at one input. -/
def raceTurnsWrong : ChangeSpec := { name := "raceTurns", fn := fun _ => fun
  | [d1, d2, d3] => { results := [.lit (.bool false)], args := [d1, d2, d3] }
  | _ => none }
def RaceTurnsWrongFalsely : Prop := raceTurnsRow.holds Try.pinned (OpenSpec.ofChange raceTurnsWrong)

/-- 'renlaw17.RaceHeads': WHATEVER THE INPUT: true; the input reads as it did. -/
def raceHeadsSpec : ChangeSpec := { name := "raceHeads", fn := fun _ => fun
  | [d1, d2] => { results := [.lit (.bool true)], args := [d1, d2] }
  | _ => none }
def raceHeadsRow : OpenClaim := { program := "ythmkcgiiakinmaa", sum := "49e95a2aae2ad979b3ce905c2cf8f079eb2517df057fefe09c463c28a9db3b19", func := "rendezvous/renlaw17.RaceHeads", spec := "raceHeads", apart := false }
def RaceHeadsSaid : Prop := raceHeadsRow.holds Try.pinned (OpenSpec.ofChange raceHeadsSpec)

/-- ITS FALSE NEIGHBOUR: 'it returns false'. Refute it at one input. -/
def raceHeadsWrong : ChangeSpec := { name := "raceHeads", fn := fun _ => fun
  | [d1, d2] => { results := [.lit (.bool false)], args := [d1, d2] }
  | _ => none }
def RaceHeadsWrongFalsely : Prop := raceHeadsRow.holds Try.pinned (OpenSpec.ofChange raceHeadsWrong)

/-- 'renlaw17.RaceSeq': WHATEVER THE INPUT: true; the input reads as it did. -/
def raceSeqSpec : ChangeSpec := { name := "raceSeq", fn := fun _ => fun
  | [d1, d2, d3] => { results := [.lit (.bool true)], args := [d1, d2, d3] }
  | _ => none }
def raceSeqRow : OpenClaim := { program := "ythmkcgiiakinmaa", sum := "49e95a2aae2ad979b3ce905c2cf8f079eb2517df057fefe09c463c28a9db3b19", func := "rendezvous/renlaw17.RaceSeq", spec := "raceSeq", apart := false }
def RaceSeqSaid : Prop := raceSeqRow.holds Try.pinned (OpenSpec.ofChange raceSeqSpec)

/-- ITS FALSE NEIGHBOUR: 'it returns false'. Refute it at one input. -/
def raceSeqWrong : ChangeSpec := { name := "raceSeq", fn := fun _ => fun
  | [d1, d2, d3] => { results := [.lit (.bool false)], args := [d1, d2, d3] }
  | _ => none }
def RaceSeqWrongFalsely : Prop := raceSeqRow.holds Try.pinned (OpenSpec.ofChange raceSeqWrong)

/-- 'renlaw21.CellReplays': WHATEVER THE INPUT: true; the input reads as it did. -/
def cellReplaysSpec : ChangeSpec := { name := "cellReplays", fn := fun _ => fun
  | [d1, d2, d3, d4] => { results := [.lit (.bool true)], args := [d1, d2, d3, d4] }
  | _ => none }
def cellReplaysRow : OpenClaim := { program := "ythmkcgiiakinmaa", sum := "49e95a2aae2ad979b3ce905c2cf8f079eb2517df057fefe09c463c28a9db3b19", func := "rendezvous/renlaw21.CellReplays", spec := "cellReplays", apart := false }
def CellReplaysSaid : Prop := cellReplaysRow.holds Try.pinned (OpenSpec.ofChange cellReplaysSpec)

/-- ITS FALSE NEIGHBOUR: 'it returns false'. Refute it at one input. -/
def cellReplaysWrong : ChangeSpec := { name := "cellReplays", fn := fun _ => fun
  | [d1, d2, d3, d4] => { results := [.lit (.bool false)], args := [d1, d2, d3, d4] }
  | _ => none }
def CellReplaysWrongFalsely : Prop := cellReplaysRow.holds Try.pinned (OpenSpec.ofChange cellReplaysWrong)

/-- 'renlaw16.ModelJudges': WHATEVER THE INPUT: true; the input reads as it did. -/
def modelJudgesSpec : ChangeSpec := { name := "modelJudges", fn := fun _ => fun
  | [d1, d2] => { results := [.lit (.bool true)], args := [d1, d2] }
  | _ => none }
def modelJudgesRow : OpenClaim := { program := "ythmkcgiiakinmaa", sum := "49e95a2aae2ad979b3ce905c2cf8f079eb2517df057fefe09c463c28a9db3b19", func := "rendezvous/renlaw16.ModelJudges", spec := "modelJudges", apart := false }
def ModelJudgesSaid : Prop := modelJudgesRow.holds Try.pinned (OpenSpec.ofChange modelJudgesSpec)

/-- ITS FALSE NEIGHBOUR: 'it returns false'. Refute it at one input. -/
def modelJudgesWrong : ChangeSpec := { name := "modelJudges", fn := fun _ => fun
  | [d1, d2] => { results := [.lit (.bool false)], args := [d1, d2] }
  | _ => none }
def ModelJudgesWrongFalsely : Prop := modelJudgesRow.holds Try.pinned (OpenSpec.ofChange modelJudgesWrong)

/-- 'renlaw16.ModelFlat': WHATEVER THE INPUT: true; the input reads as it did. -/
def modelFlatSpec : ChangeSpec := { name := "modelFlat", fn := fun _ => fun
  | [d1, d2, d3, d4] => { results := [.lit (.bool true)], args := [d1, d2, d3, d4] }
  | _ => none }
def modelFlatRow : OpenClaim := { program := "ythmkcgiiakinmaa", sum := "49e95a2aae2ad979b3ce905c2cf8f079eb2517df057fefe09c463c28a9db3b19", func := "rendezvous/renlaw16.ModelFlat", spec := "modelFlat", apart := false }
def ModelFlatSaid : Prop := modelFlatRow.holds Try.pinned (OpenSpec.ofChange modelFlatSpec)

/-- ITS FALSE NEIGHBOUR: 'it returns false'. Refute it at one input. -/
def modelFlatWrong : ChangeSpec := { name := "modelFlat", fn := fun _ => fun
  | [d1, d2, d3, d4] => { results := [.lit (.bool false)], args := [d1, d2, d3, d4] }
  | _ => none }
def ModelFlatWrongFalsely : Prop := modelFlatRow.holds Try.pinned (OpenSpec.ofChange modelFlatWrong)

/-- 'renlaw16.ModelOrders': WHATEVER THE INPUT: true; the input reads as it did. -/
def modelOrdersSpec : ChangeSpec := { name := "modelOrders", fn := fun _ => fun
  | [d1, d2, d3] => { results := [.lit (.bool true)], args := [d1, d2, d3] }
  | _ => none }
def modelOrdersRow : OpenClaim := { program := "ythmkcgiiakinmaa", sum := "49e95a2aae2ad979b3ce905c2cf8f079eb2517df057fefe09c463c28a9db3b19", func := "rendezvous/renlaw16.ModelOrders", spec := "modelOrders", apart := false }
def ModelOrdersSaid : Prop := modelOrdersRow.holds Try.pinned (OpenSpec.ofChange modelOrdersSpec)

/-- ITS FALSE NEIGHBOUR: 'it returns false'. Refute it at one input. -/
def modelOrdersWrong : ChangeSpec := { name := "modelOrders", fn := fun _ => fun
  | [d1, d2, d3] => { results := [.lit (.bool false)], args := [d1, d2, d3] }
  | _ => none }
def ModelOrdersWrongFalsely : Prop := modelOrdersRow.holds Try.pinned (OpenSpec.ofChange modelOrdersWrong)

/-- 'renlaw16.ModelSeq': WHATEVER THE INPUT: true; the input reads as it did. -/
def modelSeqSpec : ChangeSpec := { name := "modelSeq", fn := fun _ => fun
  | [d] => { results := [.lit (.bool true)], args := [d] }
  | _ => none }
def modelSeqRow : OpenClaim := { program := "ythmkcgiiakinmaa", sum := "49e95a2aae2ad979b3ce905c2cf8f079eb2517df057fefe09c463c28a9db3b19", func := "rendezvous/renlaw16.ModelSeq", spec := "modelSeq", apart := false }
def ModelSeqSaid : Prop := modelSeqRow.holds Try.pinned (OpenSpec.ofChange modelSeqSpec)

/-- ITS FALSE NEIGHBOUR: 'it returns false'. Refute it at one input. -/
def modelSeqWrong : ChangeSpec := { name := "modelSeq", fn := fun _ => fun
  | [d] => { results := [.lit (.bool false)], args := [d] }
  | _ => none }
def ModelSeqWrongFalsely : Prop := modelSeqRow.holds Try.pinned (OpenSpec.ofChange modelSeqWrong)

/-- 'renlaw16.ModelHeads': WHATEVER THE INPUT: true; the input reads as it did. -/
def modelHeadsSpec : ChangeSpec := { name := "modelHeads", fn := fun _ => fun
  | [d1, d2] => { results := [.lit (.bool true)], args := [d1, d2] }
  | _ => none }
def modelHeadsRow : OpenClaim := { program := "ythmkcgiiakinmaa", sum := "49e95a2aae2ad979b3ce905c2cf8f079eb2517df057fefe09c463c28a9db3b19", func := "rendezvous/renlaw16.ModelHeads", spec := "modelHeads", apart := false }
def ModelHeadsSaid : Prop := modelHeadsRow.holds Try.pinned (OpenSpec.ofChange modelHeadsSpec)

/-- ITS FALSE NEIGHBOUR: 'it returns false'. Refute it at one input. -/
def modelHeadsWrong : ChangeSpec := { name := "modelHeads", fn := fun _ => fun
  | [d1, d2] => { results := [.lit (.bool false)], args := [d1, d2] }
  | _ => none }
def ModelHeadsWrongFalsely : Prop := modelHeadsRow.holds Try.pinned (OpenSpec.ofChange modelHeadsWrong)

/- THE SECOND FORM. 'bulk': how many values and letters a reading holds, each counted each time it is reached (what is shared counts as often as it is met; a slice's spare places count too). A statement '..UptoSaid' is the law's where the arguments, and the package variables that the reading takes, are together of bulk at most 1048576: NARROWER than '..Said'. Prove '..Said' where nothing that the law and all that it calls make is longer than what came in: it says more and counts as full. Else prove '..UptoSaid'. A law counts once. -/
mutual
def uptoBulk {H : Type} : DataW H → Nat
  | .lit (.string bytes) => bytes.length + 1
  | .lit _ => 1
  | .nil => 1
  | .ptr d => uptoBulk d + 1
  | .slice elems spare => uptoBulkAll elems + uptoBulkAll spare + 1
  | .agg parts => uptoBulkAll parts + 1
  | .iface _ d => uptoBulk d + 1
  | .map entries => uptoBulkEntries entries + 1
  | .held _ => 1
def uptoBulkAll {H : Type} : List (DataW H) → Nat
  | [] => 0
  | d :: r => uptoBulk d + uptoBulkAll r
def uptoBulkEntries {H : Type} : List (Lit × DataW H) → Nat
  | [] => 0
  | x :: r => uptoBulkEntry x + uptoBulkEntries r
def uptoBulkEntry {H : Type} : Lit × DataW H → Nat
  | (.string bytes, d) => bytes.length + uptoBulk d + 1
  | (_, d) => uptoBulk d + 1
 end
def uptoSmall : (H : Type) → List (DataW H) → Bool := fun _ ds => decide (uptoBulkAll ds ≤ 1048576)
def OpenSpec.upto (s : _root_.Go.ChangeSpec) : _root_.Go.OpenSpec := { _root_.Go.OpenSpec.ofChange s with cond := some uptoSmall }

/-- 'renlaw17.RaceFinds', WHERE WHAT IT READS IS OF BULK AT MOST 1048576: true; the input reads as it did. -/
def raceFindsUptoRow : OpenClaim := { program := "ythmkcgiiakinmaa", sum := "49e95a2aae2ad979b3ce905c2cf8f079eb2517df057fefe09c463c28a9db3b19", func := "rendezvous/renlaw17.RaceFinds", spec := "raceFinds", apart := false, narrowed := true }
def RaceFindsUptoSaid : Prop := raceFindsUptoRow.holds Try.pinned (OpenSpec.upto raceFindsSpec)

/-- 'renlaw17.RaceTurns', WHERE WHAT IT READS IS OF BULK AT MOST 1048576: true; the input reads as it did. -/
def raceTurnsUptoRow : OpenClaim := { program := "ythmkcgiiakinmaa", sum := "49e95a2aae2ad979b3ce905c2cf8f079eb2517df057fefe09c463c28a9db3b19", func := "rendezvous/renlaw17.RaceTurns", spec := "raceTurns", apart := false, narrowed := true }
def RaceTurnsUptoSaid : Prop := raceTurnsUptoRow.holds Try.pinned (OpenSpec.upto raceTurnsSpec)

/-- 'renlaw17.RaceHeads', WHERE WHAT IT READS IS OF BULK AT MOST 1048576: true; the input reads as it did. -/
def raceHeadsUptoRow : OpenClaim := { program := "ythmkcgiiakinmaa", sum := "49e95a2aae2ad979b3ce905c2cf8f079eb2517df057fefe09c463c28a9db3b19", func := "rendezvous/renlaw17.RaceHeads", spec := "raceHeads", apart := false, narrowed := true }
def RaceHeadsUptoSaid : Prop := raceHeadsUptoRow.holds Try.pinned (OpenSpec.upto raceHeadsSpec)

/-- 'renlaw17.RaceSeq', WHERE WHAT IT READS IS OF BULK AT MOST 1048576: true; the input reads as it did. -/
def raceSeqUptoRow : OpenClaim := { program := "ythmkcgiiakinmaa", sum := "49e95a2aae2ad979b3ce905c2cf8f079eb2517df057fefe09c463c28a9db3b19", func := "rendezvous/renlaw17.RaceSeq", spec := "raceSeq", apart := false, narrowed := true }
def RaceSeqUptoSaid : Prop := raceSeqUptoRow.holds Try.pinned (OpenSpec.upto raceSeqSpec)

/-- 'renlaw21.CellReplays', WHERE WHAT IT READS IS OF BULK AT MOST 1048576: true; the input reads as it did. -/
def cellReplaysUptoRow : OpenClaim := { program := "ythmkcgiiakinmaa", sum := "49e95a2aae2ad979b3ce905c2cf8f079eb2517df057fefe09c463c28a9db3b19", func := "rendezvous/renlaw21.CellReplays", spec := "cellReplays", apart := false, narrowed := true }
def CellReplaysUptoSaid : Prop := cellReplaysUptoRow.holds Try.pinned (OpenSpec.upto cellReplaysSpec)

/-- 'renlaw16.ModelJudges', WHERE WHAT IT READS IS OF BULK AT MOST 1048576: true; the input reads as it did. -/
def modelJudgesUptoRow : OpenClaim := { program := "ythmkcgiiakinmaa", sum := "49e95a2aae2ad979b3ce905c2cf8f079eb2517df057fefe09c463c28a9db3b19", func := "rendezvous/renlaw16.ModelJudges", spec := "modelJudges", apart := false, narrowed := true }
def ModelJudgesUptoSaid : Prop := modelJudgesUptoRow.holds Try.pinned (OpenSpec.upto modelJudgesSpec)

/-- 'renlaw16.ModelFlat', WHERE WHAT IT READS IS OF BULK AT MOST 1048576: true; the input reads as it did. -/
def modelFlatUptoRow : OpenClaim := { program := "ythmkcgiiakinmaa", sum := "49e95a2aae2ad979b3ce905c2cf8f079eb2517df057fefe09c463c28a9db3b19", func := "rendezvous/renlaw16.ModelFlat", spec := "modelFlat", apart := false, narrowed := true }
def ModelFlatUptoSaid : Prop := modelFlatUptoRow.holds Try.pinned (OpenSpec.upto modelFlatSpec)

/-- 'renlaw16.ModelOrders', WHERE WHAT IT READS IS OF BULK AT MOST 1048576: true; the input reads as it did. -/
def modelOrdersUptoRow : OpenClaim := { program := "ythmkcgiiakinmaa", sum := "49e95a2aae2ad979b3ce905c2cf8f079eb2517df057fefe09c463c28a9db3b19", func := "rendezvous/renlaw16.ModelOrders", spec := "modelOrders", apart := false, narrowed := true }
def ModelOrdersUptoSaid : Prop := modelOrdersUptoRow.holds Try.pinned (OpenSpec.upto modelOrdersSpec)

/-- 'renlaw16.ModelSeq', WHERE WHAT IT READS IS OF BULK AT MOST 1048576: true; the input reads as it did. -/
def modelSeqUptoRow : OpenClaim := { program := "ythmkcgiiakinmaa", sum := "49e95a2aae2ad979b3ce905c2cf8f079eb2517df057fefe09c463c28a9db3b19", func := "rendezvous/renlaw16.ModelSeq", spec := "modelSeq", apart := false, narrowed := true }
def ModelSeqUptoSaid : Prop := modelSeqUptoRow.holds Try.pinned (OpenSpec.upto modelSeqSpec)

/-- 'renlaw16.ModelHeads', WHERE WHAT IT READS IS OF BULK AT MOST 1048576: true; the input reads as it did. -/
def modelHeadsUptoRow : OpenClaim := { program := "ythmkcgiiakinmaa", sum := "49e95a2aae2ad979b3ce905c2cf8f079eb2517df057fefe09c463c28a9db3b19", func := "rendezvous/renlaw16.ModelHeads", spec := "modelHeads", apart := false, narrowed := true }
def ModelHeadsUptoSaid : Prop := modelHeadsUptoRow.holds Try.pinned (OpenSpec.upto modelHeadsSpec)

end Rows
end Go.Proofs.Ythmkcgiiakinmaa
