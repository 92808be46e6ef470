/-
  No cell of these rows narrows 'for every input' (looked for: loops, veiled, ifaces, maps, wideKeys, modest, calm, conditions, laid).
  DERIVED. THE GIVEN ROWS OF THIS SEAT. 10 by the template 'for every input the law returns true; each argument reads behind the call as it read before'; 0 by the template 'total and deterministic' (their statements: YtnnciakdeoopaaaTotals.lean).
  GIVEN WITH THE SEED: the statements are not yours to turn. If you find one false, say at which input.
  Laid BY PROGRAM, IN A SANDBOX (cutbox-rows.mjs): the forced cells as the released guide's own fill.sh prints them over the translation b27108f72b75e080… (all of the seat's roots in one cut). By AI agents, Wed Nov 11 2026. No macro, syntax, notation, axiom, sorry.
-/
import Derived.Test.YtnnciakdeoopaaaChecked
import GoSem.Claim
import GoSem.ClaimJoined
import GoSem.ClaimMapViews
import Derived.JoinedTies
import Derived.KernelRfl
namespace Go.Proofs.Ytnnciakdeoopaaa
/- THE CELL 'sum', in the pinned program and in every row, IS THE sha256 OF THE DUMP (.gsa) THAT YtnnciakdeoopaaaProg.lean LOADS. Nothing in Lean hashes anything: it is a label: what it is worth is what the hold of that sum in a sandbox is worth. -/
noncomputable def Try.pinned : Pinned := { name := "ytnnciakdeoopaaa", sum := "b27108f72b75e080d7cfdda340193a7d44a87fe4bad1679fecfec88e9bdb568b", checked := Try.checked }
namespace Rows
def none {H : Type} : Left H := { results := [], args := [] }

/-- 'renlaw19.FifoParts': WHATEVER THE INPUT: true; the input reads as it did. -/
def fifoPartsSpec : ChangeSpec := { name := "fifoParts", fn := fun _ => fun
  | [d1, d2, d3] => { results := [.lit (.bool true)], args := [d1, d2, d3] }
  | _ => none }
def fifoPartsRow : OpenClaim := { program := "ytnnciakdeoopaaa", sum := "b27108f72b75e080d7cfdda340193a7d44a87fe4bad1679fecfec88e9bdb568b", func := "rendezvous/renlaw19.FifoParts", spec := "fifoParts", apart := false }
def FifoPartsSaid : Prop := fifoPartsRow.holds Try.pinned (OpenSpec.ofChange fifoPartsSpec)

/-- ITS FALSE NEIGHBOUR: 'it returns false'. Refute it at one input. -/
def fifoPartsWrong : ChangeSpec := { name := "fifoParts", fn := fun _ => fun
  | [d1, d2, d3] => { results := [.lit (.bool false)], args := [d1, d2, d3] }
  | _ => none }
def FifoPartsWrongFalsely : Prop := fifoPartsRow.holds Try.pinned (OpenSpec.ofChange fifoPartsWrong)

/-- 'renlaw18.BlockKeeps': WHATEVER THE INPUT: true; the input reads as it did. -/
def blockKeepsSpec : ChangeSpec := { name := "blockKeeps", fn := fun _ => fun
  | [d1, d2, d3, d4, d5, d6, d7] => { results := [.lit (.bool true)], args := [d1, d2, d3, d4, d5, d6, d7] }
  | _ => none }
def blockKeepsRow : OpenClaim := { program := "ytnnciakdeoopaaa", sum := "b27108f72b75e080d7cfdda340193a7d44a87fe4bad1679fecfec88e9bdb568b", func := "rendezvous/renlaw18.BlockKeeps", spec := "blockKeeps", apart := false }
def BlockKeepsSaid : Prop := blockKeepsRow.holds Try.pinned (OpenSpec.ofChange blockKeepsSpec)

/-- ITS FALSE NEIGHBOUR: 'it returns false'. Refute it at one input. -/
def blockKeepsWrong : ChangeSpec := { name := "blockKeeps", fn := fun _ => fun
  | [d1, d2, d3, d4, d5, d6, d7] => { results := [.lit (.bool false)], args := [d1, d2, d3, d4, d5, d6, d7] }
  | _ => none }
def BlockKeepsWrongFalsely : Prop := blockKeepsRow.holds Try.pinned (OpenSpec.ofChange blockKeepsWrong)

/-- 'renlaw18.BlockTwice': WHATEVER THE INPUT: true; the input reads as it did. -/
def blockTwiceSpec : ChangeSpec := { name := "blockTwice", fn := fun _ => fun
  | [d1, d2, d3, d4] => { results := [.lit (.bool true)], args := [d1, d2, d3, d4] }
  | _ => none }
def blockTwiceRow : OpenClaim := { program := "ytnnciakdeoopaaa", sum := "b27108f72b75e080d7cfdda340193a7d44a87fe4bad1679fecfec88e9bdb568b", func := "rendezvous/renlaw18.BlockTwice", spec := "blockTwice", apart := false }
def BlockTwiceSaid : Prop := blockTwiceRow.holds Try.pinned (OpenSpec.ofChange blockTwiceSpec)

/-- ITS FALSE NEIGHBOUR: 'it returns false'. Refute it at one input. -/
def blockTwiceWrong : ChangeSpec := { name := "blockTwice", fn := fun _ => fun
  | [d1, d2, d3, d4] => { results := [.lit (.bool false)], args := [d1, d2, d3, d4] }
  | _ => none }
def BlockTwiceWrongFalsely : Prop := blockTwiceRow.holds Try.pinned (OpenSpec.ofChange blockTwiceWrong)

/-- 'renlaw18.BlockBounds': WHATEVER THE INPUT: true; the input reads as it did. -/
def blockBoundsSpec : ChangeSpec := { name := "blockBounds", fn := fun _ => fun
  | [d1, d2, d3] => { results := [.lit (.bool true)], args := [d1, d2, d3] }
  | _ => none }
def blockBoundsRow : OpenClaim := { program := "ytnnciakdeoopaaa", sum := "b27108f72b75e080d7cfdda340193a7d44a87fe4bad1679fecfec88e9bdb568b", func := "rendezvous/renlaw18.BlockBounds", spec := "blockBounds", apart := false }
def BlockBoundsSaid : Prop := blockBoundsRow.holds Try.pinned (OpenSpec.ofChange blockBoundsSpec)

/-- ITS FALSE NEIGHBOUR: 'it returns false'. Refute it at one input. -/
def blockBoundsWrong : ChangeSpec := { name := "blockBounds", fn := fun _ => fun
  | [d1, d2, d3] => { results := [.lit (.bool false)], args := [d1, d2, d3] }
  | _ => none }
def BlockBoundsWrongFalsely : Prop := blockBoundsRow.holds Try.pinned (OpenSpec.ofChange blockBoundsWrong)

/-- 'renlaw18.BlockMakes': WHATEVER THE INPUT: true; the input reads as it did. -/
def blockMakesSpec : ChangeSpec := { name := "blockMakes", fn := fun _ => fun
  | [d] => { results := [.lit (.bool true)], args := [d] }
  | _ => none }
def blockMakesRow : OpenClaim := { program := "ytnnciakdeoopaaa", sum := "b27108f72b75e080d7cfdda340193a7d44a87fe4bad1679fecfec88e9bdb568b", func := "rendezvous/renlaw18.BlockMakes", spec := "blockMakes", apart := false }
def BlockMakesSaid : Prop := blockMakesRow.holds Try.pinned (OpenSpec.ofChange blockMakesSpec)

/-- ITS FALSE NEIGHBOUR: 'it returns false'. Refute it at one input. -/
def blockMakesWrong : ChangeSpec := { name := "blockMakes", fn := fun _ => fun
  | [d] => { results := [.lit (.bool false)], args := [d] }
  | _ => none }
def BlockMakesWrongFalsely : Prop := blockMakesRow.holds Try.pinned (OpenSpec.ofChange blockMakesWrong)

/-- 'renlaw18.BlockPlays': WHATEVER THE INPUT: true; the input reads as it did. -/
def blockPlaysSpec : ChangeSpec := { name := "blockPlays", fn := fun _ => fun
  | [d] => { results := [.lit (.bool true)], args := [d] }
  | _ => none }
def blockPlaysRow : OpenClaim := { program := "ytnnciakdeoopaaa", sum := "b27108f72b75e080d7cfdda340193a7d44a87fe4bad1679fecfec88e9bdb568b", func := "rendezvous/renlaw18.BlockPlays", spec := "blockPlays", apart := false }
def BlockPlaysSaid : Prop := blockPlaysRow.holds Try.pinned (OpenSpec.ofChange blockPlaysSpec)

/-- ITS FALSE NEIGHBOUR: 'it returns false'. Refute it at one input. -/
def blockPlaysWrong : ChangeSpec := { name := "blockPlays", fn := fun _ => fun
  | [d] => { results := [.lit (.bool false)], args := [d] }
  | _ => none }
def BlockPlaysWrongFalsely : Prop := blockPlaysRow.holds Try.pinned (OpenSpec.ofChange blockPlaysWrong)

/-- 'renlaw4.ElemKinds': WHATEVER THE INPUT: true; the input reads as it did. -/
def elemKindsSpec : ChangeSpec := { name := "elemKinds", fn := fun _ => fun
  | [d1, d2] => { results := [.lit (.bool true)], args := [d1, d2] }
  | _ => none }
def elemKindsRow : OpenClaim := { program := "ytnnciakdeoopaaa", sum := "b27108f72b75e080d7cfdda340193a7d44a87fe4bad1679fecfec88e9bdb568b", func := "rendezvous/renlaw4.ElemKinds", spec := "elemKinds", unfollowed := true, recurses := true, apart := false }
def ElemKindsSaid : Prop := elemKindsRow.holds Try.pinned (OpenSpec.ofChange elemKindsSpec)

/-- ITS FALSE NEIGHBOUR: 'it returns false'. Refute it at one input. -/
def elemKindsWrong : ChangeSpec := { name := "elemKinds", fn := fun _ => fun
  | [d1, d2] => { results := [.lit (.bool false)], args := [d1, d2] }
  | _ => none }
def ElemKindsWrongFalsely : Prop := elemKindsRow.holds Try.pinned (OpenSpec.ofChange elemKindsWrong)

/-- 'renlaw19.FifoOrder': WHATEVER THE INPUT: true; the input reads as it did. -/
def fifoOrderSpec : ChangeSpec := { name := "fifoOrder", fn := fun _ => fun
  | [d1, d2] => { results := [.lit (.bool true)], args := [d1, d2] }
  | _ => none }
def fifoOrderRow : OpenClaim := { program := "ytnnciakdeoopaaa", sum := "b27108f72b75e080d7cfdda340193a7d44a87fe4bad1679fecfec88e9bdb568b", func := "rendezvous/renlaw19.FifoOrder", spec := "fifoOrder", apart := false }
def FifoOrderSaid : Prop := fifoOrderRow.holds Try.pinned (OpenSpec.ofChange fifoOrderSpec)

/-- ITS FALSE NEIGHBOUR: 'it returns false'. Refute it at one input. -/
def fifoOrderWrong : ChangeSpec := { name := "fifoOrder", fn := fun _ => fun
  | [d1, d2] => { results := [.lit (.bool false)], args := [d1, d2] }
  | _ => none }
def FifoOrderWrongFalsely : Prop := fifoOrderRow.holds Try.pinned (OpenSpec.ofChange fifoOrderWrong)

/-- 'renlaw19.FifoSees': WHATEVER THE INPUT: true; the input reads as it did. -/
def fifoSeesSpec : ChangeSpec := { name := "fifoSees", fn := fun _ => fun
  | [d1, d2] => { results := [.lit (.bool true)], args := [d1, d2] }
  | _ => none }
def fifoSeesRow : OpenClaim := { program := "ytnnciakdeoopaaa", sum := "b27108f72b75e080d7cfdda340193a7d44a87fe4bad1679fecfec88e9bdb568b", func := "rendezvous/renlaw19.FifoSees", spec := "fifoSees", apart := false }
def FifoSeesSaid : Prop := fifoSeesRow.holds Try.pinned (OpenSpec.ofChange fifoSeesSpec)

/-- ITS FALSE NEIGHBOUR: 'it returns false'. Refute it at one input. -/
def fifoSeesWrong : ChangeSpec := { name := "fifoSees", fn := fun _ => fun
  | [d1, d2] => { results := [.lit (.bool false)], args := [d1, d2] }
  | _ => none }
def FifoSeesWrongFalsely : Prop := fifoSeesRow.holds Try.pinned (OpenSpec.ofChange fifoSeesWrong)

/-- 'renlaw19.FifoPlays': WHATEVER THE INPUT: true; the input reads as it did. -/
def fifoPlaysSpec : ChangeSpec := { name := "fifoPlays", fn := fun _ => fun
  | [d1, d2] => { results := [.lit (.bool true)], args := [d1, d2] }
  | _ => none }
def fifoPlaysRow : OpenClaim := { program := "ytnnciakdeoopaaa", sum := "b27108f72b75e080d7cfdda340193a7d44a87fe4bad1679fecfec88e9bdb568b", func := "rendezvous/renlaw19.FifoPlays", spec := "fifoPlays", apart := false }
def FifoPlaysSaid : Prop := fifoPlaysRow.holds Try.pinned (OpenSpec.ofChange fifoPlaysSpec)

/-- ITS FALSE NEIGHBOUR: 'it returns false'. Refute it at one input. -/
def fifoPlaysWrong : ChangeSpec := { name := "fifoPlays", fn := fun _ => fun
  | [d1, d2] => { results := [.lit (.bool false)], args := [d1, d2] }
  | _ => none }
def FifoPlaysWrongFalsely : Prop := fifoPlaysRow.holds Try.pinned (OpenSpec.ofChange fifoPlaysWrong)

/- THE SECOND FORM. 'bulk': how many values and letters a reading holds, each counted each time it is reached (what is shared counts as often as it is met; a slice's spare places count too). A statement '..UptoSaid' is the law's where the arguments, and the package variables that the reading takes, are together of bulk at most 1048576: NARROWER than '..Said'. Prove '..Said' where nothing that the law and all that it calls make is longer than what came in: it says more and counts as full. Else prove '..UptoSaid'. A law counts once. -/
mutual
def uptoBulk {H : Type} : DataW H → Nat
  | .lit (.string bytes) => bytes.length + 1
  | .lit _ => 1
  | .nil => 1
  | .ptr d => uptoBulk d + 1
  | .slice elems spare => uptoBulkAll elems + uptoBulkAll spare + 1
  | .agg parts => uptoBulkAll parts + 1
  | .iface _ d => uptoBulk d + 1
  | .map entries => uptoBulkEntries entries + 1
  | .held _ => 1
def uptoBulkAll {H : Type} : List (DataW H) → Nat
  | [] => 0
  | d :: r => uptoBulk d + uptoBulkAll r
def uptoBulkEntries {H : Type} : List (Lit × DataW H) → Nat
  | [] => 0
  | x :: r => uptoBulkEntry x + uptoBulkEntries r
def uptoBulkEntry {H : Type} : Lit × DataW H → Nat
  | (.string bytes, d) => bytes.length + uptoBulk d + 1
  | (_, d) => uptoBulk d + 1
 end
def uptoSmall : (H : Type) → List (DataW H) → Bool := fun _ ds => decide (uptoBulkAll ds ≤ 1048576)
def OpenSpec.upto (s : _root_.Go.ChangeSpec) : _root_.Go.OpenSpec := { _root_.Go.OpenSpec.ofChange s with cond := some uptoSmall }

/-- 'renlaw19.FifoParts', WHERE WHAT IT READS IS OF BULK AT MOST 1048576: true; the input reads as it did. -/
def fifoPartsUptoRow : OpenClaim := { program := "ytnnciakdeoopaaa", sum := "b27108f72b75e080d7cfdda340193a7d44a87fe4bad1679fecfec88e9bdb568b", func := "rendezvous/renlaw19.FifoParts", spec := "fifoParts", apart := false, narrowed := true }
def FifoPartsUptoSaid : Prop := fifoPartsUptoRow.holds Try.pinned (OpenSpec.upto fifoPartsSpec)

/-- 'renlaw18.BlockKeeps', WHERE WHAT IT READS IS OF BULK AT MOST 1048576: true; the input reads as it did. -/
def blockKeepsUptoRow : OpenClaim := { program := "ytnnciakdeoopaaa", sum := "b27108f72b75e080d7cfdda340193a7d44a87fe4bad1679fecfec88e9bdb568b", func := "rendezvous/renlaw18.BlockKeeps", spec := "blockKeeps", apart := false, narrowed := true }
def BlockKeepsUptoSaid : Prop := blockKeepsUptoRow.holds Try.pinned (OpenSpec.upto blockKeepsSpec)

/-- 'renlaw18.BlockTwice', WHERE WHAT IT READS IS OF BULK AT MOST 1048576: true; the input reads as it did. -/
def blockTwiceUptoRow : OpenClaim := { program := "ytnnciakdeoopaaa", sum := "b27108f72b75e080d7cfdda340193a7d44a87fe4bad1679fecfec88e9bdb568b", func := "rendezvous/renlaw18.BlockTwice", spec := "blockTwice", apart := false, narrowed := true }
def BlockTwiceUptoSaid : Prop := blockTwiceUptoRow.holds Try.pinned (OpenSpec.upto blockTwiceSpec)

/-- 'renlaw18.BlockBounds', WHERE WHAT IT READS IS OF BULK AT MOST 1048576: true; the input reads as it did. -/
def blockBoundsUptoRow : OpenClaim := { program := "ytnnciakdeoopaaa", sum := "b27108f72b75e080d7cfdda340193a7d44a87fe4bad1679fecfec88e9bdb568b", func := "rendezvous/renlaw18.BlockBounds", spec := "blockBounds", apart := false, narrowed := true }
def BlockBoundsUptoSaid : Prop := blockBoundsUptoRow.holds Try.pinned (OpenSpec.upto blockBoundsSpec)

/-- 'renlaw18.BlockMakes', WHERE WHAT IT READS IS OF BULK AT MOST 1048576: true; the input reads as it did. -/
def blockMakesUptoRow : OpenClaim := { program := "ytnnciakdeoopaaa", sum := "b27108f72b75e080d7cfdda340193a7d44a87fe4bad1679fecfec88e9bdb568b", func := "rendezvous/renlaw18.BlockMakes", spec := "blockMakes", apart := false, narrowed := true }
def BlockMakesUptoSaid : Prop := blockMakesUptoRow.holds Try.pinned (OpenSpec.upto blockMakesSpec)

/-- 'renlaw18.BlockPlays', WHERE WHAT IT READS IS OF BULK AT MOST 1048576: true; the input reads as it did. -/
def blockPlaysUptoRow : OpenClaim := { program := "ytnnciakdeoopaaa", sum := "b27108f72b75e080d7cfdda340193a7d44a87fe4bad1679fecfec88e9bdb568b", func := "rendezvous/renlaw18.BlockPlays", spec := "blockPlays", apart := false, narrowed := true }
def BlockPlaysUptoSaid : Prop := blockPlaysUptoRow.holds Try.pinned (OpenSpec.upto blockPlaysSpec)

/-- 'renlaw4.ElemKinds', WHERE WHAT IT READS IS OF BULK AT MOST 1048576: true; the input reads as it did. -/
def elemKindsUptoRow : OpenClaim := { program := "ytnnciakdeoopaaa", sum := "b27108f72b75e080d7cfdda340193a7d44a87fe4bad1679fecfec88e9bdb568b", func := "rendezvous/renlaw4.ElemKinds", spec := "elemKinds", unfollowed := true, recurses := true, apart := false, narrowed := true }
def ElemKindsUptoSaid : Prop := elemKindsUptoRow.holds Try.pinned (OpenSpec.upto elemKindsSpec)

/-- 'renlaw19.FifoOrder', WHERE WHAT IT READS IS OF BULK AT MOST 1048576: true; the input reads as it did. -/
def fifoOrderUptoRow : OpenClaim := { program := "ytnnciakdeoopaaa", sum := "b27108f72b75e080d7cfdda340193a7d44a87fe4bad1679fecfec88e9bdb568b", func := "rendezvous/renlaw19.FifoOrder", spec := "fifoOrder", apart := false, narrowed := true }
def FifoOrderUptoSaid : Prop := fifoOrderUptoRow.holds Try.pinned (OpenSpec.upto fifoOrderSpec)

/-- 'renlaw19.FifoSees', WHERE WHAT IT READS IS OF BULK AT MOST 1048576: true; the input reads as it did. -/
def fifoSeesUptoRow : OpenClaim := { program := "ytnnciakdeoopaaa", sum := "b27108f72b75e080d7cfdda340193a7d44a87fe4bad1679fecfec88e9bdb568b", func := "rendezvous/renlaw19.FifoSees", spec := "fifoSees", apart := false, narrowed := true }
def FifoSeesUptoSaid : Prop := fifoSeesUptoRow.holds Try.pinned (OpenSpec.upto fifoSeesSpec)

/-- 'renlaw19.FifoPlays', WHERE WHAT IT READS IS OF BULK AT MOST 1048576: true; the input reads as it did. -/
def fifoPlaysUptoRow : OpenClaim := { program := "ytnnciakdeoopaaa", sum := "b27108f72b75e080d7cfdda340193a7d44a87fe4bad1679fecfec88e9bdb568b", func := "rendezvous/renlaw19.FifoPlays", spec := "fifoPlays", apart := false, narrowed := true }
def FifoPlaysUptoSaid : Prop := fifoPlaysUptoRow.holds Try.pinned (OpenSpec.upto fifoPlaysSpec)

end Rows
end Go.Proofs.Ytnnciakdeoopaaa
