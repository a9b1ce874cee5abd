/-
  No cell of these rows narrows 'for every input' (looked for: loops, veiled, ifaces, maps, wideKeys, modest, calm, conditions, laid).
  DERIVED. THE GIVEN ROWS OF THIS SEAT. 5 by the template 'for every input the law returns true; each argument reads behind the call as it read before'; 0 by the template 'total and deterministic' (their statements: YtkbnjckdkcfndaaTotals.lean).
  GIVEN WITH THE SEED: the statements are not yours to turn. If you find one false, say at which input.
  Laid BY PROGRAM, IN A SANDBOX (cutbox-rows.mjs): the forced cells as the released guide's own fill.sh prints them over the translation 859657d108c50c5d… (all of the seat's roots in one cut). By AI agents, Wed Nov 11 2026. No macro, syntax, notation, axiom, sorry.
-/
import Derived.Test.YtkbnjckdkcfndaaChecked
import GoSem.Claim
import GoSem.ClaimJoined
import GoSem.ClaimMapViews
import Derived.JoinedTies
import Derived.KernelRfl
namespace Go.Proofs.Ytkbnjckdkcfndaa
/- THE CELL 'sum', in the pinned program and in every row, IS THE sha256 OF THE DUMP (.gsa) THAT YtkbnjckdkcfndaaProg.lean LOADS. Nothing in Lean hashes anything: it is a label: what it is worth is what the hold of that sum in a sandbox is worth. -/
noncomputable def Try.pinned : Pinned := { name := "ytkbnjckdkcfndaa", sum := "859657d108c50c5d91d713e34e819645ccf11669a60f65804e690334946b2703", checked := Try.checked }
namespace Rows
def none {H : Type} : Left H := { results := [], args := [] }

/-- 'posthornlaw01.PackWrites': WHATEVER THE INPUT: true; the input reads as it did. -/
def packWritesSpec : ChangeSpec := { name := "packWrites", fn := fun _ => fun
  | [d1, d2, d3] => { results := [.lit (.bool true)], args := [d1, d2, d3] }
  | _ => none }
def packWritesRow : OpenClaim := { program := "ytkbnjckdkcfndaa", sum := "859657d108c50c5d91d713e34e819645ccf11669a60f65804e690334946b2703", func := "posthorn/posthornlaw01.PackWrites", spec := "packWrites", unfollowed := true, recurses := true, apart := false }
def PackWritesSaid : Prop := packWritesRow.holds Try.pinned (OpenSpec.ofChange packWritesSpec)

/-- ITS FALSE NEIGHBOUR: 'it returns false'. Refute it at one input. -/
def packWritesWrong : ChangeSpec := { name := "packWrites", fn := fun _ => fun
  | [d1, d2, d3] => { results := [.lit (.bool false)], args := [d1, d2, d3] }
  | _ => none }
def PackWritesWrongFalsely : Prop := packWritesRow.holds Try.pinned (OpenSpec.ofChange packWritesWrong)

/-- 'posthornlaw01.PackOne': WHATEVER THE INPUT: true; the input reads as it did. -/
def packOneSpec : ChangeSpec := { name := "packOne", fn := fun _ => fun
  | [d] => { results := [.lit (.bool true)], args := [d] }
  | _ => none }
def packOneRow : OpenClaim := { program := "ytkbnjckdkcfndaa", sum := "859657d108c50c5d91d713e34e819645ccf11669a60f65804e690334946b2703", func := "posthorn/posthornlaw01.PackOne", spec := "packOne", unfollowed := true, recurses := true, apart := false }
def PackOneSaid : Prop := packOneRow.holds Try.pinned (OpenSpec.ofChange packOneSpec)

/-- ITS FALSE NEIGHBOUR: 'it returns false'. Refute it at one input. -/
def packOneWrong : ChangeSpec := { name := "packOne", fn := fun _ => fun
  | [d] => { results := [.lit (.bool false)], args := [d] }
  | _ => none }
def PackOneWrongFalsely : Prop := packOneRow.holds Try.pinned (OpenSpec.ofChange packOneWrong)

/-- 'posthornlaw01.PackCuts': WHATEVER THE INPUT: true; the input reads as it did. -/
def packCutsSpec : ChangeSpec := { name := "packCuts", fn := fun _ => fun
  | [d1, d2, d3] => { results := [.lit (.bool true)], args := [d1, d2, d3] }
  | _ => none }
def packCutsRow : OpenClaim := { program := "ytkbnjckdkcfndaa", sum := "859657d108c50c5d91d713e34e819645ccf11669a60f65804e690334946b2703", func := "posthorn/posthornlaw01.PackCuts", spec := "packCuts", unfollowed := true, recurses := true, apart := false }
def PackCutsSaid : Prop := packCutsRow.holds Try.pinned (OpenSpec.ofChange packCutsSpec)

/-- ITS FALSE NEIGHBOUR: 'it returns false'. Refute it at one input. -/
def packCutsWrong : ChangeSpec := { name := "packCuts", fn := fun _ => fun
  | [d1, d2, d3] => { results := [.lit (.bool false)], args := [d1, d2, d3] }
  | _ => none }
def PackCutsWrongFalsely : Prop := packCutsRow.holds Try.pinned (OpenSpec.ofChange packCutsWrong)

/-- 'posthornlaw01.PackBack': WHATEVER THE INPUT: true; the input reads as it did. -/
def packBackSpec : ChangeSpec := { name := "packBack", fn := fun _ => fun
  | [d1, d2, d3, d4] => { results := [.lit (.bool true)], args := [d1, d2, d3, d4] }
  | _ => none }
def packBackRow : OpenClaim := { program := "ytkbnjckdkcfndaa", sum := "859657d108c50c5d91d713e34e819645ccf11669a60f65804e690334946b2703", func := "posthorn/posthornlaw01.PackBack", spec := "packBack", unfollowed := true, recurses := true, apart := false }
def PackBackSaid : Prop := packBackRow.holds Try.pinned (OpenSpec.ofChange packBackSpec)

/-- ITS FALSE NEIGHBOUR: 'it returns false'. Refute it at one input. -/
def packBackWrong : ChangeSpec := { name := "packBack", fn := fun _ => fun
  | [d1, d2, d3, d4] => { results := [.lit (.bool false)], args := [d1, d2, d3, d4] }
  | _ => none }
def PackBackWrongFalsely : Prop := packBackRow.holds Try.pinned (OpenSpec.ofChange packBackWrong)

/-- 'posthornlaw01.PackNil': WHATEVER THE INPUT: true; the input reads as it did. -/
def packNilSpec : ChangeSpec := { name := "packNil", fn := fun _ => fun
  | [d] => { results := [.lit (.bool true)], args := [d] }
  | _ => none }
def packNilRow : OpenClaim := { program := "ytkbnjckdkcfndaa", sum := "859657d108c50c5d91d713e34e819645ccf11669a60f65804e690334946b2703", func := "posthorn/posthornlaw01.PackNil", spec := "packNil", unfollowed := true, recurses := true, apart := false }
def PackNilSaid : Prop := packNilRow.holds Try.pinned (OpenSpec.ofChange packNilSpec)

/-- ITS FALSE NEIGHBOUR: 'it returns false'. Refute it at one input. -/
def packNilWrong : ChangeSpec := { name := "packNil", fn := fun _ => fun
  | [d] => { results := [.lit (.bool false)], args := [d] }
  | _ => none }
def PackNilWrongFalsely : Prop := packNilRow.holds Try.pinned (OpenSpec.ofChange packNilWrong)

/- THE SECOND FORM. 'bulk': how many values and letters a reading holds, each counted each time it is reached (what is shared counts as often as it is met; a slice's spare places count too). A statement '..UptoSaid' is the law's where the arguments, and the package variables that the reading takes, are together of bulk at most 1048576: NARROWER than '..Said'. Prove '..Said' where nothing that the law and all that it calls make is longer than what came in: it says more and counts as full. Else prove '..UptoSaid'. A law counts once. -/
mutual
def uptoBulk {H : Type} : DataW H → Nat
  | .lit (.string bytes) => bytes.length + 1
  | .lit _ => 1
  | .nil => 1
  | .ptr d => uptoBulk d + 1
  | .slice elems spare => uptoBulkAll elems + uptoBulkAll spare + 1
  | .agg parts => uptoBulkAll parts + 1
  | .iface _ d => uptoBulk d + 1
  | .map entries => uptoBulkEntries entries + 1
  | .held _ => 1
def uptoBulkAll {H : Type} : List (DataW H) → Nat
  | [] => 0
  | d :: r => uptoBulk d + uptoBulkAll r
def uptoBulkEntries {H : Type} : List (Lit × DataW H) → Nat
  | [] => 0
  | x :: r => uptoBulkEntry x + uptoBulkEntries r
def uptoBulkEntry {H : Type} : Lit × DataW H → Nat
  | (.string bytes, d) => bytes.length + uptoBulk d + 1
  | (_, d) => uptoBulk d + 1
 end
def uptoSmall : (H : Type) → List (DataW H) → Bool := fun _ ds => decide (uptoBulkAll ds ≤ 1048576)
def OpenSpec.upto (s : _root_.Go.ChangeSpec) : _root_.Go.OpenSpec := { _root_.Go.OpenSpec.ofChange s with cond := some uptoSmall }

/-- 'posthornlaw01.PackWrites', WHERE WHAT IT READS IS OF BULK AT MOST 1048576: true; the input reads as it did. -/
def packWritesUptoRow : OpenClaim := { program := "ytkbnjckdkcfndaa", sum := "859657d108c50c5d91d713e34e819645ccf11669a60f65804e690334946b2703", func := "posthorn/posthornlaw01.PackWrites", spec := "packWrites", unfollowed := true, recurses := true, apart := false, narrowed := true }
def PackWritesUptoSaid : Prop := packWritesUptoRow.holds Try.pinned (OpenSpec.upto packWritesSpec)

/-- 'posthornlaw01.PackOne', WHERE WHAT IT READS IS OF BULK AT MOST 1048576: true; the input reads as it did. -/
def packOneUptoRow : OpenClaim := { program := "ytkbnjckdkcfndaa", sum := "859657d108c50c5d91d713e34e819645ccf11669a60f65804e690334946b2703", func := "posthorn/posthornlaw01.PackOne", spec := "packOne", unfollowed := true, recurses := true, apart := false, narrowed := true }
def PackOneUptoSaid : Prop := packOneUptoRow.holds Try.pinned (OpenSpec.upto packOneSpec)

/-- 'posthornlaw01.PackCuts', WHERE WHAT IT READS IS OF BULK AT MOST 1048576: true; the input reads as it did. -/
def packCutsUptoRow : OpenClaim := { program := "ytkbnjckdkcfndaa", sum := "859657d108c50c5d91d713e34e819645ccf11669a60f65804e690334946b2703", func := "posthorn/posthornlaw01.PackCuts", spec := "packCuts", unfollowed := true, recurses := true, apart := false, narrowed := true }
def PackCutsUptoSaid : Prop := packCutsUptoRow.holds Try.pinned (OpenSpec.upto packCutsSpec)

/-- 'posthornlaw01.PackBack', WHERE WHAT IT READS IS OF BULK AT MOST 1048576: true; the input reads as it did. -/
def packBackUptoRow : OpenClaim := { program := "ytkbnjckdkcfndaa", sum := "859657d108c50c5d91d713e34e819645ccf11669a60f65804e690334946b2703", func := "posthorn/posthornlaw01.PackBack", spec := "packBack", unfollowed := true, recurses := true, apart := false, narrowed := true }
def PackBackUptoSaid : Prop := packBackUptoRow.holds Try.pinned (OpenSpec.upto packBackSpec)

/-- 'posthornlaw01.PackNil', WHERE WHAT IT READS IS OF BULK AT MOST 1048576: true; the input reads as it did. -/
def packNilUptoRow : OpenClaim := { program := "ytkbnjckdkcfndaa", sum := "859657d108c50c5d91d713e34e819645ccf11669a60f65804e690334946b2703", func := "posthorn/posthornlaw01.PackNil", spec := "packNil", unfollowed := true, recurses := true, apart := false, narrowed := true }
def PackNilUptoSaid : Prop := packNilUptoRow.holds Try.pinned (OpenSpec.upto packNilSpec)

end Rows
end Go.Proofs.Ytkbnjckdkcfndaa
