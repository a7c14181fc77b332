/-
  No cell of these rows narrows 'for every input' (looked for: loops, veiled, ifaces, maps, wideKeys, modest, calm, conditions, laid).
  DERIVED. THE GIVEN ROWS OF THIS SEAT. 4 by the template 'for every input the law returns true; each argument reads behind the call as it read before'; 0 by the template 'total and deterministic' (their statements: YtoegghjhepkfkaaTotals.lean).
  GIVEN WITH THE SEED: the statements are not yours to turn. If you find one false, say at which input.
  Laid BY PROGRAM, IN A SANDBOX (cutbox-rows.mjs): the forced cells as the released guide's own fill.sh prints them over the translation 98847f14459d49aa… (all of the seat's roots in one cut). By AI agents, Wed Nov 11 2026. No macro, syntax, notation, axiom, sorry.
-/
import Derived.Test.YtoegghjhepkfkaaChecked
import GoSem.Claim
import GoSem.ClaimJoined
import GoSem.ClaimMapViews
import Derived.JoinedTies
import Derived.KernelRfl
namespace Go.Proofs.Ytoegghjhepkfkaa
/- THE CELL 'sum', in the pinned program and in every row, IS THE sha256 OF THE DUMP (.gsa) THAT YtoegghjhepkfkaaProg.lean LOADS. Nothing in Lean hashes anything: it is a label: what it is worth is what the hold of that sum in a sandbox is worth. -/
noncomputable def Try.pinned : Pinned := { name := "ytoegghjhepkfkaa", sum := "98847f14459d49aaba3ab2fbb32c7d67145cd795ebffb9ec7989bf50b24cf2f3", checked := Try.checked }
namespace Rows
def none {H : Type} : Left H := { results := [], args := [] }

/-- 'linkhouselaw3.ArrangeMatchesSpec': WHATEVER THE INPUT: true; the input reads as it did. -/
def arrangeMatchesSpecSpec : ChangeSpec := { name := "arrangeMatchesSpec", fn := fun _ => fun
  | [d1, d2] => { results := [.lit (.bool true)], args := [d1, d2] }
  | _ => none }
def arrangeMatchesSpecRow : OpenClaim := { program := "ytoegghjhepkfkaa", sum := "98847f14459d49aaba3ab2fbb32c7d67145cd795ebffb9ec7989bf50b24cf2f3", func := "linkhouse/linkhouselaw3.ArrangeMatchesSpec", spec := "arrangeMatchesSpec", unfollowed := true, recurses := true, apart := false }
def ArrangeMatchesSpecSaid : Prop := arrangeMatchesSpecRow.holds Try.pinned (OpenSpec.ofChange arrangeMatchesSpecSpec)

/-- ITS FALSE NEIGHBOUR: 'it returns false'. Refute it at one input. -/
def arrangeMatchesSpecWrong : ChangeSpec := { name := "arrangeMatchesSpec", fn := fun _ => fun
  | [d1, d2] => { results := [.lit (.bool false)], args := [d1, d2] }
  | _ => none }
def ArrangeMatchesSpecWrongFalsely : Prop := arrangeMatchesSpecRow.holds Try.pinned (OpenSpec.ofChange arrangeMatchesSpecWrong)

/-- 'linkhouselaw3.ArrangeNumbersMatchSpec': WHATEVER THE INPUT: true; the input reads as it did. -/
def arrangeNumbersMatchSpecSpec : ChangeSpec := { name := "arrangeNumbersMatchSpec", fn := fun _ => fun
  | [d] => { results := [.lit (.bool true)], args := [d] }
  | _ => none }
def arrangeNumbersMatchSpecRow : OpenClaim := { program := "ytoegghjhepkfkaa", sum := "98847f14459d49aaba3ab2fbb32c7d67145cd795ebffb9ec7989bf50b24cf2f3", func := "linkhouse/linkhouselaw3.ArrangeNumbersMatchSpec", spec := "arrangeNumbersMatchSpec", unfollowed := true, recurses := true, apart := false }
def ArrangeNumbersMatchSpecSaid : Prop := arrangeNumbersMatchSpecRow.holds Try.pinned (OpenSpec.ofChange arrangeNumbersMatchSpecSpec)

/-- ITS FALSE NEIGHBOUR: 'it returns false'. Refute it at one input. -/
def arrangeNumbersMatchSpecWrong : ChangeSpec := { name := "arrangeNumbersMatchSpec", fn := fun _ => fun
  | [d] => { results := [.lit (.bool false)], args := [d] }
  | _ => none }
def ArrangeNumbersMatchSpecWrongFalsely : Prop := arrangeNumbersMatchSpecRow.holds Try.pinned (OpenSpec.ofChange arrangeNumbersMatchSpecWrong)

/-- 'linkhouselaw3.ArrangeInvertsTwice': WHATEVER THE INPUT: true; the input reads as it did. -/
def arrangeInvertsTwiceSpec : ChangeSpec := { name := "arrangeInvertsTwice", fn := fun _ => fun
  | [d1, d2] => { results := [.lit (.bool true)], args := [d1, d2] }
  | _ => none }
def arrangeInvertsTwiceRow : OpenClaim := { program := "ytoegghjhepkfkaa", sum := "98847f14459d49aaba3ab2fbb32c7d67145cd795ebffb9ec7989bf50b24cf2f3", func := "linkhouse/linkhouselaw3.ArrangeInvertsTwice", spec := "arrangeInvertsTwice", unfollowed := true, recurses := true, apart := false }
def ArrangeInvertsTwiceSaid : Prop := arrangeInvertsTwiceRow.holds Try.pinned (OpenSpec.ofChange arrangeInvertsTwiceSpec)

/-- ITS FALSE NEIGHBOUR: 'it returns false'. Refute it at one input. -/
def arrangeInvertsTwiceWrong : ChangeSpec := { name := "arrangeInvertsTwice", fn := fun _ => fun
  | [d1, d2] => { results := [.lit (.bool false)], args := [d1, d2] }
  | _ => none }
def ArrangeInvertsTwiceWrongFalsely : Prop := arrangeInvertsTwiceRow.holds Try.pinned (OpenSpec.ofChange arrangeInvertsTwiceWrong)

/-- 'linkhouselaw3.ArrangeWantedFirst': WHATEVER THE INPUT: true; the input reads as it did. -/
def arrangeWantedFirstSpec : ChangeSpec := { name := "arrangeWantedFirst", fn := fun _ => fun
  | [d1, d2, d3, d4] => { results := [.lit (.bool true)], args := [d1, d2, d3, d4] }
  | _ => none }
def arrangeWantedFirstRow : OpenClaim := { program := "ytoegghjhepkfkaa", sum := "98847f14459d49aaba3ab2fbb32c7d67145cd795ebffb9ec7989bf50b24cf2f3", func := "linkhouse/linkhouselaw3.ArrangeWantedFirst", spec := "arrangeWantedFirst", unfollowed := true, recurses := true, apart := false }
def ArrangeWantedFirstSaid : Prop := arrangeWantedFirstRow.holds Try.pinned (OpenSpec.ofChange arrangeWantedFirstSpec)

/-- ITS FALSE NEIGHBOUR: 'it returns false'. Refute it at one input. -/
def arrangeWantedFirstWrong : ChangeSpec := { name := "arrangeWantedFirst", fn := fun _ => fun
  | [d1, d2, d3, d4] => { results := [.lit (.bool false)], args := [d1, d2, d3, d4] }
  | _ => none }
def ArrangeWantedFirstWrongFalsely : Prop := arrangeWantedFirstRow.holds Try.pinned (OpenSpec.ofChange arrangeWantedFirstWrong)

/- THE SECOND FORM. 'bulk': how many values and letters a reading holds, each counted each time it is reached (what is shared counts as often as it is met; a slice's spare places count too). A statement '..UptoSaid' is the law's where the arguments, and the package variables that the reading takes, are together of bulk at most 1048576: NARROWER than '..Said'. Prove '..Said' where nothing that the law and all that it calls make is longer than what came in: it says more and counts as full. Else prove '..UptoSaid'. A law counts once. -/
mutual
def uptoBulk {H : Type} : DataW H → Nat
  | .lit (.string bytes) => bytes.length + 1
  | .lit _ => 1
  | .nil => 1
  | .ptr d => uptoBulk d + 1
  | .slice elems spare => uptoBulkAll elems + uptoBulkAll spare + 1
  | .agg parts => uptoBulkAll parts + 1
  | .iface _ d => uptoBulk d + 1
  | .map entries => uptoBulkEntries entries + 1
  | .held _ => 1
def uptoBulkAll {H : Type} : List (DataW H) → Nat
  | [] => 0
  | d :: r => uptoBulk d + uptoBulkAll r
def uptoBulkEntries {H : Type} : List (Lit × DataW H) → Nat
  | [] => 0
  | x :: r => uptoBulkEntry x + uptoBulkEntries r
def uptoBulkEntry {H : Type} : Lit × DataW H → Nat
  | (.string bytes, d) => bytes.length + uptoBulk d + 1
  | (_, d) => uptoBulk d + 1
 end
def uptoSmall : (H : Type) → List (DataW H) → Bool := fun _ ds => decide (uptoBulkAll ds ≤ 1048576)
def OpenSpec.upto (s : _root_.Go.ChangeSpec) : _root_.Go.OpenSpec := { _root_.Go.OpenSpec.ofChange s with cond := some uptoSmall }

/-- 'linkhouselaw3.ArrangeMatchesSpec', WHERE WHAT IT READS IS OF BULK AT MOST 1048576: true; the input reads as it did. -/
def arrangeMatchesSpecUptoRow : OpenClaim := { program := "ytoegghjhepkfkaa", sum := "98847f14459d49aaba3ab2fbb32c7d67145cd795ebffb9ec7989bf50b24cf2f3", func := "linkhouse/linkhouselaw3.ArrangeMatchesSpec", spec := "arrangeMatchesSpec", unfollowed := true, recurses := true, apart := false, narrowed := true }
def ArrangeMatchesSpecUptoSaid : Prop := arrangeMatchesSpecUptoRow.holds Try.pinned (OpenSpec.upto arrangeMatchesSpecSpec)

/-- 'linkhouselaw3.ArrangeNumbersMatchSpec', WHERE WHAT IT READS IS OF BULK AT MOST 1048576: true; the input reads as it did. -/
def arrangeNumbersMatchSpecUptoRow : OpenClaim := { program := "ytoegghjhepkfkaa", sum := "98847f14459d49aaba3ab2fbb32c7d67145cd795ebffb9ec7989bf50b24cf2f3", func := "linkhouse/linkhouselaw3.ArrangeNumbersMatchSpec", spec := "arrangeNumbersMatchSpec", unfollowed := true, recurses := true, apart := false, narrowed := true }
def ArrangeNumbersMatchSpecUptoSaid : Prop := arrangeNumbersMatchSpecUptoRow.holds Try.pinned (OpenSpec.upto arrangeNumbersMatchSpecSpec)

/-- 'linkhouselaw3.ArrangeInvertsTwice', WHERE WHAT IT READS IS OF BULK AT MOST 1048576: true; the input reads as it did. -/
def arrangeInvertsTwiceUptoRow : OpenClaim := { program := "ytoegghjhepkfkaa", sum := "98847f14459d49aaba3ab2fbb32c7d67145cd795ebffb9ec7989bf50b24cf2f3", func := "linkhouse/linkhouselaw3.ArrangeInvertsTwice", spec := "arrangeInvertsTwice", unfollowed := true, recurses := true, apart := false, narrowed := true }
def ArrangeInvertsTwiceUptoSaid : Prop := arrangeInvertsTwiceUptoRow.holds Try.pinned (OpenSpec.upto arrangeInvertsTwiceSpec)

/-- 'linkhouselaw3.ArrangeWantedFirst', WHERE WHAT IT READS IS OF BULK AT MOST 1048576: true; the input reads as it did. -/
def arrangeWantedFirstUptoRow : OpenClaim := { program := "ytoegghjhepkfkaa", sum := "98847f14459d49aaba3ab2fbb32c7d67145cd795ebffb9ec7989bf50b24cf2f3", func := "linkhouse/linkhouselaw3.ArrangeWantedFirst", spec := "arrangeWantedFirst", unfollowed := true, recurses := true, apart := false, narrowed := true }
def ArrangeWantedFirstUptoSaid : Prop := arrangeWantedFirstUptoRow.holds Try.pinned (OpenSpec.upto arrangeWantedFirstSpec)

end Rows
end Go.Proofs.Ytoegghjhepkfkaa
