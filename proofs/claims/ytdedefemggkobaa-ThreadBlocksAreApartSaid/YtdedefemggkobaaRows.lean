/-
  No cell of these rows narrows 'for every input' (looked for: loops, veiled, ifaces, maps, wideKeys, modest, calm, conditions, laid).
  DERIVED. THE GIVEN ROWS OF THIS SEAT. 2 by the template 'for every input the law returns true; each argument reads behind the call as it read before'; 0 by the template 'total and deterministic' (their statements: YtdedefemggkobaaTotals.lean).
  GIVEN WITH THE SEED: the statements are not yours to turn. If you find one false, say at which input.
  Laid BY PROGRAM, IN A SANDBOX (cutbox-rows.mjs): the forced cells as the released guide's own fill.sh prints them over the translation 0401ac2f25aba432… (all of the seat's roots in one cut). By AI agents, Wed Nov 11 2026. No macro, syntax, notation, axiom, sorry.
-/
import Derived.Test.YtdedefemggkobaaChecked
import GoSem.Claim
import GoSem.ClaimJoined
import GoSem.ClaimMapViews
import Derived.JoinedTies
import Derived.KernelRfl
namespace Go.Proofs.Ytdedefemggkobaa
/- THE CELL 'sum', in the pinned program and in every row, IS THE sha256 OF THE DUMP (.gsa) THAT YtdedefemggkobaaProg.lean LOADS. Nothing in Lean hashes anything: it is a label: what it is worth is what the hold of that sum in a sandbox is worth. -/
noncomputable def Try.pinned : Pinned := { name := "ytdedefemggkobaa", sum := "0401ac2f25aba43228137202e565b187433122599c3768bf7afc24d7298b443a", checked := Try.checked }
namespace Rows
def none {H : Type} : Left H := { results := [], args := [] }

/-- 'linkhouselaw3.ThreadMatchesSpec': WHATEVER THE INPUT: true; the input reads as it did. -/
def threadMatchesSpecSpec : ChangeSpec := { name := "threadMatchesSpec", fn := fun _ => fun
  | [d1, d2, d3] => { results := [.lit (.bool true)], args := [d1, d2, d3] }
  | _ => none }
def threadMatchesSpecRow : OpenClaim := { program := "ytdedefemggkobaa", sum := "0401ac2f25aba43228137202e565b187433122599c3768bf7afc24d7298b443a", func := "linkhouse/linkhouselaw3.ThreadMatchesSpec", spec := "threadMatchesSpec", unfollowed := true, recurses := true, apart := false }
def ThreadMatchesSpecSaid : Prop := threadMatchesSpecRow.holds Try.pinned (OpenSpec.ofChange threadMatchesSpecSpec)

/-- ITS FALSE NEIGHBOUR: 'it returns false'. Refute it at one input. -/
def threadMatchesSpecWrong : ChangeSpec := { name := "threadMatchesSpec", fn := fun _ => fun
  | [d1, d2, d3] => { results := [.lit (.bool false)], args := [d1, d2, d3] }
  | _ => none }
def ThreadMatchesSpecWrongFalsely : Prop := threadMatchesSpecRow.holds Try.pinned (OpenSpec.ofChange threadMatchesSpecWrong)

/-- 'linkhouselaw3.ThreadBlocksAreApart': WHATEVER THE INPUT: true; the input reads as it did. -/
def threadBlocksAreApartSpec : ChangeSpec := { name := "threadBlocksAreApart", fn := fun _ => fun
  | [d1, d2] => { results := [.lit (.bool true)], args := [d1, d2] }
  | _ => none }
def threadBlocksAreApartRow : OpenClaim := { program := "ytdedefemggkobaa", sum := "0401ac2f25aba43228137202e565b187433122599c3768bf7afc24d7298b443a", func := "linkhouse/linkhouselaw3.ThreadBlocksAreApart", spec := "threadBlocksAreApart", unfollowed := true, recurses := true, apart := false }
def ThreadBlocksAreApartSaid : Prop := threadBlocksAreApartRow.holds Try.pinned (OpenSpec.ofChange threadBlocksAreApartSpec)

/-- ITS FALSE NEIGHBOUR: 'it returns false'. Refute it at one input. -/
def threadBlocksAreApartWrong : ChangeSpec := { name := "threadBlocksAreApart", fn := fun _ => fun
  | [d1, d2] => { results := [.lit (.bool false)], args := [d1, d2] }
  | _ => none }
def ThreadBlocksAreApartWrongFalsely : Prop := threadBlocksAreApartRow.holds Try.pinned (OpenSpec.ofChange threadBlocksAreApartWrong)

/- THE SECOND FORM. 'bulk': how many values and letters a reading holds, each counted each time it is reached (what is shared counts as often as it is met; a slice's spare places count too). A statement '..UptoSaid' is the law's where the arguments, and the package variables that the reading takes, are together of bulk at most 1048576: NARROWER than '..Said'. Prove '..Said' where nothing that the law and all that it calls make is longer than what came in: it says more and counts as full. Else prove '..UptoSaid'. A law counts once. -/
mutual
def uptoBulk {H : Type} : DataW H → Nat
  | .lit (.string bytes) => bytes.length + 1
  | .lit _ => 1
  | .nil => 1
  | .ptr d => uptoBulk d + 1
  | .slice elems spare => uptoBulkAll elems + uptoBulkAll spare + 1
  | .agg parts => uptoBulkAll parts + 1
  | .iface _ d => uptoBulk d + 1
  | .map entries => uptoBulkEntries entries + 1
  | .held _ => 1
def uptoBulkAll {H : Type} : List (DataW H) → Nat
  | [] => 0
  | d :: r => uptoBulk d + uptoBulkAll r
def uptoBulkEntries {H : Type} : List (Lit × DataW H) → Nat
  | [] => 0
  | x :: r => uptoBulkEntry x + uptoBulkEntries r
def uptoBulkEntry {H : Type} : Lit × DataW H → Nat
  | (.string bytes, d) => bytes.length + uptoBulk d + 1
  | (_, d) => uptoBulk d + 1
 end
def uptoSmall : (H : Type) → List (DataW H) → Bool := fun _ ds => decide (uptoBulkAll ds ≤ 1048576)
def OpenSpec.upto (s : _root_.Go.ChangeSpec) : _root_.Go.OpenSpec := { _root_.Go.OpenSpec.ofChange s with cond := some uptoSmall }

/-- 'linkhouselaw3.ThreadMatchesSpec', WHERE WHAT IT READS IS OF BULK AT MOST 1048576: true; the input reads as it did. -/
def threadMatchesSpecUptoRow : OpenClaim := { program := "ytdedefemggkobaa", sum := "0401ac2f25aba43228137202e565b187433122599c3768bf7afc24d7298b443a", func := "linkhouse/linkhouselaw3.ThreadMatchesSpec", spec := "threadMatchesSpec", unfollowed := true, recurses := true, apart := false, narrowed := true }
def ThreadMatchesSpecUptoSaid : Prop := threadMatchesSpecUptoRow.holds Try.pinned (OpenSpec.upto threadMatchesSpecSpec)

/-- 'linkhouselaw3.ThreadBlocksAreApart', WHERE WHAT IT READS IS OF BULK AT MOST 1048576: true; the input reads as it did. -/
def threadBlocksAreApartUptoRow : OpenClaim := { program := "ytdedefemggkobaa", sum := "0401ac2f25aba43228137202e565b187433122599c3768bf7afc24d7298b443a", func := "linkhouse/linkhouselaw3.ThreadBlocksAreApart", spec := "threadBlocksAreApart", unfollowed := true, recurses := true, apart := false, narrowed := true }
def ThreadBlocksAreApartUptoSaid : Prop := threadBlocksAreApartUptoRow.holds Try.pinned (OpenSpec.upto threadBlocksAreApartSpec)

end Rows
end Go.Proofs.Ytdedefemggkobaa
