/-
  No cell of these rows narrows 'for every input' (looked for: loops, veiled, ifaces, maps, wideKeys, modest, calm, conditions, laid).
  DERIVED. THE GIVEN ROWS OF THIS SEAT. 7 by the template 'for every input the law returns true; each argument reads behind the call as it read before'; 0 by the template 'total and deterministic' (their statements: YtnbeamaoblmbhaaTotals.lean).
  GIVEN WITH THE SEED: the statements are not yours to turn. If you find one false, say at which input.
  Laid BY PROGRAM, IN A SANDBOX (cutbox-rows.mjs): the forced cells as the released guide's own fill.sh prints them over the translation e8d1806d817a0aa7… (all of the seat's roots in one cut). By AI agents, Wed Nov 11 2026. No macro, syntax, notation, axiom, sorry.
-/
import Derived.Test.YtnbeamaoblmbhaaChecked
import GoSem.Claim
import GoSem.ClaimJoined
import GoSem.ClaimMapViews
import Derived.JoinedTies
import Derived.KernelRfl
namespace Go.Proofs.Ytnbeamaoblmbhaa
/- THE CELL 'sum', in the pinned program and in every row, IS THE sha256 OF THE DUMP (.gsa) THAT YtnbeamaoblmbhaaProg.lean LOADS. Nothing in Lean hashes anything: it is a label: what it is worth is what the hold of that sum in a sandbox is worth. -/
noncomputable def Try.pinned : Pinned := { name := "ytnbeamaoblmbhaa", sum := "e8d1806d817a0aa7e9e3429b62d8c6a6d43aeb8428fbd87a3f407becab9d771f", checked := Try.checked }
namespace Rows
def none {H : Type} : Left H := { results := [], args := [] }

/-- 'linkhouselaw3.ApplyMatchesSpec': WHATEVER THE INPUT: true; the input reads as it did. -/
def applyMatchesSpecSpec : ChangeSpec := { name := "applyMatchesSpec", fn := fun _ => fun
  | [d1, d2, d3, d4] => { results := [.lit (.bool true)], args := [d1, d2, d3, d4] }
  | _ => none }
def applyMatchesSpecRow : OpenClaim := { program := "ytnbeamaoblmbhaa", sum := "e8d1806d817a0aa7e9e3429b62d8c6a6d43aeb8428fbd87a3f407becab9d771f", func := "linkhouse/linkhouselaw3.ApplyMatchesSpec", spec := "applyMatchesSpec", apart := false }
def ApplyMatchesSpecSaid : Prop := applyMatchesSpecRow.holds Try.pinned (OpenSpec.ofChange applyMatchesSpecSpec)

/-- ITS FALSE NEIGHBOUR: 'it returns false'. Refute it at one input. -/
def applyMatchesSpecWrong : ChangeSpec := { name := "applyMatchesSpec", fn := fun _ => fun
  | [d1, d2, d3, d4] => { results := [.lit (.bool false)], args := [d1, d2, d3, d4] }
  | _ => none }
def ApplyMatchesSpecWrongFalsely : Prop := applyMatchesSpecRow.holds Try.pinned (OpenSpec.ofChange applyMatchesSpecWrong)

/-- 'linkhouselaw3.ApplyInverts': WHATEVER THE INPUT: true; the input reads as it did. -/
def applyInvertsSpec : ChangeSpec := { name := "applyInverts", fn := fun _ => fun
  | [d1, d2, d3, d4] => { results := [.lit (.bool true)], args := [d1, d2, d3, d4] }
  | _ => none }
def applyInvertsRow : OpenClaim := { program := "ytnbeamaoblmbhaa", sum := "e8d1806d817a0aa7e9e3429b62d8c6a6d43aeb8428fbd87a3f407becab9d771f", func := "linkhouse/linkhouselaw3.ApplyInverts", spec := "applyInverts", apart := false }
def ApplyInvertsSaid : Prop := applyInvertsRow.holds Try.pinned (OpenSpec.ofChange applyInvertsSpec)

/-- ITS FALSE NEIGHBOUR: 'it returns false'. Refute it at one input. -/
def applyInvertsWrong : ChangeSpec := { name := "applyInverts", fn := fun _ => fun
  | [d1, d2, d3, d4] => { results := [.lit (.bool false)], args := [d1, d2, d3, d4] }
  | _ => none }
def ApplyInvertsWrongFalsely : Prop := applyInvertsRow.holds Try.pinned (OpenSpec.ofChange applyInvertsWrong)

/-- 'linkhouselaw3.ApplyValueFills': WHATEVER THE INPUT: true; the input reads as it did. -/
def applyValueFillsSpec : ChangeSpec := { name := "applyValueFills", fn := fun _ => fun
  | [d1, d2, d3] => { results := [.lit (.bool true)], args := [d1, d2, d3] }
  | _ => none }
def applyValueFillsRow : OpenClaim := { program := "ytnbeamaoblmbhaa", sum := "e8d1806d817a0aa7e9e3429b62d8c6a6d43aeb8428fbd87a3f407becab9d771f", func := "linkhouse/linkhouselaw3.ApplyValueFills", spec := "applyValueFills", apart := false }
def ApplyValueFillsSaid : Prop := applyValueFillsRow.holds Try.pinned (OpenSpec.ofChange applyValueFillsSpec)

/-- ITS FALSE NEIGHBOUR: 'it returns false'. Refute it at one input. -/
def applyValueFillsWrong : ChangeSpec := { name := "applyValueFills", fn := fun _ => fun
  | [d1, d2, d3] => { results := [.lit (.bool false)], args := [d1, d2, d3] }
  | _ => none }
def ApplyValueFillsWrongFalsely : Prop := applyValueFillsRow.holds Try.pinned (OpenSpec.ofChange applyValueFillsWrong)

/-- 'linkhouselaw3.ApplyMoves': WHATEVER THE INPUT: true; the input reads as it did. -/
def applyMovesSpec : ChangeSpec := { name := "applyMoves", fn := fun _ => fun
  | [d1, d2, d3, d4, d5] => { results := [.lit (.bool true)], args := [d1, d2, d3, d4, d5] }
  | _ => none }
def applyMovesRow : OpenClaim := { program := "ytnbeamaoblmbhaa", sum := "e8d1806d817a0aa7e9e3429b62d8c6a6d43aeb8428fbd87a3f407becab9d771f", func := "linkhouse/linkhouselaw3.ApplyMoves", spec := "applyMoves", apart := false }
def ApplyMovesSaid : Prop := applyMovesRow.holds Try.pinned (OpenSpec.ofChange applyMovesSpec)

/-- ITS FALSE NEIGHBOUR: 'it returns false'. Refute it at one input. -/
def applyMovesWrong : ChangeSpec := { name := "applyMoves", fn := fun _ => fun
  | [d1, d2, d3, d4, d5] => { results := [.lit (.bool false)], args := [d1, d2, d3, d4, d5] }
  | _ => none }
def ApplyMovesWrongFalsely : Prop := applyMovesRow.holds Try.pinned (OpenSpec.ofChange applyMovesWrong)

/-- 'linkhouselaw3.PlaceMatchesSpec': WHATEVER THE INPUT: true; the input reads as it did. -/
def placeMatchesSpecSpec : ChangeSpec := { name := "placeMatchesSpec", fn := fun _ => fun
  | [d1, d2] => { results := [.lit (.bool true)], args := [d1, d2] }
  | _ => none }
def placeMatchesSpecRow : OpenClaim := { program := "ytnbeamaoblmbhaa", sum := "e8d1806d817a0aa7e9e3429b62d8c6a6d43aeb8428fbd87a3f407becab9d771f", func := "linkhouse/linkhouselaw3.PlaceMatchesSpec", spec := "placeMatchesSpec", unfollowed := true, recurses := true, apart := false }
def PlaceMatchesSpecSaid : Prop := placeMatchesSpecRow.holds Try.pinned (OpenSpec.ofChange placeMatchesSpecSpec)

/-- ITS FALSE NEIGHBOUR: 'it returns false'. Refute it at one input. -/
def placeMatchesSpecWrong : ChangeSpec := { name := "placeMatchesSpec", fn := fun _ => fun
  | [d1, d2] => { results := [.lit (.bool false)], args := [d1, d2] }
  | _ => none }
def PlaceMatchesSpecWrongFalsely : Prop := placeMatchesSpecRow.holds Try.pinned (OpenSpec.ofChange placeMatchesSpecWrong)

/-- 'linkhouselaw3.PlaceKeepsApart': WHATEVER THE INPUT: true; the input reads as it did. -/
def placeKeepsApartSpec : ChangeSpec := { name := "placeKeepsApart", fn := fun _ => fun
  | [d1, d2, d3, d4] => { results := [.lit (.bool true)], args := [d1, d2, d3, d4] }
  | _ => none }
def placeKeepsApartRow : OpenClaim := { program := "ytnbeamaoblmbhaa", sum := "e8d1806d817a0aa7e9e3429b62d8c6a6d43aeb8428fbd87a3f407becab9d771f", func := "linkhouse/linkhouselaw3.PlaceKeepsApart", spec := "placeKeepsApart", unfollowed := true, recurses := true, apart := false }
def PlaceKeepsApartSaid : Prop := placeKeepsApartRow.holds Try.pinned (OpenSpec.ofChange placeKeepsApartSpec)

/-- ITS FALSE NEIGHBOUR: 'it returns false'. Refute it at one input. -/
def placeKeepsApartWrong : ChangeSpec := { name := "placeKeepsApart", fn := fun _ => fun
  | [d1, d2, d3, d4] => { results := [.lit (.bool false)], args := [d1, d2, d3, d4] }
  | _ => none }
def PlaceKeepsApartWrongFalsely : Prop := placeKeepsApartRow.holds Try.pinned (OpenSpec.ofChange placeKeepsApartWrong)

/-- 'linkhouselaw3.PlaceMoreBehind': WHATEVER THE INPUT: true; the input reads as it did. -/
def placeMoreBehindSpec : ChangeSpec := { name := "placeMoreBehind", fn := fun _ => fun
  | [d1, d2, d3] => { results := [.lit (.bool true)], args := [d1, d2, d3] }
  | _ => none }
def placeMoreBehindRow : OpenClaim := { program := "ytnbeamaoblmbhaa", sum := "e8d1806d817a0aa7e9e3429b62d8c6a6d43aeb8428fbd87a3f407becab9d771f", func := "linkhouse/linkhouselaw3.PlaceMoreBehind", spec := "placeMoreBehind", unfollowed := true, recurses := true, apart := false }
def PlaceMoreBehindSaid : Prop := placeMoreBehindRow.holds Try.pinned (OpenSpec.ofChange placeMoreBehindSpec)

/-- ITS FALSE NEIGHBOUR: 'it returns false'. Refute it at one input. -/
def placeMoreBehindWrong : ChangeSpec := { name := "placeMoreBehind", fn := fun _ => fun
  | [d1, d2, d3] => { results := [.lit (.bool false)], args := [d1, d2, d3] }
  | _ => none }
def PlaceMoreBehindWrongFalsely : Prop := placeMoreBehindRow.holds Try.pinned (OpenSpec.ofChange placeMoreBehindWrong)

/- THE SECOND FORM. 'bulk': how many values and letters a reading holds, each counted each time it is reached (what is shared counts as often as it is met; a slice's spare places count too). A statement '..UptoSaid' is the law's where the arguments, and the package variables that the reading takes, are together of bulk at most 1048576: NARROWER than '..Said'. Prove '..Said' where nothing that the law and all that it calls make is longer than what came in: it says more and counts as full. Else prove '..UptoSaid'. A law counts once. -/
mutual
def uptoBulk {H : Type} : DataW H → Nat
  | .lit (.string bytes) => bytes.length + 1
  | .lit _ => 1
  | .nil => 1
  | .ptr d => uptoBulk d + 1
  | .slice elems spare => uptoBulkAll elems + uptoBulkAll spare + 1
  | .agg parts => uptoBulkAll parts + 1
  | .iface _ d => uptoBulk d + 1
  | .map entries => uptoBulkEntries entries + 1
  | .held _ => 1
def uptoBulkAll {H : Type} : List (DataW H) → Nat
  | [] => 0
  | d :: r => uptoBulk d + uptoBulkAll r
def uptoBulkEntries {H : Type} : List (Lit × DataW H) → Nat
  | [] => 0
  | x :: r => uptoBulkEntry x + uptoBulkEntries r
def uptoBulkEntry {H : Type} : Lit × DataW H → Nat
  | (.string bytes, d) => bytes.length + uptoBulk d + 1
  | (_, d) => uptoBulk d + 1
 end
def uptoSmall : (H : Type) → List (DataW H) → Bool := fun _ ds => decide (uptoBulkAll ds ≤ 1048576)
def OpenSpec.upto (s : _root_.Go.ChangeSpec) : _root_.Go.OpenSpec := { _root_.Go.OpenSpec.ofChange s with cond := some uptoSmall }

/-- 'linkhouselaw3.ApplyMatchesSpec', WHERE WHAT IT READS IS OF BULK AT MOST 1048576: true; the input reads as it did. -/
def applyMatchesSpecUptoRow : OpenClaim := { program := "ytnbeamaoblmbhaa", sum := "e8d1806d817a0aa7e9e3429b62d8c6a6d43aeb8428fbd87a3f407becab9d771f", func := "linkhouse/linkhouselaw3.ApplyMatchesSpec", spec := "applyMatchesSpec", apart := false, narrowed := true }
def ApplyMatchesSpecUptoSaid : Prop := applyMatchesSpecUptoRow.holds Try.pinned (OpenSpec.upto applyMatchesSpecSpec)

/-- 'linkhouselaw3.ApplyInverts', WHERE WHAT IT READS IS OF BULK AT MOST 1048576: true; the input reads as it did. -/
def applyInvertsUptoRow : OpenClaim := { program := "ytnbeamaoblmbhaa", sum := "e8d1806d817a0aa7e9e3429b62d8c6a6d43aeb8428fbd87a3f407becab9d771f", func := "linkhouse/linkhouselaw3.ApplyInverts", spec := "applyInverts", apart := false, narrowed := true }
def ApplyInvertsUptoSaid : Prop := applyInvertsUptoRow.holds Try.pinned (OpenSpec.upto applyInvertsSpec)

/-- 'linkhouselaw3.ApplyValueFills', WHERE WHAT IT READS IS OF BULK AT MOST 1048576: true; the input reads as it did. -/
def applyValueFillsUptoRow : OpenClaim := { program := "ytnbeamaoblmbhaa", sum := "e8d1806d817a0aa7e9e3429b62d8c6a6d43aeb8428fbd87a3f407becab9d771f", func := "linkhouse/linkhouselaw3.ApplyValueFills", spec := "applyValueFills", apart := false, narrowed := true }
def ApplyValueFillsUptoSaid : Prop := applyValueFillsUptoRow.holds Try.pinned (OpenSpec.upto applyValueFillsSpec)

/-- 'linkhouselaw3.ApplyMoves', WHERE WHAT IT READS IS OF BULK AT MOST 1048576: true; the input reads as it did. -/
def applyMovesUptoRow : OpenClaim := { program := "ytnbeamaoblmbhaa", sum := "e8d1806d817a0aa7e9e3429b62d8c6a6d43aeb8428fbd87a3f407becab9d771f", func := "linkhouse/linkhouselaw3.ApplyMoves", spec := "applyMoves", apart := false, narrowed := true }
def ApplyMovesUptoSaid : Prop := applyMovesUptoRow.holds Try.pinned (OpenSpec.upto applyMovesSpec)

/-- 'linkhouselaw3.PlaceMatchesSpec', WHERE WHAT IT READS IS OF BULK AT MOST 1048576: true; the input reads as it did. -/
def placeMatchesSpecUptoRow : OpenClaim := { program := "ytnbeamaoblmbhaa", sum := "e8d1806d817a0aa7e9e3429b62d8c6a6d43aeb8428fbd87a3f407becab9d771f", func := "linkhouse/linkhouselaw3.PlaceMatchesSpec", spec := "placeMatchesSpec", unfollowed := true, recurses := true, apart := false, narrowed := true }
def PlaceMatchesSpecUptoSaid : Prop := placeMatchesSpecUptoRow.holds Try.pinned (OpenSpec.upto placeMatchesSpecSpec)

/-- 'linkhouselaw3.PlaceKeepsApart', WHERE WHAT IT READS IS OF BULK AT MOST 1048576: true; the input reads as it did. -/
def placeKeepsApartUptoRow : OpenClaim := { program := "ytnbeamaoblmbhaa", sum := "e8d1806d817a0aa7e9e3429b62d8c6a6d43aeb8428fbd87a3f407becab9d771f", func := "linkhouse/linkhouselaw3.PlaceKeepsApart", spec := "placeKeepsApart", unfollowed := true, recurses := true, apart := false, narrowed := true }
def PlaceKeepsApartUptoSaid : Prop := placeKeepsApartUptoRow.holds Try.pinned (OpenSpec.upto placeKeepsApartSpec)

/-- 'linkhouselaw3.PlaceMoreBehind', WHERE WHAT IT READS IS OF BULK AT MOST 1048576: true; the input reads as it did. -/
def placeMoreBehindUptoRow : OpenClaim := { program := "ytnbeamaoblmbhaa", sum := "e8d1806d817a0aa7e9e3429b62d8c6a6d43aeb8428fbd87a3f407becab9d771f", func := "linkhouse/linkhouselaw3.PlaceMoreBehind", spec := "placeMoreBehind", unfollowed := true, recurses := true, apart := false, narrowed := true }
def PlaceMoreBehindUptoSaid : Prop := placeMoreBehindUptoRow.holds Try.pinned (OpenSpec.upto placeMoreBehindSpec)

end Rows
end Go.Proofs.Ytnbeamaoblmbhaa
