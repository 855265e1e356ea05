/-
  No cell of these rows narrows 'for every input' (looked for: loops, veiled, ifaces, maps, wideKeys, modest, calm, conditions, laid).
  DERIVED. THE GIVEN ROWS OF THIS SEAT. 5 by the template 'for every input the law returns true; each argument reads behind the call as it read before'; 0 by the template 'total and deterministic' (their statements: YtbeaahjinehpbaaTotals.lean).
  GIVEN WITH THE SEED: the statements are not yours to turn. If you find one false, say at which input.
  Laid BY PROGRAM, IN A SANDBOX (cutbox-rows.mjs): the forced cells as the released guide's own fill.sh prints them over the translation 73a13b49616983af… (all of the seat's roots in one cut). By AI agents, Wed Nov 11 2026. No macro, syntax, notation, axiom, sorry.
-/
import Derived.Test.YtbeaahjinehpbaaChecked
import GoSem.Claim
import GoSem.ClaimJoined
import GoSem.ClaimMapViews
import Derived.JoinedTies
import Derived.KernelRfl
namespace Go.Proofs.Ytbeaahjinehpbaa
/- THE CELL 'sum', in the pinned program and in every row, IS THE sha256 OF THE DUMP (.gsa) THAT YtbeaahjinehpbaaProg.lean LOADS. Nothing in Lean hashes anything: it is a label: what it is worth is what the hold of that sum in a sandbox is worth. -/
noncomputable def Try.pinned : Pinned := { name := "ytbeaahjinehpbaa", sum := "73a13b49616983afa996394defec15d3be56f3afbf1ada53759f6c5fcc96ce09", checked := Try.checked }
namespace Rows
def none {H : Type} : Left H := { results := [], args := [] }

/-- 'laws.FnExactHasOneZero': WHATEVER THE INPUT: true; the input reads as it did. -/
def fnExactHasOneZeroSpec : ChangeSpec := { name := "fnExactHasOneZero", fn := fun _ => fun
  | [d1, d2] => { results := [.lit (.bool true)], args := [d1, d2] }
  | _ => none }
def fnExactHasOneZeroRow : OpenClaim := { program := "ytbeaahjinehpbaa", sum := "73a13b49616983afa996394defec15d3be56f3afbf1ada53759f6c5fcc96ce09", func := "loop.example/g01242/laws.FnExactHasOneZero", spec := "fnExactHasOneZero", unfollowed := true, recurses := true, apart := false }
def FnExactHasOneZeroSaid : Prop := fnExactHasOneZeroRow.holds Try.pinned (OpenSpec.ofChange fnExactHasOneZeroSpec)

/-- ITS FALSE NEIGHBOUR: 'it returns false'. Refute it at one input. -/
def fnExactHasOneZeroWrong : ChangeSpec := { name := "fnExactHasOneZero", fn := fun _ => fun
  | [d1, d2] => { results := [.lit (.bool false)], args := [d1, d2] }
  | _ => none }
def FnExactHasOneZeroWrongFalsely : Prop := fnExactHasOneZeroRow.holds Try.pinned (OpenSpec.ofChange fnExactHasOneZeroWrong)

/-- 'laws.FnExactPartsOf': WHATEVER THE INPUT: true; the input reads as it did. -/
def fnExactPartsOfSpec : ChangeSpec := { name := "fnExactPartsOf", fn := fun _ => fun
  | [d] => { results := [.lit (.bool true)], args := [d] }
  | _ => none }
def fnExactPartsOfRow : OpenClaim := { program := "ytbeaahjinehpbaa", sum := "73a13b49616983afa996394defec15d3be56f3afbf1ada53759f6c5fcc96ce09", func := "loop.example/g01242/laws.FnExactPartsOf", spec := "fnExactPartsOf", unfollowed := true, recurses := true, apart := false }
def FnExactPartsOfSaid : Prop := fnExactPartsOfRow.holds Try.pinned (OpenSpec.ofChange fnExactPartsOfSpec)

/-- ITS FALSE NEIGHBOUR: 'it returns false'. Refute it at one input. -/
def fnExactPartsOfWrong : ChangeSpec := { name := "fnExactPartsOf", fn := fun _ => fun
  | [d] => { results := [.lit (.bool false)], args := [d] }
  | _ => none }
def FnExactPartsOfWrongFalsely : Prop := fnExactPartsOfRow.holds Try.pinned (OpenSpec.ofChange fnExactPartsOfWrong)

/-- 'laws.FnExactCommonParts': WHATEVER THE INPUT: true; the input reads as it did. -/
def fnExactCommonPartsSpec : ChangeSpec := { name := "fnExactCommonParts", fn := fun _ => fun
  | [d1, d2, d3, d4] => { results := [.lit (.bool true)], args := [d1, d2, d3, d4] }
  | _ => none }
def fnExactCommonPartsRow : OpenClaim := { program := "ytbeaahjinehpbaa", sum := "73a13b49616983afa996394defec15d3be56f3afbf1ada53759f6c5fcc96ce09", func := "loop.example/g01242/laws.FnExactCommonParts", spec := "fnExactCommonParts", unfollowed := true, recurses := true, apart := false }
def FnExactCommonPartsSaid : Prop := fnExactCommonPartsRow.holds Try.pinned (OpenSpec.ofChange fnExactCommonPartsSpec)

/-- ITS FALSE NEIGHBOUR: 'it returns false'. Refute it at one input. -/
def fnExactCommonPartsWrong : ChangeSpec := { name := "fnExactCommonParts", fn := fun _ => fun
  | [d1, d2, d3, d4] => { results := [.lit (.bool false)], args := [d1, d2, d3, d4] }
  | _ => none }
def FnExactCommonPartsWrongFalsely : Prop := fnExactCommonPartsRow.holds Try.pinned (OpenSpec.ofChange fnExactCommonPartsWrong)

/-- 'laws.FnExactRefinePart': WHATEVER THE INPUT: true; the input reads as it did. -/
def fnExactRefinePartSpec : ChangeSpec := { name := "fnExactRefinePart", fn := fun _ => fun
  | [d1, d2, d3] => { results := [.lit (.bool true)], args := [d1, d2, d3] }
  | _ => none }
def fnExactRefinePartRow : OpenClaim := { program := "ytbeaahjinehpbaa", sum := "73a13b49616983afa996394defec15d3be56f3afbf1ada53759f6c5fcc96ce09", func := "loop.example/g01242/laws.FnExactRefinePart", spec := "fnExactRefinePart", unfollowed := true, recurses := true, apart := false }
def FnExactRefinePartSaid : Prop := fnExactRefinePartRow.holds Try.pinned (OpenSpec.ofChange fnExactRefinePartSpec)

/-- ITS FALSE NEIGHBOUR: 'it returns false'. Refute it at one input. -/
def fnExactRefinePartWrong : ChangeSpec := { name := "fnExactRefinePart", fn := fun _ => fun
  | [d1, d2, d3] => { results := [.lit (.bool false)], args := [d1, d2, d3] }
  | _ => none }
def FnExactRefinePartWrongFalsely : Prop := fnExactRefinePartRow.holds Try.pinned (OpenSpec.ofChange fnExactRefinePartWrong)

/-- 'laws.FnExactZeroApprox': WHATEVER THE INPUT: true; the input reads as it did. -/
def fnExactZeroApproxSpec : ChangeSpec := { name := "fnExactZeroApprox", fn := fun _ => fun
  | [d1, d2, d3] => { results := [.lit (.bool true)], args := [d1, d2, d3] }
  | _ => none }
def fnExactZeroApproxRow : OpenClaim := { program := "ytbeaahjinehpbaa", sum := "73a13b49616983afa996394defec15d3be56f3afbf1ada53759f6c5fcc96ce09", func := "loop.example/g01242/laws.FnExactZeroApprox", spec := "fnExactZeroApprox", unfollowed := true, recurses := true, apart := false }
def FnExactZeroApproxSaid : Prop := fnExactZeroApproxRow.holds Try.pinned (OpenSpec.ofChange fnExactZeroApproxSpec)

/-- ITS FALSE NEIGHBOUR: 'it returns false'. Refute it at one input. -/
def fnExactZeroApproxWrong : ChangeSpec := { name := "fnExactZeroApprox", fn := fun _ => fun
  | [d1, d2, d3] => { results := [.lit (.bool false)], args := [d1, d2, d3] }
  | _ => none }
def FnExactZeroApproxWrongFalsely : Prop := fnExactZeroApproxRow.holds Try.pinned (OpenSpec.ofChange fnExactZeroApproxWrong)

/- THE SECOND FORM. 'bulk': how many values and letters a reading holds, each counted each time it is reached (what is shared counts as often as it is met; a slice's spare places count too). A statement '..UptoSaid' is the law's where the arguments, and the package variables that the reading takes, are together of bulk at most 1048576: NARROWER than '..Said'. Prove '..Said' where nothing that the law and all that it calls make is longer than what came in: it says more and counts as full. Else prove '..UptoSaid'. A law counts once. -/
mutual
def uptoBulk {H : Type} : DataW H → Nat
  | .lit (.string bytes) => bytes.length + 1
  | .lit _ => 1
  | .nil => 1
  | .ptr d => uptoBulk d + 1
  | .slice elems spare => uptoBulkAll elems + uptoBulkAll spare + 1
  | .agg parts => uptoBulkAll parts + 1
  | .iface _ d => uptoBulk d + 1
  | .map entries => uptoBulkEntries entries + 1
  | .held _ => 1
def uptoBulkAll {H : Type} : List (DataW H) → Nat
  | [] => 0
  | d :: r => uptoBulk d + uptoBulkAll r
def uptoBulkEntries {H : Type} : List (Lit × DataW H) → Nat
  | [] => 0
  | x :: r => uptoBulkEntry x + uptoBulkEntries r
def uptoBulkEntry {H : Type} : Lit × DataW H → Nat
  | (.string bytes, d) => bytes.length + uptoBulk d + 1
  | (_, d) => uptoBulk d + 1
 end
def uptoSmall : (H : Type) → List (DataW H) → Bool := fun _ ds => decide (uptoBulkAll ds ≤ 1048576)
def OpenSpec.upto (s : _root_.Go.ChangeSpec) : _root_.Go.OpenSpec := { _root_.Go.OpenSpec.ofChange s with cond := some uptoSmall }

/-- 'laws.FnExactHasOneZero', WHERE WHAT IT READS IS OF BULK AT MOST 1048576: true; the input reads as it did. -/
def fnExactHasOneZeroUptoRow : OpenClaim := { program := "ytbeaahjinehpbaa", sum := "73a13b49616983afa996394defec15d3be56f3afbf1ada53759f6c5fcc96ce09", func := "loop.example/g01242/laws.FnExactHasOneZero", spec := "fnExactHasOneZero", unfollowed := true, recurses := true, apart := false, narrowed := true }
def FnExactHasOneZeroUptoSaid : Prop := fnExactHasOneZeroUptoRow.holds Try.pinned (OpenSpec.upto fnExactHasOneZeroSpec)

/-- 'laws.FnExactPartsOf', WHERE WHAT IT READS IS OF BULK AT MOST 1048576: true; the input reads as it did. -/
def fnExactPartsOfUptoRow : OpenClaim := { program := "ytbeaahjinehpbaa", sum := "73a13b49616983afa996394defec15d3be56f3afbf1ada53759f6c5fcc96ce09", func := "loop.example/g01242/laws.FnExactPartsOf", spec := "fnExactPartsOf", unfollowed := true, recurses := true, apart := false, narrowed := true }
def FnExactPartsOfUptoSaid : Prop := fnExactPartsOfUptoRow.holds Try.pinned (OpenSpec.upto fnExactPartsOfSpec)

/-- 'laws.FnExactCommonParts', WHERE WHAT IT READS IS OF BULK AT MOST 1048576: true; the input reads as it did. -/
def fnExactCommonPartsUptoRow : OpenClaim := { program := "ytbeaahjinehpbaa", sum := "73a13b49616983afa996394defec15d3be56f3afbf1ada53759f6c5fcc96ce09", func := "loop.example/g01242/laws.FnExactCommonParts", spec := "fnExactCommonParts", unfollowed := true, recurses := true, apart := false, narrowed := true }
def FnExactCommonPartsUptoSaid : Prop := fnExactCommonPartsUptoRow.holds Try.pinned (OpenSpec.upto fnExactCommonPartsSpec)

/-- 'laws.FnExactRefinePart', WHERE WHAT IT READS IS OF BULK AT MOST 1048576: true; the input reads as it did. -/
def fnExactRefinePartUptoRow : OpenClaim := { program := "ytbeaahjinehpbaa", sum := "73a13b49616983afa996394defec15d3be56f3afbf1ada53759f6c5fcc96ce09", func := "loop.example/g01242/laws.FnExactRefinePart", spec := "fnExactRefinePart", unfollowed := true, recurses := true, apart := false, narrowed := true }
def FnExactRefinePartUptoSaid : Prop := fnExactRefinePartUptoRow.holds Try.pinned (OpenSpec.upto fnExactRefinePartSpec)

/-- 'laws.FnExactZeroApprox', WHERE WHAT IT READS IS OF BULK AT MOST 1048576: true; the input reads as it did. -/
def fnExactZeroApproxUptoRow : OpenClaim := { program := "ytbeaahjinehpbaa", sum := "73a13b49616983afa996394defec15d3be56f3afbf1ada53759f6c5fcc96ce09", func := "loop.example/g01242/laws.FnExactZeroApprox", spec := "fnExactZeroApprox", unfollowed := true, recurses := true, apart := false, narrowed := true }
def FnExactZeroApproxUptoSaid : Prop := fnExactZeroApproxUptoRow.holds Try.pinned (OpenSpec.upto fnExactZeroApproxSpec)

end Rows
end Go.Proofs.Ytbeaahjinehpbaa
