/-
  No cell of these rows narrows 'for every input' (looked for: loops, veiled, ifaces, maps, wideKeys, modest, calm, conditions, laid).
  DERIVED. THE GIVEN ROWS OF THIS SEAT. 12 by the template 'for every input the law returns true; each argument reads behind the call as it read before'; 0 by the template 'total and deterministic' (their statements: YtbeahoimefnofaaTotals.lean).
  GIVEN WITH THE SEED: the statements are not yours to turn. If you find one false, say at which input.
  Laid BY PROGRAM, IN A SANDBOX (cutbox-rows.mjs): the forced cells as the released guide's own fill.sh prints them over the translation 332c4a3b3a1e37bd… (all of the seat's roots in one cut). By AI agents, Wed Nov 11 2026. No macro, syntax, notation, axiom, sorry.
-/
import Derived.Test.YtbeahoimefnofaaChecked
import GoSem.Claim
import GoSem.ClaimJoined
import GoSem.ClaimMapViews
import Derived.JoinedTies
import Derived.KernelRfl
namespace Go.Proofs.Ytbeahoimefnofaa
/- THE CELL 'sum', in the pinned program and in every row, IS THE sha256 OF THE DUMP (.gsa) THAT YtbeahoimefnofaaProg.lean LOADS. Nothing in Lean hashes anything: it is a label: what it is worth is what the hold of that sum in a sandbox is worth. -/
noncomputable def Try.pinned : Pinned := { name := "ytbeahoimefnofaa", sum := "332c4a3b3a1e37bd508b5782bcafc3d701e5b417eae1651b8ebe568e8337eccc", checked := Try.checked }
namespace Rows
def none {H : Type} : Left H := { results := [], args := [] }

/-- 'strakelaw04.BitsOwn': WHATEVER THE INPUT: true; the input reads as it did. -/
def bitsOwnSpec : ChangeSpec := { name := "bitsOwn", fn := fun _ => fun
  | [d1, d2, d3] => { results := [.lit (.bool true)], args := [d1, d2, d3] }
  | _ => none }
def bitsOwnRow : OpenClaim := { program := "ytbeahoimefnofaa", sum := "332c4a3b3a1e37bd508b5782bcafc3d701e5b417eae1651b8ebe568e8337eccc", func := "strake/strakelaw04.BitsOwn", spec := "bitsOwn", apart := false }
def BitsOwnSaid : Prop := bitsOwnRow.holds Try.pinned (OpenSpec.ofChange bitsOwnSpec)

/-- ITS FALSE NEIGHBOUR: 'it returns false'. Refute it at one input. -/
def bitsOwnWrong : ChangeSpec := { name := "bitsOwn", fn := fun _ => fun
  | [d1, d2, d3] => { results := [.lit (.bool false)], args := [d1, d2, d3] }
  | _ => none }
def BitsOwnWrongFalsely : Prop := bitsOwnRow.holds Try.pinned (OpenSpec.ofChange bitsOwnWrong)

/-- 'strakelaw04.BitsSets': WHATEVER THE INPUT: true; the input reads as it did. -/
def bitsSetsSpec : ChangeSpec := { name := "bitsSets", fn := fun _ => fun
  | [d1, d2, d3] => { results := [.lit (.bool true)], args := [d1, d2, d3] }
  | _ => none }
def bitsSetsRow : OpenClaim := { program := "ytbeahoimefnofaa", sum := "332c4a3b3a1e37bd508b5782bcafc3d701e5b417eae1651b8ebe568e8337eccc", func := "strake/strakelaw04.BitsSets", spec := "bitsSets", apart := false }
def BitsSetsSaid : Prop := bitsSetsRow.holds Try.pinned (OpenSpec.ofChange bitsSetsSpec)

/-- ITS FALSE NEIGHBOUR: 'it returns false'. Refute it at one input. -/
def bitsSetsWrong : ChangeSpec := { name := "bitsSets", fn := fun _ => fun
  | [d1, d2, d3] => { results := [.lit (.bool false)], args := [d1, d2, d3] }
  | _ => none }
def BitsSetsWrongFalsely : Prop := bitsSetsRow.holds Try.pinned (OpenSpec.ofChange bitsSetsWrong)

/-- 'strakelaw04.BitsBack': WHATEVER THE INPUT: true; the input reads as it did. -/
def bitsBackSpec : ChangeSpec := { name := "bitsBack", fn := fun _ => fun
  | [d1, d2, d3] => { results := [.lit (.bool true)], args := [d1, d2, d3] }
  | _ => none }
def bitsBackRow : OpenClaim := { program := "ytbeahoimefnofaa", sum := "332c4a3b3a1e37bd508b5782bcafc3d701e5b417eae1651b8ebe568e8337eccc", func := "strake/strakelaw04.BitsBack", spec := "bitsBack", apart := false }
def BitsBackSaid : Prop := bitsBackRow.holds Try.pinned (OpenSpec.ofChange bitsBackSpec)

/-- ITS FALSE NEIGHBOUR: 'it returns false'. Refute it at one input. -/
def bitsBackWrong : ChangeSpec := { name := "bitsBack", fn := fun _ => fun
  | [d1, d2, d3] => { results := [.lit (.bool false)], args := [d1, d2, d3] }
  | _ => none }
def BitsBackWrongFalsely : Prop := bitsBackRow.holds Try.pinned (OpenSpec.ofChange bitsBackWrong)

/-- 'strakelaw03.GeomPlaces': WHATEVER THE INPUT: true; the input reads as it did. -/
def geomPlacesSpec : ChangeSpec := { name := "geomPlaces", fn := fun _ => fun
  | [d1, d2] => { results := [.lit (.bool true)], args := [d1, d2] }
  | _ => none }
def geomPlacesRow : OpenClaim := { program := "ytbeahoimefnofaa", sum := "332c4a3b3a1e37bd508b5782bcafc3d701e5b417eae1651b8ebe568e8337eccc", func := "strake/strakelaw03.GeomPlaces", spec := "geomPlaces", apart := false }
def GeomPlacesSaid : Prop := geomPlacesRow.holds Try.pinned (OpenSpec.ofChange geomPlacesSpec)

/-- ITS FALSE NEIGHBOUR: 'it returns false'. Refute it at one input. -/
def geomPlacesWrong : ChangeSpec := { name := "geomPlaces", fn := fun _ => fun
  | [d1, d2] => { results := [.lit (.bool false)], args := [d1, d2] }
  | _ => none }
def GeomPlacesWrongFalsely : Prop := geomPlacesRow.holds Try.pinned (OpenSpec.ofChange geomPlacesWrong)

/-- 'strakelaw03.GeomRises': WHATEVER THE INPUT: true; the input reads as it did. -/
def geomRisesSpec : ChangeSpec := { name := "geomRises", fn := fun _ => fun
  | [d1, d2, d3] => { results := [.lit (.bool true)], args := [d1, d2, d3] }
  | _ => none }
def geomRisesRow : OpenClaim := { program := "ytbeahoimefnofaa", sum := "332c4a3b3a1e37bd508b5782bcafc3d701e5b417eae1651b8ebe568e8337eccc", func := "strake/strakelaw03.GeomRises", spec := "geomRises", unfollowed := true, recurses := true, apart := false }
def GeomRisesSaid : Prop := geomRisesRow.holds Try.pinned (OpenSpec.ofChange geomRisesSpec)

/-- ITS FALSE NEIGHBOUR: 'it returns false'. Refute it at one input. -/
def geomRisesWrong : ChangeSpec := { name := "geomRises", fn := fun _ => fun
  | [d1, d2, d3] => { results := [.lit (.bool false)], args := [d1, d2, d3] }
  | _ => none }
def GeomRisesWrongFalsely : Prop := geomRisesRow.holds Try.pinned (OpenSpec.ofChange geomRisesWrong)

/-- 'strakelaw04.BitsNext': WHATEVER THE INPUT: true; the input reads as it did. -/
def bitsNextSpec : ChangeSpec := { name := "bitsNext", fn := fun _ => fun
  | [d1, d2, d3] => { results := [.lit (.bool true)], args := [d1, d2, d3] }
  | _ => none }
def bitsNextRow : OpenClaim := { program := "ytbeahoimefnofaa", sum := "332c4a3b3a1e37bd508b5782bcafc3d701e5b417eae1651b8ebe568e8337eccc", func := "strake/strakelaw04.BitsNext", spec := "bitsNext", apart := false }
def BitsNextSaid : Prop := bitsNextRow.holds Try.pinned (OpenSpec.ofChange bitsNextSpec)

/-- ITS FALSE NEIGHBOUR: 'it returns false'. Refute it at one input. -/
def bitsNextWrong : ChangeSpec := { name := "bitsNext", fn := fun _ => fun
  | [d1, d2, d3] => { results := [.lit (.bool false)], args := [d1, d2, d3] }
  | _ => none }
def BitsNextWrongFalsely : Prop := bitsNextRow.holds Try.pinned (OpenSpec.ofChange bitsNextWrong)

/-- 'strakelaw03.GeomRights': WHATEVER THE INPUT: true; the input reads as it did. -/
def geomRightsSpec : ChangeSpec := { name := "geomRights", fn := fun _ => fun
  | [d] => { results := [.lit (.bool true)], args := [d] }
  | _ => none }
def geomRightsRow : OpenClaim := { program := "ytbeahoimefnofaa", sum := "332c4a3b3a1e37bd508b5782bcafc3d701e5b417eae1651b8ebe568e8337eccc", func := "strake/strakelaw03.GeomRights", spec := "geomRights", unfollowed := true, recurses := true, apart := false }
def GeomRightsSaid : Prop := geomRightsRow.holds Try.pinned (OpenSpec.ofChange geomRightsSpec)

/-- ITS FALSE NEIGHBOUR: 'it returns false'. Refute it at one input. -/
def geomRightsWrong : ChangeSpec := { name := "geomRights", fn := fun _ => fun
  | [d] => { results := [.lit (.bool false)], args := [d] }
  | _ => none }
def GeomRightsWrongFalsely : Prop := geomRightsRow.holds Try.pinned (OpenSpec.ofChange geomRightsWrong)

/-- 'strakelaw03.GeomParts': WHATEVER THE INPUT: true; the input reads as it did. -/
def geomPartsSpec : ChangeSpec := { name := "geomParts", fn := fun _ => fun
  | [d] => { results := [.lit (.bool true)], args := [d] }
  | _ => none }
def geomPartsRow : OpenClaim := { program := "ytbeahoimefnofaa", sum := "332c4a3b3a1e37bd508b5782bcafc3d701e5b417eae1651b8ebe568e8337eccc", func := "strake/strakelaw03.GeomParts", spec := "geomParts", unfollowed := true, recurses := true, apart := false }
def GeomPartsSaid : Prop := geomPartsRow.holds Try.pinned (OpenSpec.ofChange geomPartsSpec)

/-- ITS FALSE NEIGHBOUR: 'it returns false'. Refute it at one input. -/
def geomPartsWrong : ChangeSpec := { name := "geomParts", fn := fun _ => fun
  | [d] => { results := [.lit (.bool false)], args := [d] }
  | _ => none }
def GeomPartsWrongFalsely : Prop := geomPartsRow.holds Try.pinned (OpenSpec.ofChange geomPartsWrong)

/-- 'strakelaw04.BitsMakes': WHATEVER THE INPUT: true; the input reads as it did. -/
def bitsMakesSpec : ChangeSpec := { name := "bitsMakes", fn := fun _ => fun
  | [d1, d2] => { results := [.lit (.bool true)], args := [d1, d2] }
  | _ => none }
def bitsMakesRow : OpenClaim := { program := "ytbeahoimefnofaa", sum := "332c4a3b3a1e37bd508b5782bcafc3d701e5b417eae1651b8ebe568e8337eccc", func := "strake/strakelaw04.BitsMakes", spec := "bitsMakes", apart := false }
def BitsMakesSaid : Prop := bitsMakesRow.holds Try.pinned (OpenSpec.ofChange bitsMakesSpec)

/-- ITS FALSE NEIGHBOUR: 'it returns false'. Refute it at one input. -/
def bitsMakesWrong : ChangeSpec := { name := "bitsMakes", fn := fun _ => fun
  | [d1, d2] => { results := [.lit (.bool false)], args := [d1, d2] }
  | _ => none }
def BitsMakesWrongFalsely : Prop := bitsMakesRow.holds Try.pinned (OpenSpec.ofChange bitsMakesWrong)

/-- 'strakelaw04.BitsLists': WHATEVER THE INPUT: true; the input reads as it did. -/
def bitsListsSpec : ChangeSpec := { name := "bitsLists", fn := fun _ => fun
  | [d] => { results := [.lit (.bool true)], args := [d] }
  | _ => none }
def bitsListsRow : OpenClaim := { program := "ytbeahoimefnofaa", sum := "332c4a3b3a1e37bd508b5782bcafc3d701e5b417eae1651b8ebe568e8337eccc", func := "strake/strakelaw04.BitsLists", spec := "bitsLists", unfollowed := true, recurses := true, apart := false }
def BitsListsSaid : Prop := bitsListsRow.holds Try.pinned (OpenSpec.ofChange bitsListsSpec)

/-- ITS FALSE NEIGHBOUR: 'it returns false'. Refute it at one input. -/
def bitsListsWrong : ChangeSpec := { name := "bitsLists", fn := fun _ => fun
  | [d] => { results := [.lit (.bool false)], args := [d] }
  | _ => none }
def BitsListsWrongFalsely : Prop := bitsListsRow.holds Try.pinned (OpenSpec.ofChange bitsListsWrong)

/-- 'strakelaw03.GeomBack': WHATEVER THE INPUT: true; the input reads as it did. -/
def geomBackSpec : ChangeSpec := { name := "geomBack", fn := fun _ => fun
  | [d1, d2, d3] => { results := [.lit (.bool true)], args := [d1, d2, d3] }
  | _ => none }
def geomBackRow : OpenClaim := { program := "ytbeahoimefnofaa", sum := "332c4a3b3a1e37bd508b5782bcafc3d701e5b417eae1651b8ebe568e8337eccc", func := "strake/strakelaw03.GeomBack", spec := "geomBack", apart := false }
def GeomBackSaid : Prop := geomBackRow.holds Try.pinned (OpenSpec.ofChange geomBackSpec)

/-- ITS FALSE NEIGHBOUR: 'it returns false'. Refute it at one input. -/
def geomBackWrong : ChangeSpec := { name := "geomBack", fn := fun _ => fun
  | [d1, d2, d3] => { results := [.lit (.bool false)], args := [d1, d2, d3] }
  | _ => none }
def GeomBackWrongFalsely : Prop := geomBackRow.holds Try.pinned (OpenSpec.ofChange geomBackWrong)

/-- 'strakelaw03.GeomChans': WHATEVER THE INPUT: true; the input reads as it did. -/
def geomChansSpec : ChangeSpec := { name := "geomChans", fn := fun _ => fun
  | [d] => { results := [.lit (.bool true)], args := [d] }
  | _ => none }
def geomChansRow : OpenClaim := { program := "ytbeahoimefnofaa", sum := "332c4a3b3a1e37bd508b5782bcafc3d701e5b417eae1651b8ebe568e8337eccc", func := "strake/strakelaw03.GeomChans", spec := "geomChans", unfollowed := true, recurses := true, apart := false }
def GeomChansSaid : Prop := geomChansRow.holds Try.pinned (OpenSpec.ofChange geomChansSpec)

/-- ITS FALSE NEIGHBOUR: 'it returns false'. Refute it at one input. -/
def geomChansWrong : ChangeSpec := { name := "geomChans", fn := fun _ => fun
  | [d] => { results := [.lit (.bool false)], args := [d] }
  | _ => none }
def GeomChansWrongFalsely : Prop := geomChansRow.holds Try.pinned (OpenSpec.ofChange geomChansWrong)

/- THE SECOND FORM. 'bulk': how many values and letters a reading holds, each counted each time it is reached (what is shared counts as often as it is met; a slice's spare places count too). A statement '..UptoSaid' is the law's where the arguments, and the package variables that the reading takes, are together of bulk at most 1048576: NARROWER than '..Said'. Prove '..Said' where nothing that the law and all that it calls make is longer than what came in: it says more and counts as full. Else prove '..UptoSaid'. A law counts once. -/
mutual
def uptoBulk {H : Type} : DataW H → Nat
  | .lit (.string bytes) => bytes.length + 1
  | .lit _ => 1
  | .nil => 1
  | .ptr d => uptoBulk d + 1
  | .slice elems spare => uptoBulkAll elems + uptoBulkAll spare + 1
  | .agg parts => uptoBulkAll parts + 1
  | .iface _ d => uptoBulk d + 1
  | .map entries => uptoBulkEntries entries + 1
  | .held _ => 1
def uptoBulkAll {H : Type} : List (DataW H) → Nat
  | [] => 0
  | d :: r => uptoBulk d + uptoBulkAll r
def uptoBulkEntries {H : Type} : List (Lit × DataW H) → Nat
  | [] => 0
  | x :: r => uptoBulkEntry x + uptoBulkEntries r
def uptoBulkEntry {H : Type} : Lit × DataW H → Nat
  | (.string bytes, d) => bytes.length + uptoBulk d + 1
  | (_, d) => uptoBulk d + 1
 end
def uptoSmall : (H : Type) → List (DataW H) → Bool := fun _ ds => decide (uptoBulkAll ds ≤ 1048576)
def OpenSpec.upto (s : _root_.Go.ChangeSpec) : _root_.Go.OpenSpec := { _root_.Go.OpenSpec.ofChange s with cond := some uptoSmall }

/-- 'strakelaw04.BitsOwn', WHERE WHAT IT READS IS OF BULK AT MOST 1048576: true; the input reads as it did. -/
def bitsOwnUptoRow : OpenClaim := { program := "ytbeahoimefnofaa", sum := "332c4a3b3a1e37bd508b5782bcafc3d701e5b417eae1651b8ebe568e8337eccc", func := "strake/strakelaw04.BitsOwn", spec := "bitsOwn", apart := false, narrowed := true }
def BitsOwnUptoSaid : Prop := bitsOwnUptoRow.holds Try.pinned (OpenSpec.upto bitsOwnSpec)

/-- 'strakelaw04.BitsSets', WHERE WHAT IT READS IS OF BULK AT MOST 1048576: true; the input reads as it did. -/
def bitsSetsUptoRow : OpenClaim := { program := "ytbeahoimefnofaa", sum := "332c4a3b3a1e37bd508b5782bcafc3d701e5b417eae1651b8ebe568e8337eccc", func := "strake/strakelaw04.BitsSets", spec := "bitsSets", apart := false, narrowed := true }
def BitsSetsUptoSaid : Prop := bitsSetsUptoRow.holds Try.pinned (OpenSpec.upto bitsSetsSpec)

/-- 'strakelaw04.BitsBack', WHERE WHAT IT READS IS OF BULK AT MOST 1048576: true; the input reads as it did. -/
def bitsBackUptoRow : OpenClaim := { program := "ytbeahoimefnofaa", sum := "332c4a3b3a1e37bd508b5782bcafc3d701e5b417eae1651b8ebe568e8337eccc", func := "strake/strakelaw04.BitsBack", spec := "bitsBack", apart := false, narrowed := true }
def BitsBackUptoSaid : Prop := bitsBackUptoRow.holds Try.pinned (OpenSpec.upto bitsBackSpec)

/-- 'strakelaw03.GeomPlaces', WHERE WHAT IT READS IS OF BULK AT MOST 1048576: true; the input reads as it did. -/
def geomPlacesUptoRow : OpenClaim := { program := "ytbeahoimefnofaa", sum := "332c4a3b3a1e37bd508b5782bcafc3d701e5b417eae1651b8ebe568e8337eccc", func := "strake/strakelaw03.GeomPlaces", spec := "geomPlaces", apart := false, narrowed := true }
def GeomPlacesUptoSaid : Prop := geomPlacesUptoRow.holds Try.pinned (OpenSpec.upto geomPlacesSpec)

/-- 'strakelaw03.GeomRises', WHERE WHAT IT READS IS OF BULK AT MOST 1048576: true; the input reads as it did. -/
def geomRisesUptoRow : OpenClaim := { program := "ytbeahoimefnofaa", sum := "332c4a3b3a1e37bd508b5782bcafc3d701e5b417eae1651b8ebe568e8337eccc", func := "strake/strakelaw03.GeomRises", spec := "geomRises", unfollowed := true, recurses := true, apart := false, narrowed := true }
def GeomRisesUptoSaid : Prop := geomRisesUptoRow.holds Try.pinned (OpenSpec.upto geomRisesSpec)

/-- 'strakelaw04.BitsNext', WHERE WHAT IT READS IS OF BULK AT MOST 1048576: true; the input reads as it did. -/
def bitsNextUptoRow : OpenClaim := { program := "ytbeahoimefnofaa", sum := "332c4a3b3a1e37bd508b5782bcafc3d701e5b417eae1651b8ebe568e8337eccc", func := "strake/strakelaw04.BitsNext", spec := "bitsNext", apart := false, narrowed := true }
def BitsNextUptoSaid : Prop := bitsNextUptoRow.holds Try.pinned (OpenSpec.upto bitsNextSpec)

/-- 'strakelaw03.GeomRights', WHERE WHAT IT READS IS OF BULK AT MOST 1048576: true; the input reads as it did. -/
def geomRightsUptoRow : OpenClaim := { program := "ytbeahoimefnofaa", sum := "332c4a3b3a1e37bd508b5782bcafc3d701e5b417eae1651b8ebe568e8337eccc", func := "strake/strakelaw03.GeomRights", spec := "geomRights", unfollowed := true, recurses := true, apart := false, narrowed := true }
def GeomRightsUptoSaid : Prop := geomRightsUptoRow.holds Try.pinned (OpenSpec.upto geomRightsSpec)

/-- 'strakelaw03.GeomParts', WHERE WHAT IT READS IS OF BULK AT MOST 1048576: true; the input reads as it did. -/
def geomPartsUptoRow : OpenClaim := { program := "ytbeahoimefnofaa", sum := "332c4a3b3a1e37bd508b5782bcafc3d701e5b417eae1651b8ebe568e8337eccc", func := "strake/strakelaw03.GeomParts", spec := "geomParts", unfollowed := true, recurses := true, apart := false, narrowed := true }
def GeomPartsUptoSaid : Prop := geomPartsUptoRow.holds Try.pinned (OpenSpec.upto geomPartsSpec)

/-- 'strakelaw04.BitsMakes', WHERE WHAT IT READS IS OF BULK AT MOST 1048576: true; the input reads as it did. -/
def bitsMakesUptoRow : OpenClaim := { program := "ytbeahoimefnofaa", sum := "332c4a3b3a1e37bd508b5782bcafc3d701e5b417eae1651b8ebe568e8337eccc", func := "strake/strakelaw04.BitsMakes", spec := "bitsMakes", apart := false, narrowed := true }
def BitsMakesUptoSaid : Prop := bitsMakesUptoRow.holds Try.pinned (OpenSpec.upto bitsMakesSpec)

/-- 'strakelaw04.BitsLists', WHERE WHAT IT READS IS OF BULK AT MOST 1048576: true; the input reads as it did. -/
def bitsListsUptoRow : OpenClaim := { program := "ytbeahoimefnofaa", sum := "332c4a3b3a1e37bd508b5782bcafc3d701e5b417eae1651b8ebe568e8337eccc", func := "strake/strakelaw04.BitsLists", spec := "bitsLists", unfollowed := true, recurses := true, apart := false, narrowed := true }
def BitsListsUptoSaid : Prop := bitsListsUptoRow.holds Try.pinned (OpenSpec.upto bitsListsSpec)

/-- 'strakelaw03.GeomBack', WHERE WHAT IT READS IS OF BULK AT MOST 1048576: true; the input reads as it did. -/
def geomBackUptoRow : OpenClaim := { program := "ytbeahoimefnofaa", sum := "332c4a3b3a1e37bd508b5782bcafc3d701e5b417eae1651b8ebe568e8337eccc", func := "strake/strakelaw03.GeomBack", spec := "geomBack", apart := false, narrowed := true }
def GeomBackUptoSaid : Prop := geomBackUptoRow.holds Try.pinned (OpenSpec.upto geomBackSpec)

/-- 'strakelaw03.GeomChans', WHERE WHAT IT READS IS OF BULK AT MOST 1048576: true; the input reads as it did. -/
def geomChansUptoRow : OpenClaim := { program := "ytbeahoimefnofaa", sum := "332c4a3b3a1e37bd508b5782bcafc3d701e5b417eae1651b8ebe568e8337eccc", func := "strake/strakelaw03.GeomChans", spec := "geomChans", unfollowed := true, recurses := true, apart := false, narrowed := true }
def GeomChansUptoSaid : Prop := geomChansUptoRow.holds Try.pinned (OpenSpec.upto geomChansSpec)

end Rows
end Go.Proofs.Ytbeahoimefnofaa
