/-
  No cell of these rows narrows 'for every input' (looked for: loops, veiled, ifaces, maps, wideKeys, modest, calm, conditions, laid).
  DERIVED. THE GIVEN ROWS OF THIS SEAT. 12 by the template 'for every input the law returns true; each argument reads behind the call as it read before'; 0 by the template 'total and deterministic' (their statements: YtbfpnpoafepjjaaTotals.lean).
  GIVEN WITH THE SEED: the statements are not yours to turn. If you find one false, say at which input.
  Laid BY PROGRAM, IN A SANDBOX (cutbox-rows.mjs): the forced cells as the released guide's own fill.sh prints them over the translation 799b71e879c90576… (all of the seat's roots in one cut). By AI agents, Wed Nov 11 2026. No macro, syntax, notation, axiom, sorry.
-/
import Derived.Test.YtbfpnpoafepjjaaChecked
import GoSem.Claim
import GoSem.ClaimJoined
import GoSem.ClaimMapViews
import Derived.JoinedTies
import Derived.KernelRfl
namespace Go.Proofs.Ytbfpnpoafepjjaa
/- THE CELL 'sum', in the pinned program and in every row, IS THE sha256 OF THE DUMP (.gsa) THAT YtbfpnpoafepjjaaProg.lean LOADS. Nothing in Lean hashes anything: it is a label: what it is worth is what the hold of that sum in a sandbox is worth. -/
noncomputable def Try.pinned : Pinned := { name := "ytbfpnpoafepjjaa", sum := "799b71e879c9057601ffb760d8e0d4ab7652564f2aa090e97b265dfce29a5cca", checked := Try.checked }
namespace Rows
def none {H : Type} : Left H := { results := [], args := [] }

/-- 'strakelaw09.StripeNext': WHATEVER THE INPUT: true; the input reads as it did. -/
def stripeNextSpec : ChangeSpec := { name := "stripeNext", fn := fun _ => fun
  | [d1, d2, d3] => { results := [.lit (.bool true)], args := [d1, d2, d3] }
  | _ => none }
def stripeNextRow : OpenClaim := { program := "ytbfpnpoafepjjaa", sum := "799b71e879c9057601ffb760d8e0d4ab7652564f2aa090e97b265dfce29a5cca", func := "strake/strakelaw09.StripeNext", spec := "stripeNext", unfollowed := true, recurses := true, apart := false }
def StripeNextSaid : Prop := stripeNextRow.holds Try.pinned (OpenSpec.ofChange stripeNextSpec)

/-- ITS FALSE NEIGHBOUR: 'it returns false'. Refute it at one input. -/
def stripeNextWrong : ChangeSpec := { name := "stripeNext", fn := fun _ => fun
  | [d1, d2, d3] => { results := [.lit (.bool false)], args := [d1, d2, d3] }
  | _ => none }
def StripeNextWrongFalsely : Prop := stripeNextRow.holds Try.pinned (OpenSpec.ofChange stripeNextWrong)

/-- 'strakelaw09.StripeAll': WHATEVER THE INPUT: true; the input reads as it did. -/
def stripeAllSpec : ChangeSpec := { name := "stripeAll", fn := fun _ => fun
  | [d1, d2] => { results := [.lit (.bool true)], args := [d1, d2] }
  | _ => none }
def stripeAllRow : OpenClaim := { program := "ytbfpnpoafepjjaa", sum := "799b71e879c9057601ffb760d8e0d4ab7652564f2aa090e97b265dfce29a5cca", func := "strake/strakelaw09.StripeAll", spec := "stripeAll", unfollowed := true, recurses := true, apart := false }
def StripeAllSaid : Prop := stripeAllRow.holds Try.pinned (OpenSpec.ofChange stripeAllSpec)

/-- ITS FALSE NEIGHBOUR: 'it returns false'. Refute it at one input. -/
def stripeAllWrong : ChangeSpec := { name := "stripeAll", fn := fun _ => fun
  | [d1, d2] => { results := [.lit (.bool false)], args := [d1, d2] }
  | _ => none }
def StripeAllWrongFalsely : Prop := stripeAllRow.holds Try.pinned (OpenSpec.ofChange stripeAllWrong)

/-- 'strakelaw04.BitsAll': WHATEVER THE INPUT: true; the input reads as it did. -/
def bitsAllSpec : ChangeSpec := { name := "bitsAll", fn := fun _ => fun
  | [d] => { results := [.lit (.bool true)], args := [d] }
  | _ => none }
def bitsAllRow : OpenClaim := { program := "ytbfpnpoafepjjaa", sum := "799b71e879c9057601ffb760d8e0d4ab7652564f2aa090e97b265dfce29a5cca", func := "strake/strakelaw04.BitsAll", spec := "bitsAll", unfollowed := true, recurses := true, apart := false }
def BitsAllSaid : Prop := bitsAllRow.holds Try.pinned (OpenSpec.ofChange bitsAllSpec)

/-- ITS FALSE NEIGHBOUR: 'it returns false'. Refute it at one input. -/
def bitsAllWrong : ChangeSpec := { name := "bitsAll", fn := fun _ => fun
  | [d] => { results := [.lit (.bool false)], args := [d] }
  | _ => none }
def BitsAllWrongFalsely : Prop := bitsAllRow.holds Try.pinned (OpenSpec.ofChange bitsAllWrong)

/-- 'strakelaw03.GeomNumbers': WHATEVER THE INPUT: true; the input reads as it did. -/
def geomNumbersSpec : ChangeSpec := { name := "geomNumbers", fn := fun _ => fun
  | [d1, d2] => { results := [.lit (.bool true)], args := [d1, d2] }
  | _ => none }
def geomNumbersRow : OpenClaim := { program := "ytbfpnpoafepjjaa", sum := "799b71e879c9057601ffb760d8e0d4ab7652564f2aa090e97b265dfce29a5cca", func := "strake/strakelaw03.GeomNumbers", spec := "geomNumbers", unfollowed := true, recurses := true, apart := false }
def GeomNumbersSaid : Prop := geomNumbersRow.holds Try.pinned (OpenSpec.ofChange geomNumbersSpec)

/-- ITS FALSE NEIGHBOUR: 'it returns false'. Refute it at one input. -/
def geomNumbersWrong : ChangeSpec := { name := "geomNumbers", fn := fun _ => fun
  | [d1, d2] => { results := [.lit (.bool false)], args := [d1, d2] }
  | _ => none }
def GeomNumbersWrongFalsely : Prop := geomNumbersRow.holds Try.pinned (OpenSpec.ofChange geomNumbersWrong)

/-- 'strakelaw09.StripeLeft': WHATEVER THE INPUT: true; the input reads as it did. -/
def stripeLeftSpec : ChangeSpec := { name := "stripeLeft", fn := fun _ => fun
  | [d1, d2, d3] => { results := [.lit (.bool true)], args := [d1, d2, d3] }
  | _ => none }
def stripeLeftRow : OpenClaim := { program := "ytbfpnpoafepjjaa", sum := "799b71e879c9057601ffb760d8e0d4ab7652564f2aa090e97b265dfce29a5cca", func := "strake/strakelaw09.StripeLeft", spec := "stripeLeft", unfollowed := true, recurses := true, apart := false }
def StripeLeftSaid : Prop := stripeLeftRow.holds Try.pinned (OpenSpec.ofChange stripeLeftSpec)

/-- ITS FALSE NEIGHBOUR: 'it returns false'. Refute it at one input. -/
def stripeLeftWrong : ChangeSpec := { name := "stripeLeft", fn := fun _ => fun
  | [d1, d2, d3] => { results := [.lit (.bool false)], args := [d1, d2, d3] }
  | _ => none }
def StripeLeftWrongFalsely : Prop := stripeLeftRow.holds Try.pinned (OpenSpec.ofChange stripeLeftWrong)

/-- 'strakelaw09.StripeLess': WHATEVER THE INPUT: true; the input reads as it did. -/
def stripeLessSpec : ChangeSpec := { name := "stripeLess", fn := fun _ => fun
  | [d1, d2, d3] => { results := [.lit (.bool true)], args := [d1, d2, d3] }
  | _ => none }
def stripeLessRow : OpenClaim := { program := "ytbfpnpoafepjjaa", sum := "799b71e879c9057601ffb760d8e0d4ab7652564f2aa090e97b265dfce29a5cca", func := "strake/strakelaw09.StripeLess", spec := "stripeLess", unfollowed := true, recurses := true, apart := false }
def StripeLessSaid : Prop := stripeLessRow.holds Try.pinned (OpenSpec.ofChange stripeLessSpec)

/-- ITS FALSE NEIGHBOUR: 'it returns false'. Refute it at one input. -/
def stripeLessWrong : ChangeSpec := { name := "stripeLess", fn := fun _ => fun
  | [d1, d2, d3] => { results := [.lit (.bool false)], args := [d1, d2, d3] }
  | _ => none }
def StripeLessWrongFalsely : Prop := stripeLessRow.holds Try.pinned (OpenSpec.ofChange stripeLessWrong)

/-- 'strakelaw09.StripeSpots': WHATEVER THE INPUT: true; the input reads as it did. -/
def stripeSpotsSpec : ChangeSpec := { name := "stripeSpots", fn := fun _ => fun
  | [d1, d2, d3] => { results := [.lit (.bool true)], args := [d1, d2, d3] }
  | _ => none }
def stripeSpotsRow : OpenClaim := { program := "ytbfpnpoafepjjaa", sum := "799b71e879c9057601ffb760d8e0d4ab7652564f2aa090e97b265dfce29a5cca", func := "strake/strakelaw09.StripeSpots", spec := "stripeSpots", unfollowed := true, recurses := true, apart := false }
def StripeSpotsSaid : Prop := stripeSpotsRow.holds Try.pinned (OpenSpec.ofChange stripeSpotsSpec)

/-- ITS FALSE NEIGHBOUR: 'it returns false'. Refute it at one input. -/
def stripeSpotsWrong : ChangeSpec := { name := "stripeSpots", fn := fun _ => fun
  | [d1, d2, d3] => { results := [.lit (.bool false)], args := [d1, d2, d3] }
  | _ => none }
def StripeSpotsWrongFalsely : Prop := stripeSpotsRow.holds Try.pinned (OpenSpec.ofChange stripeSpotsWrong)

/-- 'strakelaw09.StripeStands': WHATEVER THE INPUT: true; the input reads as it did. -/
def stripeStandsSpec : ChangeSpec := { name := "stripeStands", fn := fun _ => fun
  | [d1, d2, d3] => { results := [.lit (.bool true)], args := [d1, d2, d3] }
  | _ => none }
def stripeStandsRow : OpenClaim := { program := "ytbfpnpoafepjjaa", sum := "799b71e879c9057601ffb760d8e0d4ab7652564f2aa090e97b265dfce29a5cca", func := "strake/strakelaw09.StripeStands", spec := "stripeStands", unfollowed := true, recurses := true, apart := false }
def StripeStandsSaid : Prop := stripeStandsRow.holds Try.pinned (OpenSpec.ofChange stripeStandsSpec)

/-- ITS FALSE NEIGHBOUR: 'it returns false'. Refute it at one input. -/
def stripeStandsWrong : ChangeSpec := { name := "stripeStands", fn := fun _ => fun
  | [d1, d2, d3] => { results := [.lit (.bool false)], args := [d1, d2, d3] }
  | _ => none }
def StripeStandsWrongFalsely : Prop := stripeStandsRow.holds Try.pinned (OpenSpec.ofChange stripeStandsWrong)

/-- 'strakelaw11.L2pRefuses': WHATEVER THE INPUT: true; the input reads as it did. -/
def l2pRefusesSpec : ChangeSpec := { name := "l2pRefuses", fn := fun _ => fun
  | [d1, d2, d3] => { results := [.lit (.bool true)], args := [d1, d2, d3] }
  | _ => none }
def l2pRefusesRow : OpenClaim := { program := "ytbfpnpoafepjjaa", sum := "799b71e879c9057601ffb760d8e0d4ab7652564f2aa090e97b265dfce29a5cca", func := "strake/strakelaw11.L2pRefuses", spec := "l2pRefuses", unfollowed := true, recurses := true, apart := false }
def L2pRefusesSaid : Prop := l2pRefusesRow.holds Try.pinned (OpenSpec.ofChange l2pRefusesSpec)

/-- ITS FALSE NEIGHBOUR: 'it returns false'. Refute it at one input. -/
def l2pRefusesWrong : ChangeSpec := { name := "l2pRefuses", fn := fun _ => fun
  | [d1, d2, d3] => { results := [.lit (.bool false)], args := [d1, d2, d3] }
  | _ => none }
def L2pRefusesWrongFalsely : Prop := l2pRefusesRow.holds Try.pinned (OpenSpec.ofChange l2pRefusesWrong)

/-- 'strakelaw11.L2pNewest': WHATEVER THE INPUT: true; the input reads as it did. -/
def l2pNewestSpec : ChangeSpec := { name := "l2pNewest", fn := fun _ => fun
  | [d1, d2] => { results := [.lit (.bool true)], args := [d1, d2] }
  | _ => none }
def l2pNewestRow : OpenClaim := { program := "ytbfpnpoafepjjaa", sum := "799b71e879c9057601ffb760d8e0d4ab7652564f2aa090e97b265dfce29a5cca", func := "strake/strakelaw11.L2pNewest", spec := "l2pNewest", unfollowed := true, recurses := true, apart := false }
def L2pNewestSaid : Prop := l2pNewestRow.holds Try.pinned (OpenSpec.ofChange l2pNewestSpec)

/-- ITS FALSE NEIGHBOUR: 'it returns false'. Refute it at one input. -/
def l2pNewestWrong : ChangeSpec := { name := "l2pNewest", fn := fun _ => fun
  | [d1, d2] => { results := [.lit (.bool false)], args := [d1, d2] }
  | _ => none }
def L2pNewestWrongFalsely : Prop := l2pNewestRow.holds Try.pinned (OpenSpec.ofChange l2pNewestWrong)

/-- 'strakelaw11.L2pThere': WHATEVER THE INPUT: true; the input reads as it did. -/
def l2pThereSpec : ChangeSpec := { name := "l2pThere", fn := fun _ => fun
  | [d1, d2, d3] => { results := [.lit (.bool true)], args := [d1, d2, d3] }
  | _ => none }
def l2pThereRow : OpenClaim := { program := "ytbfpnpoafepjjaa", sum := "799b71e879c9057601ffb760d8e0d4ab7652564f2aa090e97b265dfce29a5cca", func := "strake/strakelaw11.L2pThere", spec := "l2pThere", unfollowed := true, recurses := true, apart := false }
def L2pThereSaid : Prop := l2pThereRow.holds Try.pinned (OpenSpec.ofChange l2pThereSpec)

/-- ITS FALSE NEIGHBOUR: 'it returns false'. Refute it at one input. -/
def l2pThereWrong : ChangeSpec := { name := "l2pThere", fn := fun _ => fun
  | [d1, d2, d3] => { results := [.lit (.bool false)], args := [d1, d2, d3] }
  | _ => none }
def L2pThereWrongFalsely : Prop := l2pThereRow.holds Try.pinned (OpenSpec.ofChange l2pThereWrong)

/-- 'strakelaw11.L2pNews': WHATEVER THE INPUT: true; the input reads as it did. -/
def l2pNewsSpec : ChangeSpec := { name := "l2pNews", fn := fun _ => fun
  | [d1, d2, d3] => { results := [.lit (.bool true)], args := [d1, d2, d3] }
  | _ => none }
def l2pNewsRow : OpenClaim := { program := "ytbfpnpoafepjjaa", sum := "799b71e879c9057601ffb760d8e0d4ab7652564f2aa090e97b265dfce29a5cca", func := "strake/strakelaw11.L2pNews", spec := "l2pNews", unfollowed := true, recurses := true, apart := false }
def L2pNewsSaid : Prop := l2pNewsRow.holds Try.pinned (OpenSpec.ofChange l2pNewsSpec)

/-- ITS FALSE NEIGHBOUR: 'it returns false'. Refute it at one input. -/
def l2pNewsWrong : ChangeSpec := { name := "l2pNews", fn := fun _ => fun
  | [d1, d2, d3] => { results := [.lit (.bool false)], args := [d1, d2, d3] }
  | _ => none }
def L2pNewsWrongFalsely : Prop := l2pNewsRow.holds Try.pinned (OpenSpec.ofChange l2pNewsWrong)

/- THE SECOND FORM. 'bulk': how many values and letters a reading holds, each counted each time it is reached (what is shared counts as often as it is met; a slice's spare places count too). A statement '..UptoSaid' is the law's where the arguments, and the package variables that the reading takes, are together of bulk at most 1048576: NARROWER than '..Said'. Prove '..Said' where nothing that the law and all that it calls make is longer than what came in: it says more and counts as full. Else prove '..UptoSaid'. A law counts once. -/
mutual
def uptoBulk {H : Type} : DataW H → Nat
  | .lit (.string bytes) => bytes.length + 1
  | .lit _ => 1
  | .nil => 1
  | .ptr d => uptoBulk d + 1
  | .slice elems spare => uptoBulkAll elems + uptoBulkAll spare + 1
  | .agg parts => uptoBulkAll parts + 1
  | .iface _ d => uptoBulk d + 1
  | .map entries => uptoBulkEntries entries + 1
  | .held _ => 1
def uptoBulkAll {H : Type} : List (DataW H) → Nat
  | [] => 0
  | d :: r => uptoBulk d + uptoBulkAll r
def uptoBulkEntries {H : Type} : List (Lit × DataW H) → Nat
  | [] => 0
  | x :: r => uptoBulkEntry x + uptoBulkEntries r
def uptoBulkEntry {H : Type} : Lit × DataW H → Nat
  | (.string bytes, d) => bytes.length + uptoBulk d + 1
  | (_, d) => uptoBulk d + 1
 end
def uptoSmall : (H : Type) → List (DataW H) → Bool := fun _ ds => decide (uptoBulkAll ds ≤ 1048576)
def OpenSpec.upto (s : _root_.Go.ChangeSpec) : _root_.Go.OpenSpec := { _root_.Go.OpenSpec.ofChange s with cond := some uptoSmall }

/-- 'strakelaw09.StripeNext', WHERE WHAT IT READS IS OF BULK AT MOST 1048576: true; the input reads as it did. -/
def stripeNextUptoRow : OpenClaim := { program := "ytbfpnpoafepjjaa", sum := "799b71e879c9057601ffb760d8e0d4ab7652564f2aa090e97b265dfce29a5cca", func := "strake/strakelaw09.StripeNext", spec := "stripeNext", unfollowed := true, recurses := true, apart := false, narrowed := true }
def StripeNextUptoSaid : Prop := stripeNextUptoRow.holds Try.pinned (OpenSpec.upto stripeNextSpec)

/-- 'strakelaw09.StripeAll', WHERE WHAT IT READS IS OF BULK AT MOST 1048576: true; the input reads as it did. -/
def stripeAllUptoRow : OpenClaim := { program := "ytbfpnpoafepjjaa", sum := "799b71e879c9057601ffb760d8e0d4ab7652564f2aa090e97b265dfce29a5cca", func := "strake/strakelaw09.StripeAll", spec := "stripeAll", unfollowed := true, recurses := true, apart := false, narrowed := true }
def StripeAllUptoSaid : Prop := stripeAllUptoRow.holds Try.pinned (OpenSpec.upto stripeAllSpec)

/-- 'strakelaw04.BitsAll', WHERE WHAT IT READS IS OF BULK AT MOST 1048576: true; the input reads as it did. -/
def bitsAllUptoRow : OpenClaim := { program := "ytbfpnpoafepjjaa", sum := "799b71e879c9057601ffb760d8e0d4ab7652564f2aa090e97b265dfce29a5cca", func := "strake/strakelaw04.BitsAll", spec := "bitsAll", unfollowed := true, recurses := true, apart := false, narrowed := true }
def BitsAllUptoSaid : Prop := bitsAllUptoRow.holds Try.pinned (OpenSpec.upto bitsAllSpec)

/-- 'strakelaw03.GeomNumbers', WHERE WHAT IT READS IS OF BULK AT MOST 1048576: true; the input reads as it did. -/
def geomNumbersUptoRow : OpenClaim := { program := "ytbfpnpoafepjjaa", sum := "799b71e879c9057601ffb760d8e0d4ab7652564f2aa090e97b265dfce29a5cca", func := "strake/strakelaw03.GeomNumbers", spec := "geomNumbers", unfollowed := true, recurses := true, apart := false, narrowed := true }
def GeomNumbersUptoSaid : Prop := geomNumbersUptoRow.holds Try.pinned (OpenSpec.upto geomNumbersSpec)

/-- 'strakelaw09.StripeLeft', WHERE WHAT IT READS IS OF BULK AT MOST 1048576: true; the input reads as it did. -/
def stripeLeftUptoRow : OpenClaim := { program := "ytbfpnpoafepjjaa", sum := "799b71e879c9057601ffb760d8e0d4ab7652564f2aa090e97b265dfce29a5cca", func := "strake/strakelaw09.StripeLeft", spec := "stripeLeft", unfollowed := true, recurses := true, apart := false, narrowed := true }
def StripeLeftUptoSaid : Prop := stripeLeftUptoRow.holds Try.pinned (OpenSpec.upto stripeLeftSpec)

/-- 'strakelaw09.StripeLess', WHERE WHAT IT READS IS OF BULK AT MOST 1048576: true; the input reads as it did. -/
def stripeLessUptoRow : OpenClaim := { program := "ytbfpnpoafepjjaa", sum := "799b71e879c9057601ffb760d8e0d4ab7652564f2aa090e97b265dfce29a5cca", func := "strake/strakelaw09.StripeLess", spec := "stripeLess", unfollowed := true, recurses := true, apart := false, narrowed := true }
def StripeLessUptoSaid : Prop := stripeLessUptoRow.holds Try.pinned (OpenSpec.upto stripeLessSpec)

/-- 'strakelaw09.StripeSpots', WHERE WHAT IT READS IS OF BULK AT MOST 1048576: true; the input reads as it did. -/
def stripeSpotsUptoRow : OpenClaim := { program := "ytbfpnpoafepjjaa", sum := "799b71e879c9057601ffb760d8e0d4ab7652564f2aa090e97b265dfce29a5cca", func := "strake/strakelaw09.StripeSpots", spec := "stripeSpots", unfollowed := true, recurses := true, apart := false, narrowed := true }
def StripeSpotsUptoSaid : Prop := stripeSpotsUptoRow.holds Try.pinned (OpenSpec.upto stripeSpotsSpec)

/-- 'strakelaw09.StripeStands', WHERE WHAT IT READS IS OF BULK AT MOST 1048576: true; the input reads as it did. -/
def stripeStandsUptoRow : OpenClaim := { program := "ytbfpnpoafepjjaa", sum := "799b71e879c9057601ffb760d8e0d4ab7652564f2aa090e97b265dfce29a5cca", func := "strake/strakelaw09.StripeStands", spec := "stripeStands", unfollowed := true, recurses := true, apart := false, narrowed := true }
def StripeStandsUptoSaid : Prop := stripeStandsUptoRow.holds Try.pinned (OpenSpec.upto stripeStandsSpec)

/-- 'strakelaw11.L2pRefuses', WHERE WHAT IT READS IS OF BULK AT MOST 1048576: true; the input reads as it did. -/
def l2pRefusesUptoRow : OpenClaim := { program := "ytbfpnpoafepjjaa", sum := "799b71e879c9057601ffb760d8e0d4ab7652564f2aa090e97b265dfce29a5cca", func := "strake/strakelaw11.L2pRefuses", spec := "l2pRefuses", unfollowed := true, recurses := true, apart := false, narrowed := true }
def L2pRefusesUptoSaid : Prop := l2pRefusesUptoRow.holds Try.pinned (OpenSpec.upto l2pRefusesSpec)

/-- 'strakelaw11.L2pNewest', WHERE WHAT IT READS IS OF BULK AT MOST 1048576: true; the input reads as it did. -/
def l2pNewestUptoRow : OpenClaim := { program := "ytbfpnpoafepjjaa", sum := "799b71e879c9057601ffb760d8e0d4ab7652564f2aa090e97b265dfce29a5cca", func := "strake/strakelaw11.L2pNewest", spec := "l2pNewest", unfollowed := true, recurses := true, apart := false, narrowed := true }
def L2pNewestUptoSaid : Prop := l2pNewestUptoRow.holds Try.pinned (OpenSpec.upto l2pNewestSpec)

/-- 'strakelaw11.L2pThere', WHERE WHAT IT READS IS OF BULK AT MOST 1048576: true; the input reads as it did. -/
def l2pThereUptoRow : OpenClaim := { program := "ytbfpnpoafepjjaa", sum := "799b71e879c9057601ffb760d8e0d4ab7652564f2aa090e97b265dfce29a5cca", func := "strake/strakelaw11.L2pThere", spec := "l2pThere", unfollowed := true, recurses := true, apart := false, narrowed := true }
def L2pThereUptoSaid : Prop := l2pThereUptoRow.holds Try.pinned (OpenSpec.upto l2pThereSpec)

/-- 'strakelaw11.L2pNews', WHERE WHAT IT READS IS OF BULK AT MOST 1048576: true; the input reads as it did. -/
def l2pNewsUptoRow : OpenClaim := { program := "ytbfpnpoafepjjaa", sum := "799b71e879c9057601ffb760d8e0d4ab7652564f2aa090e97b265dfce29a5cca", func := "strake/strakelaw11.L2pNews", spec := "l2pNews", unfollowed := true, recurses := true, apart := false, narrowed := true }
def L2pNewsUptoSaid : Prop := l2pNewsUptoRow.holds Try.pinned (OpenSpec.upto l2pNewsSpec)

end Rows
end Go.Proofs.Ytbfpnpoafepjjaa
