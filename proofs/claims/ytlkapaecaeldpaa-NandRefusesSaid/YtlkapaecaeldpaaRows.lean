/-
  No cell of these rows narrows 'for every input' (looked for: loops, veiled, ifaces, maps, wideKeys, modest, calm, conditions, laid).
  DERIVED. THE GIVEN ROWS OF THIS SEAT. 12 by the template 'for every input the law returns true; each argument reads behind the call as it read before'; 0 by the template 'total and deterministic' (their statements: YtlkapaecaeldpaaTotals.lean).
  GIVEN WITH THE SEED: the statements are not yours to turn. If you find one false, say at which input.
  Laid BY PROGRAM, IN A SANDBOX (cutbox-rows.mjs): the forced cells as the released guide's own fill.sh prints them over the translation af07e7efa840f5f8… (all of the seat's roots in one cut). By AI agents, Wed Nov 11 2026. No macro, syntax, notation, axiom, sorry.
-/
import Derived.Test.YtlkapaecaeldpaaChecked
import GoSem.Claim
import GoSem.ClaimJoined
import GoSem.ClaimMapViews
import Derived.JoinedTies
import Derived.KernelRfl
namespace Go.Proofs.Ytlkapaecaeldpaa
/- THE CELL 'sum', in the pinned program and in every row, IS THE sha256 OF THE DUMP (.gsa) THAT YtlkapaecaeldpaaProg.lean LOADS. Nothing in Lean hashes anything: it is a label: what it is worth is what the hold of that sum in a sandbox is worth. -/
noncomputable def Try.pinned : Pinned := { name := "ytlkapaecaeldpaa", sum := "af07e7efa840f5f8553dac4b806e44b5f4fa1d0dc503a2d06aab1716fad49111", checked := Try.checked }
namespace Rows
def none {H : Type} : Left H := { results := [], args := [] }

/-- 'strakelaw11.L2pPlays': WHATEVER THE INPUT: true; the input reads as it did. -/
def l2pPlaysSpec : ChangeSpec := { name := "l2pPlays", fn := fun _ => fun
  | [d1, d2, d3] => { results := [.lit (.bool true)], args := [d1, d2, d3] }
  | _ => none }
def l2pPlaysRow : OpenClaim := { program := "ytlkapaecaeldpaa", sum := "af07e7efa840f5f8553dac4b806e44b5f4fa1d0dc503a2d06aab1716fad49111", func := "strake/strakelaw11.L2pPlays", spec := "l2pPlays", unfollowed := true, recurses := true, apart := false }
def L2pPlaysSaid : Prop := l2pPlaysRow.holds Try.pinned (OpenSpec.ofChange l2pPlaysSpec)

/-- ITS FALSE NEIGHBOUR: 'it returns false'. Refute it at one input. -/
def l2pPlaysWrong : ChangeSpec := { name := "l2pPlays", fn := fun _ => fun
  | [d1, d2, d3] => { results := [.lit (.bool false)], args := [d1, d2, d3] }
  | _ => none }
def L2pPlaysWrongFalsely : Prop := l2pPlaysRow.holds Try.pinned (OpenSpec.ofChange l2pPlaysWrong)

/-- 'strakelaw08.NandOwn': WHATEVER THE INPUT: true; the input reads as it did. -/
def nandOwnSpec : ChangeSpec := { name := "nandOwn", fn := fun _ => fun
  | [d] => { results := [.lit (.bool true)], args := [d] }
  | _ => none }
def nandOwnRow : OpenClaim := { program := "ytlkapaecaeldpaa", sum := "af07e7efa840f5f8553dac4b806e44b5f4fa1d0dc503a2d06aab1716fad49111", func := "strake/strakelaw08.NandOwn", spec := "nandOwn", unfollowed := true, recurses := true, apart := false }
def NandOwnSaid : Prop := nandOwnRow.holds Try.pinned (OpenSpec.ofChange nandOwnSpec)

/-- ITS FALSE NEIGHBOUR: 'it returns false'. Refute it at one input. -/
def nandOwnWrong : ChangeSpec := { name := "nandOwn", fn := fun _ => fun
  | [d] => { results := [.lit (.bool false)], args := [d] }
  | _ => none }
def NandOwnWrongFalsely : Prop := nandOwnRow.holds Try.pinned (OpenSpec.ofChange nandOwnWrong)

/-- 'strakelaw08.NandNews': WHATEVER THE INPUT: true; the input reads as it did. -/
def nandNewsSpec : ChangeSpec := { name := "nandNews", fn := fun _ => fun
  | [d1, d2] => { results := [.lit (.bool true)], args := [d1, d2] }
  | _ => none }
def nandNewsRow : OpenClaim := { program := "ytlkapaecaeldpaa", sum := "af07e7efa840f5f8553dac4b806e44b5f4fa1d0dc503a2d06aab1716fad49111", func := "strake/strakelaw08.NandNews", spec := "nandNews", unfollowed := true, recurses := true, apart := false }
def NandNewsSaid : Prop := nandNewsRow.holds Try.pinned (OpenSpec.ofChange nandNewsSpec)

/-- ITS FALSE NEIGHBOUR: 'it returns false'. Refute it at one input. -/
def nandNewsWrong : ChangeSpec := { name := "nandNews", fn := fun _ => fun
  | [d1, d2] => { results := [.lit (.bool false)], args := [d1, d2] }
  | _ => none }
def NandNewsWrongFalsely : Prop := nandNewsRow.holds Try.pinned (OpenSpec.ofChange nandNewsWrong)

/-- 'strakelaw11.L2pCounts': WHATEVER THE INPUT: true; the input reads as it did. -/
def l2pCountsSpec : ChangeSpec := { name := "l2pCounts", fn := fun _ => fun
  | [d1, d2, d3] => { results := [.lit (.bool true)], args := [d1, d2, d3] }
  | _ => none }
def l2pCountsRow : OpenClaim := { program := "ytlkapaecaeldpaa", sum := "af07e7efa840f5f8553dac4b806e44b5f4fa1d0dc503a2d06aab1716fad49111", func := "strake/strakelaw11.L2pCounts", spec := "l2pCounts", unfollowed := true, recurses := true, apart := false }
def L2pCountsSaid : Prop := l2pCountsRow.holds Try.pinned (OpenSpec.ofChange l2pCountsSpec)

/-- ITS FALSE NEIGHBOUR: 'it returns false'. Refute it at one input. -/
def l2pCountsWrong : ChangeSpec := { name := "l2pCounts", fn := fun _ => fun
  | [d1, d2, d3] => { results := [.lit (.bool false)], args := [d1, d2, d3] }
  | _ => none }
def L2pCountsWrongFalsely : Prop := l2pCountsRow.holds Try.pinned (OpenSpec.ofChange l2pCountsWrong)

/-- 'strakelaw08.NandKeeps': WHATEVER THE INPUT: true; the input reads as it did. -/
def nandKeepsSpec : ChangeSpec := { name := "nandKeeps", fn := fun _ => fun
  | [d1, d2, d3] => { results := [.lit (.bool true)], args := [d1, d2, d3] }
  | _ => none }
def nandKeepsRow : OpenClaim := { program := "ytlkapaecaeldpaa", sum := "af07e7efa840f5f8553dac4b806e44b5f4fa1d0dc503a2d06aab1716fad49111", func := "strake/strakelaw08.NandKeeps", spec := "nandKeeps", unfollowed := true, recurses := true, apart := false }
def NandKeepsSaid : Prop := nandKeepsRow.holds Try.pinned (OpenSpec.ofChange nandKeepsSpec)

/-- ITS FALSE NEIGHBOUR: 'it returns false'. Refute it at one input. -/
def nandKeepsWrong : ChangeSpec := { name := "nandKeeps", fn := fun _ => fun
  | [d1, d2, d3] => { results := [.lit (.bool false)], args := [d1, d2, d3] }
  | _ => none }
def NandKeepsWrongFalsely : Prop := nandKeepsRow.holds Try.pinned (OpenSpec.ofChange nandKeepsWrong)

/-- 'strakelaw08.NandErases': WHATEVER THE INPUT: true; the input reads as it did. -/
def nandErasesSpec : ChangeSpec := { name := "nandErases", fn := fun _ => fun
  | [d1, d2, d3] => { results := [.lit (.bool true)], args := [d1, d2, d3] }
  | _ => none }
def nandErasesRow : OpenClaim := { program := "ytlkapaecaeldpaa", sum := "af07e7efa840f5f8553dac4b806e44b5f4fa1d0dc503a2d06aab1716fad49111", func := "strake/strakelaw08.NandErases", spec := "nandErases", unfollowed := true, recurses := true, apart := false }
def NandErasesSaid : Prop := nandErasesRow.holds Try.pinned (OpenSpec.ofChange nandErasesSpec)

/-- ITS FALSE NEIGHBOUR: 'it returns false'. Refute it at one input. -/
def nandErasesWrong : ChangeSpec := { name := "nandErases", fn := fun _ => fun
  | [d1, d2, d3] => { results := [.lit (.bool false)], args := [d1, d2, d3] }
  | _ => none }
def NandErasesWrongFalsely : Prop := nandErasesRow.holds Try.pinned (OpenSpec.ofChange nandErasesWrong)

/-- 'strakelaw08.NandTears': WHATEVER THE INPUT: true; the input reads as it did. -/
def nandTearsSpec : ChangeSpec := { name := "nandTears", fn := fun _ => fun
  | [d1, d2, d3] => { results := [.lit (.bool true)], args := [d1, d2, d3] }
  | _ => none }
def nandTearsRow : OpenClaim := { program := "ytlkapaecaeldpaa", sum := "af07e7efa840f5f8553dac4b806e44b5f4fa1d0dc503a2d06aab1716fad49111", func := "strake/strakelaw08.NandTears", spec := "nandTears", unfollowed := true, recurses := true, apart := false }
def NandTearsSaid : Prop := nandTearsRow.holds Try.pinned (OpenSpec.ofChange nandTearsSpec)

/-- ITS FALSE NEIGHBOUR: 'it returns false'. Refute it at one input. -/
def nandTearsWrong : ChangeSpec := { name := "nandTears", fn := fun _ => fun
  | [d1, d2, d3] => { results := [.lit (.bool false)], args := [d1, d2, d3] }
  | _ => none }
def NandTearsWrongFalsely : Prop := nandTearsRow.holds Try.pinned (OpenSpec.ofChange nandTearsWrong)

/-- 'strakelaw08.NandApart': WHATEVER THE INPUT: true; the input reads as it did. -/
def nandApartSpec : ChangeSpec := { name := "nandApart", fn := fun _ => fun
  | [d1, d2, d3] => { results := [.lit (.bool true)], args := [d1, d2, d3] }
  | _ => none }
def nandApartRow : OpenClaim := { program := "ytlkapaecaeldpaa", sum := "af07e7efa840f5f8553dac4b806e44b5f4fa1d0dc503a2d06aab1716fad49111", func := "strake/strakelaw08.NandApart", spec := "nandApart", unfollowed := true, recurses := true, apart := false }
def NandApartSaid : Prop := nandApartRow.holds Try.pinned (OpenSpec.ofChange nandApartSpec)

/-- ITS FALSE NEIGHBOUR: 'it returns false'. Refute it at one input. -/
def nandApartWrong : ChangeSpec := { name := "nandApart", fn := fun _ => fun
  | [d1, d2, d3] => { results := [.lit (.bool false)], args := [d1, d2, d3] }
  | _ => none }
def NandApartWrongFalsely : Prop := nandApartRow.holds Try.pinned (OpenSpec.ofChange nandApartWrong)

/-- 'strakelaw08.NandPlays': WHATEVER THE INPUT: true; the input reads as it did. -/
def nandPlaysSpec : ChangeSpec := { name := "nandPlays", fn := fun _ => fun
  | [d1, d2, d3] => { results := [.lit (.bool true)], args := [d1, d2, d3] }
  | _ => none }
def nandPlaysRow : OpenClaim := { program := "ytlkapaecaeldpaa", sum := "af07e7efa840f5f8553dac4b806e44b5f4fa1d0dc503a2d06aab1716fad49111", func := "strake/strakelaw08.NandPlays", spec := "nandPlays", unfollowed := true, recurses := true, apart := false }
def NandPlaysSaid : Prop := nandPlaysRow.holds Try.pinned (OpenSpec.ofChange nandPlaysSpec)

/-- ITS FALSE NEIGHBOUR: 'it returns false'. Refute it at one input. -/
def nandPlaysWrong : ChangeSpec := { name := "nandPlays", fn := fun _ => fun
  | [d1, d2, d3] => { results := [.lit (.bool false)], args := [d1, d2, d3] }
  | _ => none }
def NandPlaysWrongFalsely : Prop := nandPlaysRow.holds Try.pinned (OpenSpec.ofChange nandPlaysWrong)

/-- 'strakelaw08.NandRefuses': WHATEVER THE INPUT: true; the input reads as it did. -/
def nandRefusesSpec : ChangeSpec := { name := "nandRefuses", fn := fun _ => fun
  | [d1, d2, d3] => { results := [.lit (.bool true)], args := [d1, d2, d3] }
  | _ => none }
def nandRefusesRow : OpenClaim := { program := "ytlkapaecaeldpaa", sum := "af07e7efa840f5f8553dac4b806e44b5f4fa1d0dc503a2d06aab1716fad49111", func := "strake/strakelaw08.NandRefuses", spec := "nandRefuses", unfollowed := true, recurses := true, apart := false }
def NandRefusesSaid : Prop := nandRefusesRow.holds Try.pinned (OpenSpec.ofChange nandRefusesSpec)

/-- ITS FALSE NEIGHBOUR: 'it returns false'. Refute it at one input. -/
def nandRefusesWrong : ChangeSpec := { name := "nandRefuses", fn := fun _ => fun
  | [d1, d2, d3] => { results := [.lit (.bool false)], args := [d1, d2, d3] }
  | _ => none }
def NandRefusesWrongFalsely : Prop := nandRefusesRow.holds Try.pinned (OpenSpec.ofChange nandRefusesWrong)

/-- 'strakelaw17.ScanFinds': WHATEVER THE INPUT: true; the input reads as it did. -/
def scanFindsSpec : ChangeSpec := { name := "scanFinds", fn := fun _ => fun
  | [d1, d2] => { results := [.lit (.bool true)], args := [d1, d2] }
  | _ => none }
def scanFindsRow : OpenClaim := { program := "ytlkapaecaeldpaa", sum := "af07e7efa840f5f8553dac4b806e44b5f4fa1d0dc503a2d06aab1716fad49111", func := "strake/strakelaw17.ScanFinds", spec := "scanFinds", unfollowed := true, recurses := true, apart := false }
def ScanFindsSaid : Prop := scanFindsRow.holds Try.pinned (OpenSpec.ofChange scanFindsSpec)

/-- ITS FALSE NEIGHBOUR: 'it returns false'. Refute it at one input. -/
def scanFindsWrong : ChangeSpec := { name := "scanFinds", fn := fun _ => fun
  | [d1, d2] => { results := [.lit (.bool false)], args := [d1, d2] }
  | _ => none }
def ScanFindsWrongFalsely : Prop := scanFindsRow.holds Try.pinned (OpenSpec.ofChange scanFindsWrong)

/-- 'strakelaw17.ScanErased': WHATEVER THE INPUT: true; the input reads as it did. -/
def scanErasedSpec : ChangeSpec := { name := "scanErased", fn := fun _ => fun
  | [d1, d2] => { results := [.lit (.bool true)], args := [d1, d2] }
  | _ => none }
def scanErasedRow : OpenClaim := { program := "ytlkapaecaeldpaa", sum := "af07e7efa840f5f8553dac4b806e44b5f4fa1d0dc503a2d06aab1716fad49111", func := "strake/strakelaw17.ScanErased", spec := "scanErased", unfollowed := true, recurses := true, apart := false }
def ScanErasedSaid : Prop := scanErasedRow.holds Try.pinned (OpenSpec.ofChange scanErasedSpec)

/-- ITS FALSE NEIGHBOUR: 'it returns false'. Refute it at one input. -/
def scanErasedWrong : ChangeSpec := { name := "scanErased", fn := fun _ => fun
  | [d1, d2] => { results := [.lit (.bool false)], args := [d1, d2] }
  | _ => none }
def ScanErasedWrongFalsely : Prop := scanErasedRow.holds Try.pinned (OpenSpec.ofChange scanErasedWrong)

/- THE SECOND FORM. 'bulk': how many values and letters a reading holds, each counted each time it is reached (what is shared counts as often as it is met; a slice's spare places count too). A statement '..UptoSaid' is the law's where the arguments, and the package variables that the reading takes, are together of bulk at most 1048576: NARROWER than '..Said'. Prove '..Said' where nothing that the law and all that it calls make is longer than what came in: it says more and counts as full. Else prove '..UptoSaid'. A law counts once. -/
mutual
def uptoBulk {H : Type} : DataW H → Nat
  | .lit (.string bytes) => bytes.length + 1
  | .lit _ => 1
  | .nil => 1
  | .ptr d => uptoBulk d + 1
  | .slice elems spare => uptoBulkAll elems + uptoBulkAll spare + 1
  | .agg parts => uptoBulkAll parts + 1
  | .iface _ d => uptoBulk d + 1
  | .map entries => uptoBulkEntries entries + 1
  | .held _ => 1
def uptoBulkAll {H : Type} : List (DataW H) → Nat
  | [] => 0
  | d :: r => uptoBulk d + uptoBulkAll r
def uptoBulkEntries {H : Type} : List (Lit × DataW H) → Nat
  | [] => 0
  | x :: r => uptoBulkEntry x + uptoBulkEntries r
def uptoBulkEntry {H : Type} : Lit × DataW H → Nat
  | (.string bytes, d) => bytes.length + uptoBulk d + 1
  | (_, d) => uptoBulk d + 1
 end
def uptoSmall : (H : Type) → List (DataW H) → Bool := fun _ ds => decide (uptoBulkAll ds ≤ 1048576)
def OpenSpec.upto (s : _root_.Go.ChangeSpec) : _root_.Go.OpenSpec := { _root_.Go.OpenSpec.ofChange s with cond := some uptoSmall }

/-- 'strakelaw11.L2pPlays', WHERE WHAT IT READS IS OF BULK AT MOST 1048576: true; the input reads as it did. -/
def l2pPlaysUptoRow : OpenClaim := { program := "ytlkapaecaeldpaa", sum := "af07e7efa840f5f8553dac4b806e44b5f4fa1d0dc503a2d06aab1716fad49111", func := "strake/strakelaw11.L2pPlays", spec := "l2pPlays", unfollowed := true, recurses := true, apart := false, narrowed := true }
def L2pPlaysUptoSaid : Prop := l2pPlaysUptoRow.holds Try.pinned (OpenSpec.upto l2pPlaysSpec)

/-- 'strakelaw08.NandOwn', WHERE WHAT IT READS IS OF BULK AT MOST 1048576: true; the input reads as it did. -/
def nandOwnUptoRow : OpenClaim := { program := "ytlkapaecaeldpaa", sum := "af07e7efa840f5f8553dac4b806e44b5f4fa1d0dc503a2d06aab1716fad49111", func := "strake/strakelaw08.NandOwn", spec := "nandOwn", unfollowed := true, recurses := true, apart := false, narrowed := true }
def NandOwnUptoSaid : Prop := nandOwnUptoRow.holds Try.pinned (OpenSpec.upto nandOwnSpec)

/-- 'strakelaw08.NandNews', WHERE WHAT IT READS IS OF BULK AT MOST 1048576: true; the input reads as it did. -/
def nandNewsUptoRow : OpenClaim := { program := "ytlkapaecaeldpaa", sum := "af07e7efa840f5f8553dac4b806e44b5f4fa1d0dc503a2d06aab1716fad49111", func := "strake/strakelaw08.NandNews", spec := "nandNews", unfollowed := true, recurses := true, apart := false, narrowed := true }
def NandNewsUptoSaid : Prop := nandNewsUptoRow.holds Try.pinned (OpenSpec.upto nandNewsSpec)

/-- 'strakelaw11.L2pCounts', WHERE WHAT IT READS IS OF BULK AT MOST 1048576: true; the input reads as it did. -/
def l2pCountsUptoRow : OpenClaim := { program := "ytlkapaecaeldpaa", sum := "af07e7efa840f5f8553dac4b806e44b5f4fa1d0dc503a2d06aab1716fad49111", func := "strake/strakelaw11.L2pCounts", spec := "l2pCounts", unfollowed := true, recurses := true, apart := false, narrowed := true }
def L2pCountsUptoSaid : Prop := l2pCountsUptoRow.holds Try.pinned (OpenSpec.upto l2pCountsSpec)

/-- 'strakelaw08.NandKeeps', WHERE WHAT IT READS IS OF BULK AT MOST 1048576: true; the input reads as it did. -/
def nandKeepsUptoRow : OpenClaim := { program := "ytlkapaecaeldpaa", sum := "af07e7efa840f5f8553dac4b806e44b5f4fa1d0dc503a2d06aab1716fad49111", func := "strake/strakelaw08.NandKeeps", spec := "nandKeeps", unfollowed := true, recurses := true, apart := false, narrowed := true }
def NandKeepsUptoSaid : Prop := nandKeepsUptoRow.holds Try.pinned (OpenSpec.upto nandKeepsSpec)

/-- 'strakelaw08.NandErases', WHERE WHAT IT READS IS OF BULK AT MOST 1048576: true; the input reads as it did. -/
def nandErasesUptoRow : OpenClaim := { program := "ytlkapaecaeldpaa", sum := "af07e7efa840f5f8553dac4b806e44b5f4fa1d0dc503a2d06aab1716fad49111", func := "strake/strakelaw08.NandErases", spec := "nandErases", unfollowed := true, recurses := true, apart := false, narrowed := true }
def NandErasesUptoSaid : Prop := nandErasesUptoRow.holds Try.pinned (OpenSpec.upto nandErasesSpec)

/-- 'strakelaw08.NandTears', WHERE WHAT IT READS IS OF BULK AT MOST 1048576: true; the input reads as it did. -/
def nandTearsUptoRow : OpenClaim := { program := "ytlkapaecaeldpaa", sum := "af07e7efa840f5f8553dac4b806e44b5f4fa1d0dc503a2d06aab1716fad49111", func := "strake/strakelaw08.NandTears", spec := "nandTears", unfollowed := true, recurses := true, apart := false, narrowed := true }
def NandTearsUptoSaid : Prop := nandTearsUptoRow.holds Try.pinned (OpenSpec.upto nandTearsSpec)

/-- 'strakelaw08.NandApart', WHERE WHAT IT READS IS OF BULK AT MOST 1048576: true; the input reads as it did. -/
def nandApartUptoRow : OpenClaim := { program := "ytlkapaecaeldpaa", sum := "af07e7efa840f5f8553dac4b806e44b5f4fa1d0dc503a2d06aab1716fad49111", func := "strake/strakelaw08.NandApart", spec := "nandApart", unfollowed := true, recurses := true, apart := false, narrowed := true }
def NandApartUptoSaid : Prop := nandApartUptoRow.holds Try.pinned (OpenSpec.upto nandApartSpec)

/-- 'strakelaw08.NandPlays', WHERE WHAT IT READS IS OF BULK AT MOST 1048576: true; the input reads as it did. -/
def nandPlaysUptoRow : OpenClaim := { program := "ytlkapaecaeldpaa", sum := "af07e7efa840f5f8553dac4b806e44b5f4fa1d0dc503a2d06aab1716fad49111", func := "strake/strakelaw08.NandPlays", spec := "nandPlays", unfollowed := true, recurses := true, apart := false, narrowed := true }
def NandPlaysUptoSaid : Prop := nandPlaysUptoRow.holds Try.pinned (OpenSpec.upto nandPlaysSpec)

/-- 'strakelaw08.NandRefuses', WHERE WHAT IT READS IS OF BULK AT MOST 1048576: true; the input reads as it did. -/
def nandRefusesUptoRow : OpenClaim := { program := "ytlkapaecaeldpaa", sum := "af07e7efa840f5f8553dac4b806e44b5f4fa1d0dc503a2d06aab1716fad49111", func := "strake/strakelaw08.NandRefuses", spec := "nandRefuses", unfollowed := true, recurses := true, apart := false, narrowed := true }
def NandRefusesUptoSaid : Prop := nandRefusesUptoRow.holds Try.pinned (OpenSpec.upto nandRefusesSpec)

/-- 'strakelaw17.ScanFinds', WHERE WHAT IT READS IS OF BULK AT MOST 1048576: true; the input reads as it did. -/
def scanFindsUptoRow : OpenClaim := { program := "ytlkapaecaeldpaa", sum := "af07e7efa840f5f8553dac4b806e44b5f4fa1d0dc503a2d06aab1716fad49111", func := "strake/strakelaw17.ScanFinds", spec := "scanFinds", unfollowed := true, recurses := true, apart := false, narrowed := true }
def ScanFindsUptoSaid : Prop := scanFindsUptoRow.holds Try.pinned (OpenSpec.upto scanFindsSpec)

/-- 'strakelaw17.ScanErased', WHERE WHAT IT READS IS OF BULK AT MOST 1048576: true; the input reads as it did. -/
def scanErasedUptoRow : OpenClaim := { program := "ytlkapaecaeldpaa", sum := "af07e7efa840f5f8553dac4b806e44b5f4fa1d0dc503a2d06aab1716fad49111", func := "strake/strakelaw17.ScanErased", spec := "scanErased", unfollowed := true, recurses := true, apart := false, narrowed := true }
def ScanErasedUptoSaid : Prop := scanErasedUptoRow.holds Try.pinned (OpenSpec.upto scanErasedSpec)

end Rows
end Go.Proofs.Ytlkapaecaeldpaa
