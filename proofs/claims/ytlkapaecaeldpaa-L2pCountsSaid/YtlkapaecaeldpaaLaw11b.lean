/-
  The walks of the laws over package l2p: L2pThere.
-/
import Derived.Test.YtlkapaecaeldpaaLaw11
import Derived.Test.YtlkapaecaeldpaaGeom2
set_option linter.unusedVariables false
set_option linter.unusedSimpArgs false
set_option maxRecDepth 16384
namespace Go.Proofs.Ytlkapaecaeldpaa
open Go.RowKit

theorem MapAt.sinceD {w w' : World} {B C m : Nat} {g : Geo} {to : List Ent} {kt kw vb : Nat} {st sw : Shards} (h : MapAt w B C m g to kt kw vb st sw) (hz : Since w.drew w') : MapAt w' B C m g to kt kw vb st sw := ⟨h.raw.since hz, h.len, h.ok, h.fine⟩


end Go.Proofs.Ytlkapaecaeldpaa
