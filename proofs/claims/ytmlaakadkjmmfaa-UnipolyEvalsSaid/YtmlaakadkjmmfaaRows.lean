/-
  No cell of these rows narrows 'for every input' (looked for: loops, veiled, ifaces, maps, wideKeys, modest, calm, conditions, laid).
  DERIVED. THE GIVEN ROWS OF THIS SEAT. 35 by the template 'for every input the law returns true; each argument reads behind the call as it read before'; 0 by the template 'total and deterministic' (their statements: YtmlaakadkjmmfaaTotals.lean).
  GIVEN WITH THE SEED: the statements are not yours to turn. If you find one false, say at which input.
  Laid BY PROGRAM, IN A SANDBOX (cutbox-rows.mjs): the forced cells as the released guide's own fill.sh prints them over the translation 174e16e07ecec05d… (all of the seat's roots in one cut). By AI agents, Wed Nov 11 2026. No macro, syntax, notation, axiom, sorry.
-/
import Derived.Test.YtmlaakadkjmmfaaChecked
import GoSem.Claim
import GoSem.ClaimJoined
import GoSem.ClaimMapViews
import Derived.JoinedTies
import Derived.KernelRfl
namespace Go.Proofs.Ytmlaakadkjmmfaa
/- THE CELL 'sum', in the pinned program and in every row, IS THE sha256 OF THE DUMP (.gsa) THAT YtmlaakadkjmmfaaProg.lean LOADS. Nothing in Lean hashes anything: it is a label: what it is worth is what the hold of that sum in a sandbox is worth. -/
noncomputable def Try.pinned : Pinned := { name := "ytmlaakadkjmmfaa", sum := "174e16e07ecec05d9a3bf9285afbbc1cb42741bc573d7217e2c5094322f56c93", checked := Try.checked }
namespace Rows
def none {H : Type} : Left H := { results := [], args := [] }

/-- 'cylinderlaw08.UnipolyMuls': WHATEVER THE INPUT: true; the input reads as it did. -/
def unipolyMulsSpec : ChangeSpec := { name := "unipolyMuls", fn := fun _ => fun
  | [d1, d2, d3] => { results := [.lit (.bool true)], args := [d1, d2, d3] }
  | _ => none }
def unipolyMulsRow : OpenClaim := { program := "ytmlaakadkjmmfaa", sum := "174e16e07ecec05d9a3bf9285afbbc1cb42741bc573d7217e2c5094322f56c93", func := "cylinder/cylinderlaw08.UnipolyMuls", spec := "unipolyMuls", unfollowed := true, recurses := true, apart := false }
def UnipolyMulsSaid : Prop := unipolyMulsRow.holds Try.pinned (OpenSpec.ofChange unipolyMulsSpec)

/-- ITS FALSE NEIGHBOUR: 'it returns false'. Refute it at one input. -/
def unipolyMulsWrong : ChangeSpec := { name := "unipolyMuls", fn := fun _ => fun
  | [d1, d2, d3] => { results := [.lit (.bool false)], args := [d1, d2, d3] }
  | _ => none }
def UnipolyMulsWrongFalsely : Prop := unipolyMulsRow.holds Try.pinned (OpenSpec.ofChange unipolyMulsWrong)

/-- 'cylinderlaw08.UnipolyRing': WHATEVER THE INPUT: true; the input reads as it did. -/
def unipolyRingSpec : ChangeSpec := { name := "unipolyRing", fn := fun _ => fun
  | [d1, d2, d3] => { results := [.lit (.bool true)], args := [d1, d2, d3] }
  | _ => none }
def unipolyRingRow : OpenClaim := { program := "ytmlaakadkjmmfaa", sum := "174e16e07ecec05d9a3bf9285afbbc1cb42741bc573d7217e2c5094322f56c93", func := "cylinder/cylinderlaw08.UnipolyRing", spec := "unipolyRing", unfollowed := true, recurses := true, apart := false }
def UnipolyRingSaid : Prop := unipolyRingRow.holds Try.pinned (OpenSpec.ofChange unipolyRingSpec)

/-- ITS FALSE NEIGHBOUR: 'it returns false'. Refute it at one input. -/
def unipolyRingWrong : ChangeSpec := { name := "unipolyRing", fn := fun _ => fun
  | [d1, d2, d3] => { results := [.lit (.bool false)], args := [d1, d2, d3] }
  | _ => none }
def UnipolyRingWrongFalsely : Prop := unipolyRingRow.holds Try.pinned (OpenSpec.ofChange unipolyRingWrong)

/-- 'cylinderlaw08.UnipolyChanges': WHATEVER THE INPUT: true; the input reads as it did. -/
def unipolyChangesSpec : ChangeSpec := { name := "unipolyChanges", fn := fun _ => fun
  | [d1, d2, d3] => { results := [.lit (.bool true)], args := [d1, d2, d3] }
  | _ => none }
def unipolyChangesRow : OpenClaim := { program := "ytmlaakadkjmmfaa", sum := "174e16e07ecec05d9a3bf9285afbbc1cb42741bc573d7217e2c5094322f56c93", func := "cylinder/cylinderlaw08.UnipolyChanges", spec := "unipolyChanges", unfollowed := true, recurses := true, apart := false }
def UnipolyChangesSaid : Prop := unipolyChangesRow.holds Try.pinned (OpenSpec.ofChange unipolyChangesSpec)

/-- ITS FALSE NEIGHBOUR: 'it returns false'. Refute it at one input. -/
def unipolyChangesWrong : ChangeSpec := { name := "unipolyChanges", fn := fun _ => fun
  | [d1, d2, d3] => { results := [.lit (.bool false)], args := [d1, d2, d3] }
  | _ => none }
def UnipolyChangesWrongFalsely : Prop := unipolyChangesRow.holds Try.pinned (OpenSpec.ofChange unipolyChangesWrong)

/-- 'cylinderlaw08.UnipolyAdds': WHATEVER THE INPUT: true; the input reads as it did. -/
def unipolyAddsSpec : ChangeSpec := { name := "unipolyAdds", fn := fun _ => fun
  | [d1, d2, d3] => { results := [.lit (.bool true)], args := [d1, d2, d3] }
  | _ => none }
def unipolyAddsRow : OpenClaim := { program := "ytmlaakadkjmmfaa", sum := "174e16e07ecec05d9a3bf9285afbbc1cb42741bc573d7217e2c5094322f56c93", func := "cylinder/cylinderlaw08.UnipolyAdds", spec := "unipolyAdds", unfollowed := true, recurses := true, apart := false }
def UnipolyAddsSaid : Prop := unipolyAddsRow.holds Try.pinned (OpenSpec.ofChange unipolyAddsSpec)

/-- ITS FALSE NEIGHBOUR: 'it returns false'. Refute it at one input. -/
def unipolyAddsWrong : ChangeSpec := { name := "unipolyAdds", fn := fun _ => fun
  | [d1, d2, d3] => { results := [.lit (.bool false)], args := [d1, d2, d3] }
  | _ => none }
def UnipolyAddsWrongFalsely : Prop := unipolyAddsRow.holds Try.pinned (OpenSpec.ofChange unipolyAddsWrong)

/-- 'cylinderlaw08.UnipolyKeeps': WHATEVER THE INPUT: true; the input reads as it did. -/
def unipolyKeepsSpec : ChangeSpec := { name := "unipolyKeeps", fn := fun _ => fun
  | [d1, d2] => { results := [.lit (.bool true)], args := [d1, d2] }
  | _ => none }
def unipolyKeepsRow : OpenClaim := { program := "ytmlaakadkjmmfaa", sum := "174e16e07ecec05d9a3bf9285afbbc1cb42741bc573d7217e2c5094322f56c93", func := "cylinder/cylinderlaw08.UnipolyKeeps", spec := "unipolyKeeps", unfollowed := true, recurses := true, apart := false }
def UnipolyKeepsSaid : Prop := unipolyKeepsRow.holds Try.pinned (OpenSpec.ofChange unipolyKeepsSpec)

/-- ITS FALSE NEIGHBOUR: 'it returns false'. Refute it at one input. -/
def unipolyKeepsWrong : ChangeSpec := { name := "unipolyKeeps", fn := fun _ => fun
  | [d1, d2] => { results := [.lit (.bool false)], args := [d1, d2] }
  | _ => none }
def UnipolyKeepsWrongFalsely : Prop := unipolyKeepsRow.holds Try.pinned (OpenSpec.ofChange unipolyKeepsWrong)

/-- 'cylinderlaw14.RootboundDescartes': WHATEVER THE INPUT: true; the input reads as it did. -/
def rootboundDescartesSpec : ChangeSpec := { name := "rootboundDescartes", fn := fun _ => fun
  | [d] => { results := [.lit (.bool true)], args := [d] }
  | _ => none }
def rootboundDescartesRow : OpenClaim := { program := "ytmlaakadkjmmfaa", sum := "174e16e07ecec05d9a3bf9285afbbc1cb42741bc573d7217e2c5094322f56c93", func := "cylinder/cylinderlaw14.RootboundDescartes", spec := "rootboundDescartes", unfollowed := true, recurses := true, named := ["math/bits.overflowError", "math/bits.divideError"], apart := false }
def RootboundDescartesSaid : Prop := rootboundDescartesRow.holds Try.pinned (OpenSpec.ofChange rootboundDescartesSpec)

/-- ITS FALSE NEIGHBOUR: 'it returns false'. Refute it at one input. -/
def rootboundDescartesWrong : ChangeSpec := { name := "rootboundDescartes", fn := fun _ => fun
  | [d] => { results := [.lit (.bool false)], args := [d] }
  | _ => none }
def RootboundDescartesWrongFalsely : Prop := rootboundDescartesRow.holds Try.pinned (OpenSpec.ofChange rootboundDescartesWrong)

/-- 'cylinderlaw14.RootboundVariations': WHATEVER THE INPUT: true; the input reads as it did. -/
def rootboundVariationsSpec : ChangeSpec := { name := "rootboundVariations", fn := fun _ => fun
  | [d] => { results := [.lit (.bool true)], args := [d] }
  | _ => none }
def rootboundVariationsRow : OpenClaim := { program := "ytmlaakadkjmmfaa", sum := "174e16e07ecec05d9a3bf9285afbbc1cb42741bc573d7217e2c5094322f56c93", func := "cylinder/cylinderlaw14.RootboundVariations", spec := "rootboundVariations", unfollowed := true, recurses := true, named := ["math/bits.overflowError", "math/bits.divideError"], apart := false }
def RootboundVariationsSaid : Prop := rootboundVariationsRow.holds Try.pinned (OpenSpec.ofChange rootboundVariationsSpec)

/-- ITS FALSE NEIGHBOUR: 'it returns false'. Refute it at one input. -/
def rootboundVariationsWrong : ChangeSpec := { name := "rootboundVariations", fn := fun _ => fun
  | [d] => { results := [.lit (.bool false)], args := [d] }
  | _ => none }
def RootboundVariationsWrongFalsely : Prop := rootboundVariationsRow.holds Try.pinned (OpenSpec.ofChange rootboundVariationsWrong)

/-- 'cylinderlaw14.RootboundLaguerre': WHATEVER THE INPUT: true; the input reads as it did. -/
def rootboundLaguerreSpec : ChangeSpec := { name := "rootboundLaguerre", fn := fun _ => fun
  | [d] => { results := [.lit (.bool true)], args := [d] }
  | _ => none }
def rootboundLaguerreRow : OpenClaim := { program := "ytmlaakadkjmmfaa", sum := "174e16e07ecec05d9a3bf9285afbbc1cb42741bc573d7217e2c5094322f56c93", func := "cylinder/cylinderlaw14.RootboundLaguerre", spec := "rootboundLaguerre", unfollowed := true, recurses := true, named := ["math/bits.overflowError", "math/bits.divideError"], apart := false }
def RootboundLaguerreSaid : Prop := rootboundLaguerreRow.holds Try.pinned (OpenSpec.ofChange rootboundLaguerreSpec)

/-- ITS FALSE NEIGHBOUR: 'it returns false'. Refute it at one input. -/
def rootboundLaguerreWrong : ChangeSpec := { name := "rootboundLaguerre", fn := fun _ => fun
  | [d] => { results := [.lit (.bool false)], args := [d] }
  | _ => none }
def RootboundLaguerreWrongFalsely : Prop := rootboundLaguerreRow.holds Try.pinned (OpenSpec.ofChange rootboundLaguerreWrong)

/-- 'cylinderlaw08.UnipolyEvals': WHATEVER THE INPUT: true; the input reads as it did. -/
def unipolyEvalsSpec : ChangeSpec := { name := "unipolyEvals", fn := fun _ => fun
  | [d1, d2] => { results := [.lit (.bool true)], args := [d1, d2] }
  | _ => none }
def unipolyEvalsRow : OpenClaim := { program := "ytmlaakadkjmmfaa", sum := "174e16e07ecec05d9a3bf9285afbbc1cb42741bc573d7217e2c5094322f56c93", func := "cylinder/cylinderlaw08.UnipolyEvals", spec := "unipolyEvals", unfollowed := true, recurses := true, named := ["math/bits.overflowError", "math/bits.divideError"], apart := false }
def UnipolyEvalsSaid : Prop := unipolyEvalsRow.holds Try.pinned (OpenSpec.ofChange unipolyEvalsSpec)

/-- ITS FALSE NEIGHBOUR: 'it returns false'. Refute it at one input. -/
def unipolyEvalsWrong : ChangeSpec := { name := "unipolyEvals", fn := fun _ => fun
  | [d1, d2] => { results := [.lit (.bool false)], args := [d1, d2] }
  | _ => none }
def UnipolyEvalsWrongFalsely : Prop := unipolyEvalsRow.holds Try.pinned (OpenSpec.ofChange unipolyEvalsWrong)

/-- 'cylinderlaw08.UnipolyEnds': WHATEVER THE INPUT: true; the input reads as it did. -/
def unipolyEndsSpec : ChangeSpec := { name := "unipolyEnds", fn := fun _ => fun
  | [d1, d2, d3] => { results := [.lit (.bool true)], args := [d1, d2, d3] }
  | _ => none }
def unipolyEndsRow : OpenClaim := { program := "ytmlaakadkjmmfaa", sum := "174e16e07ecec05d9a3bf9285afbbc1cb42741bc573d7217e2c5094322f56c93", func := "cylinder/cylinderlaw08.UnipolyEnds", spec := "unipolyEnds", unfollowed := true, recurses := true, named := ["math/bits.overflowError", "math/bits.divideError"], apart := false }
def UnipolyEndsSaid : Prop := unipolyEndsRow.holds Try.pinned (OpenSpec.ofChange unipolyEndsSpec)

/-- ITS FALSE NEIGHBOUR: 'it returns false'. Refute it at one input. -/
def unipolyEndsWrong : ChangeSpec := { name := "unipolyEnds", fn := fun _ => fun
  | [d1, d2, d3] => { results := [.lit (.bool false)], args := [d1, d2, d3] }
  | _ => none }
def UnipolyEndsWrongFalsely : Prop := unipolyEndsRow.holds Try.pinned (OpenSpec.ofChange unipolyEndsWrong)

/-- 'cylinderlaw08.UnipolyInverse': WHATEVER THE INPUT: true; the input reads as it did. -/
def unipolyInverseSpec : ChangeSpec := { name := "unipolyInverse", fn := fun _ => fun
  | [d1, d2, d3] => { results := [.lit (.bool true)], args := [d1, d2, d3] }
  | _ => none }
def unipolyInverseRow : OpenClaim := { program := "ytmlaakadkjmmfaa", sum := "174e16e07ecec05d9a3bf9285afbbc1cb42741bc573d7217e2c5094322f56c93", func := "cylinder/cylinderlaw08.UnipolyInverse", spec := "unipolyInverse", unfollowed := true, recurses := true, named := ["math/bits.overflowError", "math/bits.divideError"], apart := false }
def UnipolyInverseSaid : Prop := unipolyInverseRow.holds Try.pinned (OpenSpec.ofChange unipolyInverseSpec)

/-- ITS FALSE NEIGHBOUR: 'it returns false'. Refute it at one input. -/
def unipolyInverseWrong : ChangeSpec := { name := "unipolyInverse", fn := fun _ => fun
  | [d1, d2, d3] => { results := [.lit (.bool false)], args := [d1, d2, d3] }
  | _ => none }
def UnipolyInverseWrongFalsely : Prop := unipolyInverseRow.holds Try.pinned (OpenSpec.ofChange unipolyInverseWrong)

/-- 'cylinderlaw14.RootboundCauchy': WHATEVER THE INPUT: true; the input reads as it did. -/
def rootboundCauchySpec : ChangeSpec := { name := "rootboundCauchy", fn := fun _ => fun
  | [d] => { results := [.lit (.bool true)], args := [d] }
  | _ => none }
def rootboundCauchyRow : OpenClaim := { program := "ytmlaakadkjmmfaa", sum := "174e16e07ecec05d9a3bf9285afbbc1cb42741bc573d7217e2c5094322f56c93", func := "cylinder/cylinderlaw14.RootboundCauchy", spec := "rootboundCauchy", unfollowed := true, recurses := true, named := ["math/bits.overflowError", "math/bits.divideError"], apart := false }
def RootboundCauchySaid : Prop := rootboundCauchyRow.holds Try.pinned (OpenSpec.ofChange rootboundCauchySpec)

/-- ITS FALSE NEIGHBOUR: 'it returns false'. Refute it at one input. -/
def rootboundCauchyWrong : ChangeSpec := { name := "rootboundCauchy", fn := fun _ => fun
  | [d] => { results := [.lit (.bool false)], args := [d] }
  | _ => none }
def RootboundCauchyWrongFalsely : Prop := rootboundCauchyRow.holds Try.pinned (OpenSpec.ofChange rootboundCauchyWrong)

/-- 'cylinderlaw09.UnidivPseudo': WHATEVER THE INPUT: true; the input reads as it did. -/
def unidivPseudoSpec : ChangeSpec := { name := "unidivPseudo", fn := fun _ => fun
  | [d1, d2] => { results := [.lit (.bool true)], args := [d1, d2] }
  | _ => none }
def unidivPseudoRow : OpenClaim := { program := "ytmlaakadkjmmfaa", sum := "174e16e07ecec05d9a3bf9285afbbc1cb42741bc573d7217e2c5094322f56c93", func := "cylinder/cylinderlaw09.UnidivPseudo", spec := "unidivPseudo", unfollowed := true, recurses := true, named := ["math/bits.overflowError", "math/bits.divideError"], apart := false }
def UnidivPseudoSaid : Prop := unidivPseudoRow.holds Try.pinned (OpenSpec.ofChange unidivPseudoSpec)

/-- ITS FALSE NEIGHBOUR: 'it returns false'. Refute it at one input. -/
def unidivPseudoWrong : ChangeSpec := { name := "unidivPseudo", fn := fun _ => fun
  | [d1, d2] => { results := [.lit (.bool false)], args := [d1, d2] }
  | _ => none }
def UnidivPseudoWrongFalsely : Prop := unidivPseudoRow.holds Try.pinned (OpenSpec.ofChange unidivPseudoWrong)

/-- 'cylinderlaw08.UnipolyHomomorphism': WHATEVER THE INPUT: true; the input reads as it did. -/
def unipolyHomomorphismSpec : ChangeSpec := { name := "unipolyHomomorphism", fn := fun _ => fun
  | [d1, d2, d3] => { results := [.lit (.bool true)], args := [d1, d2, d3] }
  | _ => none }
def unipolyHomomorphismRow : OpenClaim := { program := "ytmlaakadkjmmfaa", sum := "174e16e07ecec05d9a3bf9285afbbc1cb42741bc573d7217e2c5094322f56c93", func := "cylinder/cylinderlaw08.UnipolyHomomorphism", spec := "unipolyHomomorphism", unfollowed := true, recurses := true, named := ["math/bits.overflowError", "math/bits.divideError"], apart := false }
def UnipolyHomomorphismSaid : Prop := unipolyHomomorphismRow.holds Try.pinned (OpenSpec.ofChange unipolyHomomorphismSpec)

/-- ITS FALSE NEIGHBOUR: 'it returns false'. Refute it at one input. -/
def unipolyHomomorphismWrong : ChangeSpec := { name := "unipolyHomomorphism", fn := fun _ => fun
  | [d1, d2, d3] => { results := [.lit (.bool false)], args := [d1, d2, d3] }
  | _ => none }
def UnipolyHomomorphismWrongFalsely : Prop := unipolyHomomorphismRow.holds Try.pinned (OpenSpec.ofChange unipolyHomomorphismWrong)

/-- 'cylinderlaw09.UnidivSubresultants': WHATEVER THE INPUT: true; the input reads as it did. -/
def unidivSubresultantsSpec : ChangeSpec := { name := "unidivSubresultants", fn := fun _ => fun
  | [d1, d2] => { results := [.lit (.bool true)], args := [d1, d2] }
  | _ => none }
def unidivSubresultantsRow : OpenClaim := { program := "ytmlaakadkjmmfaa", sum := "174e16e07ecec05d9a3bf9285afbbc1cb42741bc573d7217e2c5094322f56c93", func := "cylinder/cylinderlaw09.UnidivSubresultants", spec := "unidivSubresultants", unfollowed := true, recurses := true, named := ["math/bits.overflowError", "math/bits.divideError"], apart := false }
def UnidivSubresultantsSaid : Prop := unidivSubresultantsRow.holds Try.pinned (OpenSpec.ofChange unidivSubresultantsSpec)

/-- ITS FALSE NEIGHBOUR: 'it returns false'. Refute it at one input. -/
def unidivSubresultantsWrong : ChangeSpec := { name := "unidivSubresultants", fn := fun _ => fun
  | [d1, d2] => { results := [.lit (.bool false)], args := [d1, d2] }
  | _ => none }
def UnidivSubresultantsWrongFalsely : Prop := unidivSubresultantsRow.holds Try.pinned (OpenSpec.ofChange unidivSubresultantsWrong)

/-- 'cylinderlaw09.UnidivContent': WHATEVER THE INPUT: true; the input reads as it did. -/
def unidivContentSpec : ChangeSpec := { name := "unidivContent", fn := fun _ => fun
  | [d1, d2] => { results := [.lit (.bool true)], args := [d1, d2] }
  | _ => none }
def unidivContentRow : OpenClaim := { program := "ytmlaakadkjmmfaa", sum := "174e16e07ecec05d9a3bf9285afbbc1cb42741bc573d7217e2c5094322f56c93", func := "cylinder/cylinderlaw09.UnidivContent", spec := "unidivContent", unfollowed := true, recurses := true, named := ["math/bits.overflowError", "math/bits.divideError"], apart := false }
def UnidivContentSaid : Prop := unidivContentRow.holds Try.pinned (OpenSpec.ofChange unidivContentSpec)

/-- ITS FALSE NEIGHBOUR: 'it returns false'. Refute it at one input. -/
def unidivContentWrong : ChangeSpec := { name := "unidivContent", fn := fun _ => fun
  | [d1, d2] => { results := [.lit (.bool false)], args := [d1, d2] }
  | _ => none }
def UnidivContentWrongFalsely : Prop := unidivContentRow.holds Try.pinned (OpenSpec.ofChange unidivContentWrong)

/-- 'cylinderlaw09.UnidivLast': WHATEVER THE INPUT: true; the input reads as it did. -/
def unidivLastSpec : ChangeSpec := { name := "unidivLast", fn := fun _ => fun
  | [d1, d2] => { results := [.lit (.bool true)], args := [d1, d2] }
  | _ => none }
def unidivLastRow : OpenClaim := { program := "ytmlaakadkjmmfaa", sum := "174e16e07ecec05d9a3bf9285afbbc1cb42741bc573d7217e2c5094322f56c93", func := "cylinder/cylinderlaw09.UnidivLast", spec := "unidivLast", unfollowed := true, recurses := true, named := ["math/bits.overflowError", "math/bits.divideError"], apart := false }
def UnidivLastSaid : Prop := unidivLastRow.holds Try.pinned (OpenSpec.ofChange unidivLastSpec)

/-- ITS FALSE NEIGHBOUR: 'it returns false'. Refute it at one input. -/
def unidivLastWrong : ChangeSpec := { name := "unidivLast", fn := fun _ => fun
  | [d1, d2] => { results := [.lit (.bool false)], args := [d1, d2] }
  | _ => none }
def UnidivLastWrongFalsely : Prop := unidivLastRow.holds Try.pinned (OpenSpec.ofChange unidivLastWrong)

/-- 'cylinderlaw09.UnidivFactors': WHATEVER THE INPUT: true; the input reads as it did. -/
def unidivFactorsSpec : ChangeSpec := { name := "unidivFactors", fn := fun _ => fun
  | [d1, d2] => { results := [.lit (.bool true)], args := [d1, d2] }
  | _ => none }
def unidivFactorsRow : OpenClaim := { program := "ytmlaakadkjmmfaa", sum := "174e16e07ecec05d9a3bf9285afbbc1cb42741bc573d7217e2c5094322f56c93", func := "cylinder/cylinderlaw09.UnidivFactors", spec := "unidivFactors", unfollowed := true, recurses := true, named := ["math/bits.overflowError", "math/bits.divideError"], apart := false }
def UnidivFactorsSaid : Prop := unidivFactorsRow.holds Try.pinned (OpenSpec.ofChange unidivFactorsSpec)

/-- ITS FALSE NEIGHBOUR: 'it returns false'. Refute it at one input. -/
def unidivFactorsWrong : ChangeSpec := { name := "unidivFactors", fn := fun _ => fun
  | [d1, d2] => { results := [.lit (.bool false)], args := [d1, d2] }
  | _ => none }
def UnidivFactorsWrongFalsely : Prop := unidivFactorsRow.holds Try.pinned (OpenSpec.ofChange unidivFactorsWrong)

/-- 'cylinderlaw09.UnidivIdentity': WHATEVER THE INPUT: true; the input reads as it did. -/
def unidivIdentitySpec : ChangeSpec := { name := "unidivIdentity", fn := fun _ => fun
  | [d1, d2] => { results := [.lit (.bool true)], args := [d1, d2] }
  | _ => none }
def unidivIdentityRow : OpenClaim := { program := "ytmlaakadkjmmfaa", sum := "174e16e07ecec05d9a3bf9285afbbc1cb42741bc573d7217e2c5094322f56c93", func := "cylinder/cylinderlaw09.UnidivIdentity", spec := "unidivIdentity", unfollowed := true, recurses := true, named := ["math/bits.overflowError", "math/bits.divideError"], apart := false }
def UnidivIdentitySaid : Prop := unidivIdentityRow.holds Try.pinned (OpenSpec.ofChange unidivIdentitySpec)

/-- ITS FALSE NEIGHBOUR: 'it returns false'. Refute it at one input. -/
def unidivIdentityWrong : ChangeSpec := { name := "unidivIdentity", fn := fun _ => fun
  | [d1, d2] => { results := [.lit (.bool false)], args := [d1, d2] }
  | _ => none }
def UnidivIdentityWrongFalsely : Prop := unidivIdentityRow.holds Try.pinned (OpenSpec.ofChange unidivIdentityWrong)

/-- 'cylinderlaw09.UnidivCommon': WHATEVER THE INPUT: true; the input reads as it did. -/
def unidivCommonSpec : ChangeSpec := { name := "unidivCommon", fn := fun _ => fun
  | [d1, d2, d3] => { results := [.lit (.bool true)], args := [d1, d2, d3] }
  | _ => none }
def unidivCommonRow : OpenClaim := { program := "ytmlaakadkjmmfaa", sum := "174e16e07ecec05d9a3bf9285afbbc1cb42741bc573d7217e2c5094322f56c93", func := "cylinder/cylinderlaw09.UnidivCommon", spec := "unidivCommon", unfollowed := true, recurses := true, named := ["math/bits.overflowError", "math/bits.divideError"], apart := false }
def UnidivCommonSaid : Prop := unidivCommonRow.holds Try.pinned (OpenSpec.ofChange unidivCommonSpec)

/-- ITS FALSE NEIGHBOUR: 'it returns false'. Refute it at one input. -/
def unidivCommonWrong : ChangeSpec := { name := "unidivCommon", fn := fun _ => fun
  | [d1, d2, d3] => { results := [.lit (.bool false)], args := [d1, d2, d3] }
  | _ => none }
def UnidivCommonWrongFalsely : Prop := unidivCommonRow.holds Try.pinned (OpenSpec.ofChange unidivCommonWrong)

/-- 'cylinderlaw14.RootboundHolds': WHATEVER THE INPUT: true; the input reads as it did. -/
def rootboundHoldsSpec : ChangeSpec := { name := "rootboundHolds", fn := fun _ => fun
  | [d1, d2] => { results := [.lit (.bool true)], args := [d1, d2] }
  | _ => none }
def rootboundHoldsRow : OpenClaim := { program := "ytmlaakadkjmmfaa", sum := "174e16e07ecec05d9a3bf9285afbbc1cb42741bc573d7217e2c5094322f56c93", func := "cylinder/cylinderlaw14.RootboundHolds", spec := "rootboundHolds", unfollowed := true, recurses := true, named := ["math/bits.overflowError", "math/bits.divideError"], apart := false }
def RootboundHoldsSaid : Prop := rootboundHoldsRow.holds Try.pinned (OpenSpec.ofChange rootboundHoldsSpec)

/-- ITS FALSE NEIGHBOUR: 'it returns false'. Refute it at one input. -/
def rootboundHoldsWrong : ChangeSpec := { name := "rootboundHolds", fn := fun _ => fun
  | [d1, d2] => { results := [.lit (.bool false)], args := [d1, d2] }
  | _ => none }
def RootboundHoldsWrongFalsely : Prop := rootboundHoldsRow.holds Try.pinned (OpenSpec.ofChange rootboundHoldsWrong)

/-- 'cylinderlaw09.UnidivExact': WHATEVER THE INPUT: true; the input reads as it did. -/
def unidivExactSpec : ChangeSpec := { name := "unidivExact", fn := fun _ => fun
  | [d1, d2, d3] => { results := [.lit (.bool true)], args := [d1, d2, d3] }
  | _ => none }
def unidivExactRow : OpenClaim := { program := "ytmlaakadkjmmfaa", sum := "174e16e07ecec05d9a3bf9285afbbc1cb42741bc573d7217e2c5094322f56c93", func := "cylinder/cylinderlaw09.UnidivExact", spec := "unidivExact", unfollowed := true, recurses := true, named := ["math/bits.overflowError", "math/bits.divideError"], apart := false }
def UnidivExactSaid : Prop := unidivExactRow.holds Try.pinned (OpenSpec.ofChange unidivExactSpec)

/-- ITS FALSE NEIGHBOUR: 'it returns false'. Refute it at one input. -/
def unidivExactWrong : ChangeSpec := { name := "unidivExact", fn := fun _ => fun
  | [d1, d2, d3] => { results := [.lit (.bool false)], args := [d1, d2, d3] }
  | _ => none }
def UnidivExactWrongFalsely : Prop := unidivExactRow.holds Try.pinned (OpenSpec.ofChange unidivExactWrong)

/-- 'cylinderlaw11.SquarefreeParts': WHATEVER THE INPUT: true; the input reads as it did. -/
def squarefreePartsSpec : ChangeSpec := { name := "squarefreeParts", fn := fun _ => fun
  | [d] => { results := [.lit (.bool true)], args := [d] }
  | _ => none }
def squarefreePartsRow : OpenClaim := { program := "ytmlaakadkjmmfaa", sum := "174e16e07ecec05d9a3bf9285afbbc1cb42741bc573d7217e2c5094322f56c93", func := "cylinder/cylinderlaw11.SquarefreeParts", spec := "squarefreeParts", unfollowed := true, recurses := true, named := ["math/bits.overflowError", "math/bits.divideError"], apart := false }
def SquarefreePartsSaid : Prop := squarefreePartsRow.holds Try.pinned (OpenSpec.ofChange squarefreePartsSpec)

/-- ITS FALSE NEIGHBOUR: 'it returns false'. Refute it at one input. -/
def squarefreePartsWrong : ChangeSpec := { name := "squarefreeParts", fn := fun _ => fun
  | [d] => { results := [.lit (.bool false)], args := [d] }
  | _ => none }
def SquarefreePartsWrongFalsely : Prop := squarefreePartsRow.holds Try.pinned (OpenSpec.ofChange squarefreePartsWrong)

/-- 'cylinderlaw09.UnidivXgcd': WHATEVER THE INPUT: true; the input reads as it did. -/
def unidivXgcdSpec : ChangeSpec := { name := "unidivXgcd", fn := fun _ => fun
  | [d1, d2] => { results := [.lit (.bool true)], args := [d1, d2] }
  | _ => none }
def unidivXgcdRow : OpenClaim := { program := "ytmlaakadkjmmfaa", sum := "174e16e07ecec05d9a3bf9285afbbc1cb42741bc573d7217e2c5094322f56c93", func := "cylinder/cylinderlaw09.UnidivXgcd", spec := "unidivXgcd", unfollowed := true, recurses := true, named := ["math/bits.overflowError", "math/bits.divideError"], apart := false }
def UnidivXgcdSaid : Prop := unidivXgcdRow.holds Try.pinned (OpenSpec.ofChange unidivXgcdSpec)

/-- ITS FALSE NEIGHBOUR: 'it returns false'. Refute it at one input. -/
def unidivXgcdWrong : ChangeSpec := { name := "unidivXgcd", fn := fun _ => fun
  | [d1, d2] => { results := [.lit (.bool false)], args := [d1, d2] }
  | _ => none }
def UnidivXgcdWrongFalsely : Prop := unidivXgcdRow.holds Try.pinned (OpenSpec.ofChange unidivXgcdWrong)

/-- 'cylinderlaw11.SquarefreeDecomposes': WHATEVER THE INPUT: true; the input reads as it did. -/
def squarefreeDecomposesSpec : ChangeSpec := { name := "squarefreeDecomposes", fn := fun _ => fun
  | [d] => { results := [.lit (.bool true)], args := [d] }
  | _ => none }
def squarefreeDecomposesRow : OpenClaim := { program := "ytmlaakadkjmmfaa", sum := "174e16e07ecec05d9a3bf9285afbbc1cb42741bc573d7217e2c5094322f56c93", func := "cylinder/cylinderlaw11.SquarefreeDecomposes", spec := "squarefreeDecomposes", unfollowed := true, recurses := true, named := ["math/bits.overflowError", "math/bits.divideError"], apart := false }
def SquarefreeDecomposesSaid : Prop := squarefreeDecomposesRow.holds Try.pinned (OpenSpec.ofChange squarefreeDecomposesSpec)

/-- ITS FALSE NEIGHBOUR: 'it returns false'. Refute it at one input. -/
def squarefreeDecomposesWrong : ChangeSpec := { name := "squarefreeDecomposes", fn := fun _ => fun
  | [d] => { results := [.lit (.bool false)], args := [d] }
  | _ => none }
def SquarefreeDecomposesWrongFalsely : Prop := squarefreeDecomposesRow.holds Try.pinned (OpenSpec.ofChange squarefreeDecomposesWrong)

/-- 'cylinderlaw11.SquarefreePowers': WHATEVER THE INPUT: true; the input reads as it did. -/
def squarefreePowersSpec : ChangeSpec := { name := "squarefreePowers", fn := fun _ => fun
  | [d1, d2, d3] => { results := [.lit (.bool true)], args := [d1, d2, d3] }
  | _ => none }
def squarefreePowersRow : OpenClaim := { program := "ytmlaakadkjmmfaa", sum := "174e16e07ecec05d9a3bf9285afbbc1cb42741bc573d7217e2c5094322f56c93", func := "cylinder/cylinderlaw11.SquarefreePowers", spec := "squarefreePowers", unfollowed := true, recurses := true, named := ["math/bits.overflowError", "math/bits.divideError"], apart := false }
def SquarefreePowersSaid : Prop := squarefreePowersRow.holds Try.pinned (OpenSpec.ofChange squarefreePowersSpec)

/-- ITS FALSE NEIGHBOUR: 'it returns false'. Refute it at one input. -/
def squarefreePowersWrong : ChangeSpec := { name := "squarefreePowers", fn := fun _ => fun
  | [d1, d2, d3] => { results := [.lit (.bool false)], args := [d1, d2, d3] }
  | _ => none }
def SquarefreePowersWrongFalsely : Prop := squarefreePowersRow.holds Try.pinned (OpenSpec.ofChange squarefreePowersWrong)

/-- 'cylinderlaw11.SquarefreeCovers': WHATEVER THE INPUT: true; the input reads as it did. -/
def squarefreeCoversSpec : ChangeSpec := { name := "squarefreeCovers", fn := fun _ => fun
  | [d] => { results := [.lit (.bool true)], args := [d] }
  | _ => none }
def squarefreeCoversRow : OpenClaim := { program := "ytmlaakadkjmmfaa", sum := "174e16e07ecec05d9a3bf9285afbbc1cb42741bc573d7217e2c5094322f56c93", func := "cylinder/cylinderlaw11.SquarefreeCovers", spec := "squarefreeCovers", unfollowed := true, recurses := true, named := ["math/bits.overflowError", "math/bits.divideError"], apart := false }
def SquarefreeCoversSaid : Prop := squarefreeCoversRow.holds Try.pinned (OpenSpec.ofChange squarefreeCoversSpec)

/-- ITS FALSE NEIGHBOUR: 'it returns false'. Refute it at one input. -/
def squarefreeCoversWrong : ChangeSpec := { name := "squarefreeCovers", fn := fun _ => fun
  | [d] => { results := [.lit (.bool false)], args := [d] }
  | _ => none }
def SquarefreeCoversWrongFalsely : Prop := squarefreeCoversRow.holds Try.pinned (OpenSpec.ofChange squarefreeCoversWrong)

/-- 'cylinderlaw14.RootboundSeparation': WHATEVER THE INPUT: true; the input reads as it did. -/
def rootboundSeparationSpec : ChangeSpec := { name := "rootboundSeparation", fn := fun _ => fun
  | [d] => { results := [.lit (.bool true)], args := [d] }
  | _ => none }
def rootboundSeparationRow : OpenClaim := { program := "ytmlaakadkjmmfaa", sum := "174e16e07ecec05d9a3bf9285afbbc1cb42741bc573d7217e2c5094322f56c93", func := "cylinder/cylinderlaw14.RootboundSeparation", spec := "rootboundSeparation", unfollowed := true, recurses := true, named := ["math/bits.overflowError", "math/bits.divideError"], apart := false }
def RootboundSeparationSaid : Prop := rootboundSeparationRow.holds Try.pinned (OpenSpec.ofChange rootboundSeparationSpec)

/-- ITS FALSE NEIGHBOUR: 'it returns false'. Refute it at one input. -/
def rootboundSeparationWrong : ChangeSpec := { name := "rootboundSeparation", fn := fun _ => fun
  | [d] => { results := [.lit (.bool false)], args := [d] }
  | _ => none }
def RootboundSeparationWrongFalsely : Prop := rootboundSeparationRow.holds Try.pinned (OpenSpec.ofChange rootboundSeparationWrong)

/-- 'cylinderlaw11.SquarefreeCounts': WHATEVER THE INPUT: true; the input reads as it did. -/
def squarefreeCountsSpec : ChangeSpec := { name := "squarefreeCounts", fn := fun _ => fun
  | [d1, d2, d3] => { results := [.lit (.bool true)], args := [d1, d2, d3] }
  | _ => none }
def squarefreeCountsRow : OpenClaim := { program := "ytmlaakadkjmmfaa", sum := "174e16e07ecec05d9a3bf9285afbbc1cb42741bc573d7217e2c5094322f56c93", func := "cylinder/cylinderlaw11.SquarefreeCounts", spec := "squarefreeCounts", unfollowed := true, recurses := true, named := ["math/bits.overflowError", "math/bits.divideError"], apart := false }
def SquarefreeCountsSaid : Prop := squarefreeCountsRow.holds Try.pinned (OpenSpec.ofChange squarefreeCountsSpec)

/-- ITS FALSE NEIGHBOUR: 'it returns false'. Refute it at one input. -/
def squarefreeCountsWrong : ChangeSpec := { name := "squarefreeCounts", fn := fun _ => fun
  | [d1, d2, d3] => { results := [.lit (.bool false)], args := [d1, d2, d3] }
  | _ => none }
def SquarefreeCountsWrongFalsely : Prop := squarefreeCountsRow.holds Try.pinned (OpenSpec.ofChange squarefreeCountsWrong)

/-- 'cylinderlaw11.SquarefreeMultiplies': WHATEVER THE INPUT: true; the input reads as it did. -/
def squarefreeMultipliesSpec : ChangeSpec := { name := "squarefreeMultiplies", fn := fun _ => fun
  | [d] => { results := [.lit (.bool true)], args := [d] }
  | _ => none }
def squarefreeMultipliesRow : OpenClaim := { program := "ytmlaakadkjmmfaa", sum := "174e16e07ecec05d9a3bf9285afbbc1cb42741bc573d7217e2c5094322f56c93", func := "cylinder/cylinderlaw11.SquarefreeMultiplies", spec := "squarefreeMultiplies", unfollowed := true, recurses := true, named := ["math/bits.overflowError", "math/bits.divideError"], apart := false }
def SquarefreeMultipliesSaid : Prop := squarefreeMultipliesRow.holds Try.pinned (OpenSpec.ofChange squarefreeMultipliesSpec)

/-- ITS FALSE NEIGHBOUR: 'it returns false'. Refute it at one input. -/
def squarefreeMultipliesWrong : ChangeSpec := { name := "squarefreeMultiplies", fn := fun _ => fun
  | [d] => { results := [.lit (.bool false)], args := [d] }
  | _ => none }
def SquarefreeMultipliesWrongFalsely : Prop := squarefreeMultipliesRow.holds Try.pinned (OpenSpec.ofChange squarefreeMultipliesWrong)

/-- 'cylinderlaw11.SquarefreeExponents': WHATEVER THE INPUT: true; the input reads as it did. -/
def squarefreeExponentsSpec : ChangeSpec := { name := "squarefreeExponents", fn := fun _ => fun
  | [d1, d2, d3] => { results := [.lit (.bool true)], args := [d1, d2, d3] }
  | _ => none }
def squarefreeExponentsRow : OpenClaim := { program := "ytmlaakadkjmmfaa", sum := "174e16e07ecec05d9a3bf9285afbbc1cb42741bc573d7217e2c5094322f56c93", func := "cylinder/cylinderlaw11.SquarefreeExponents", spec := "squarefreeExponents", unfollowed := true, recurses := true, named := ["math/bits.overflowError", "math/bits.divideError"], apart := false }
def SquarefreeExponentsSaid : Prop := squarefreeExponentsRow.holds Try.pinned (OpenSpec.ofChange squarefreeExponentsSpec)

/-- ITS FALSE NEIGHBOUR: 'it returns false'. Refute it at one input. -/
def squarefreeExponentsWrong : ChangeSpec := { name := "squarefreeExponents", fn := fun _ => fun
  | [d1, d2, d3] => { results := [.lit (.bool false)], args := [d1, d2, d3] }
  | _ => none }
def SquarefreeExponentsWrongFalsely : Prop := squarefreeExponentsRow.holds Try.pinned (OpenSpec.ofChange squarefreeExponentsWrong)

/-- 'cylinderlaw14.RootboundApart': WHATEVER THE INPUT: true; the input reads as it did. -/
def rootboundApartSpec : ChangeSpec := { name := "rootboundApart", fn := fun _ => fun
  | [d1, d2, d3] => { results := [.lit (.bool true)], args := [d1, d2, d3] }
  | _ => none }
def rootboundApartRow : OpenClaim := { program := "ytmlaakadkjmmfaa", sum := "174e16e07ecec05d9a3bf9285afbbc1cb42741bc573d7217e2c5094322f56c93", func := "cylinder/cylinderlaw14.RootboundApart", spec := "rootboundApart", unfollowed := true, recurses := true, named := ["math/bits.overflowError", "math/bits.divideError"], apart := false }
def RootboundApartSaid : Prop := rootboundApartRow.holds Try.pinned (OpenSpec.ofChange rootboundApartSpec)

/-- ITS FALSE NEIGHBOUR: 'it returns false'. Refute it at one input. -/
def rootboundApartWrong : ChangeSpec := { name := "rootboundApart", fn := fun _ => fun
  | [d1, d2, d3] => { results := [.lit (.bool false)], args := [d1, d2, d3] }
  | _ => none }
def RootboundApartWrongFalsely : Prop := rootboundApartRow.holds Try.pinned (OpenSpec.ofChange rootboundApartWrong)

/-- 'cylinderlaw14.RootboundScales': WHATEVER THE INPUT: true; the input reads as it did. -/
def rootboundScalesSpec : ChangeSpec := { name := "rootboundScales", fn := fun _ => fun
  | [d1, d2, d3] => { results := [.lit (.bool true)], args := [d1, d2, d3] }
  | _ => none }
def rootboundScalesRow : OpenClaim := { program := "ytmlaakadkjmmfaa", sum := "174e16e07ecec05d9a3bf9285afbbc1cb42741bc573d7217e2c5094322f56c93", func := "cylinder/cylinderlaw14.RootboundScales", spec := "rootboundScales", unfollowed := true, recurses := true, named := ["math/bits.overflowError", "math/bits.divideError"], apart := false }
def RootboundScalesSaid : Prop := rootboundScalesRow.holds Try.pinned (OpenSpec.ofChange rootboundScalesSpec)

/-- ITS FALSE NEIGHBOUR: 'it returns false'. Refute it at one input. -/
def rootboundScalesWrong : ChangeSpec := { name := "rootboundScales", fn := fun _ => fun
  | [d1, d2, d3] => { results := [.lit (.bool false)], args := [d1, d2, d3] }
  | _ => none }
def RootboundScalesWrongFalsely : Prop := rootboundScalesRow.holds Try.pinned (OpenSpec.ofChange rootboundScalesWrong)

/-- 'cylinderlaw11.SquarefreeOrderless': WHATEVER THE INPUT: true; the input reads as it did. -/
def squarefreeOrderlessSpec : ChangeSpec := { name := "squarefreeOrderless", fn := fun _ => fun
  | [d1, d2] => { results := [.lit (.bool true)], args := [d1, d2] }
  | _ => none }
def squarefreeOrderlessRow : OpenClaim := { program := "ytmlaakadkjmmfaa", sum := "174e16e07ecec05d9a3bf9285afbbc1cb42741bc573d7217e2c5094322f56c93", func := "cylinder/cylinderlaw11.SquarefreeOrderless", spec := "squarefreeOrderless", unfollowed := true, recurses := true, named := ["math/bits.overflowError", "math/bits.divideError"], apart := false }
def SquarefreeOrderlessSaid : Prop := squarefreeOrderlessRow.holds Try.pinned (OpenSpec.ofChange squarefreeOrderlessSpec)

/-- ITS FALSE NEIGHBOUR: 'it returns false'. Refute it at one input. -/
def squarefreeOrderlessWrong : ChangeSpec := { name := "squarefreeOrderless", fn := fun _ => fun
  | [d1, d2] => { results := [.lit (.bool false)], args := [d1, d2] }
  | _ => none }
def SquarefreeOrderlessWrongFalsely : Prop := squarefreeOrderlessRow.holds Try.pinned (OpenSpec.ofChange squarefreeOrderlessWrong)

/-- 'cylinderlaw11.SquarefreeSpans': WHATEVER THE INPUT: true; the input reads as it did. -/
def squarefreeSpansSpec : ChangeSpec := { name := "squarefreeSpans", fn := fun _ => fun
  | [d] => { results := [.lit (.bool true)], args := [d] }
  | _ => none }
def squarefreeSpansRow : OpenClaim := { program := "ytmlaakadkjmmfaa", sum := "174e16e07ecec05d9a3bf9285afbbc1cb42741bc573d7217e2c5094322f56c93", func := "cylinder/cylinderlaw11.SquarefreeSpans", spec := "squarefreeSpans", unfollowed := true, recurses := true, named := ["math/bits.overflowError", "math/bits.divideError"], apart := false }
def SquarefreeSpansSaid : Prop := squarefreeSpansRow.holds Try.pinned (OpenSpec.ofChange squarefreeSpansSpec)

/-- ITS FALSE NEIGHBOUR: 'it returns false'. Refute it at one input. -/
def squarefreeSpansWrong : ChangeSpec := { name := "squarefreeSpans", fn := fun _ => fun
  | [d] => { results := [.lit (.bool false)], args := [d] }
  | _ => none }
def SquarefreeSpansWrongFalsely : Prop := squarefreeSpansRow.holds Try.pinned (OpenSpec.ofChange squarefreeSpansWrong)

/- THE SECOND FORM. 'bulk': how many values and letters a reading holds, each counted each time it is reached (what is shared counts as often as it is met; a slice's spare places count too). A statement '..UptoSaid' is the law's where the arguments, and the package variables that the reading takes, are together of bulk at most 1048576: NARROWER than '..Said'. Prove '..Said' where nothing that the law and all that it calls make is longer than what came in: it says more and counts as full. Else prove '..UptoSaid'. A law counts once. -/
mutual
def uptoBulk {H : Type} : DataW H → Nat
  | .lit (.string bytes) => bytes.length + 1
  | .lit _ => 1
  | .nil => 1
  | .ptr d => uptoBulk d + 1
  | .slice elems spare => uptoBulkAll elems + uptoBulkAll spare + 1
  | .agg parts => uptoBulkAll parts + 1
  | .iface _ d => uptoBulk d + 1
  | .map entries => uptoBulkEntries entries + 1
  | .held _ => 1
def uptoBulkAll {H : Type} : List (DataW H) → Nat
  | [] => 0
  | d :: r => uptoBulk d + uptoBulkAll r
def uptoBulkEntries {H : Type} : List (Lit × DataW H) → Nat
  | [] => 0
  | x :: r => uptoBulkEntry x + uptoBulkEntries r
def uptoBulkEntry {H : Type} : Lit × DataW H → Nat
  | (.string bytes, d) => bytes.length + uptoBulk d + 1
  | (_, d) => uptoBulk d + 1
 end
def uptoSmall : (H : Type) → List (DataW H) → Bool := fun _ ds => decide (uptoBulkAll ds ≤ 1048576)
def OpenSpec.upto (s : _root_.Go.ChangeSpec) : _root_.Go.OpenSpec := { _root_.Go.OpenSpec.ofChange s with cond := some uptoSmall }

/-- 'cylinderlaw08.UnipolyMuls', WHERE WHAT IT READS IS OF BULK AT MOST 1048576: true; the input reads as it did. -/
def unipolyMulsUptoRow : OpenClaim := { program := "ytmlaakadkjmmfaa", sum := "174e16e07ecec05d9a3bf9285afbbc1cb42741bc573d7217e2c5094322f56c93", func := "cylinder/cylinderlaw08.UnipolyMuls", spec := "unipolyMuls", unfollowed := true, recurses := true, apart := false, narrowed := true }
def UnipolyMulsUptoSaid : Prop := unipolyMulsUptoRow.holds Try.pinned (OpenSpec.upto unipolyMulsSpec)

/-- 'cylinderlaw08.UnipolyRing', WHERE WHAT IT READS IS OF BULK AT MOST 1048576: true; the input reads as it did. -/
def unipolyRingUptoRow : OpenClaim := { program := "ytmlaakadkjmmfaa", sum := "174e16e07ecec05d9a3bf9285afbbc1cb42741bc573d7217e2c5094322f56c93", func := "cylinder/cylinderlaw08.UnipolyRing", spec := "unipolyRing", unfollowed := true, recurses := true, apart := false, narrowed := true }
def UnipolyRingUptoSaid : Prop := unipolyRingUptoRow.holds Try.pinned (OpenSpec.upto unipolyRingSpec)

/-- 'cylinderlaw08.UnipolyChanges', WHERE WHAT IT READS IS OF BULK AT MOST 1048576: true; the input reads as it did. -/
def unipolyChangesUptoRow : OpenClaim := { program := "ytmlaakadkjmmfaa", sum := "174e16e07ecec05d9a3bf9285afbbc1cb42741bc573d7217e2c5094322f56c93", func := "cylinder/cylinderlaw08.UnipolyChanges", spec := "unipolyChanges", unfollowed := true, recurses := true, apart := false, narrowed := true }
def UnipolyChangesUptoSaid : Prop := unipolyChangesUptoRow.holds Try.pinned (OpenSpec.upto unipolyChangesSpec)

/-- 'cylinderlaw08.UnipolyAdds', WHERE WHAT IT READS IS OF BULK AT MOST 1048576: true; the input reads as it did. -/
def unipolyAddsUptoRow : OpenClaim := { program := "ytmlaakadkjmmfaa", sum := "174e16e07ecec05d9a3bf9285afbbc1cb42741bc573d7217e2c5094322f56c93", func := "cylinder/cylinderlaw08.UnipolyAdds", spec := "unipolyAdds", unfollowed := true, recurses := true, apart := false, narrowed := true }
def UnipolyAddsUptoSaid : Prop := unipolyAddsUptoRow.holds Try.pinned (OpenSpec.upto unipolyAddsSpec)

/-- 'cylinderlaw08.UnipolyKeeps', WHERE WHAT IT READS IS OF BULK AT MOST 1048576: true; the input reads as it did. -/
def unipolyKeepsUptoRow : OpenClaim := { program := "ytmlaakadkjmmfaa", sum := "174e16e07ecec05d9a3bf9285afbbc1cb42741bc573d7217e2c5094322f56c93", func := "cylinder/cylinderlaw08.UnipolyKeeps", spec := "unipolyKeeps", unfollowed := true, recurses := true, apart := false, narrowed := true }
def UnipolyKeepsUptoSaid : Prop := unipolyKeepsUptoRow.holds Try.pinned (OpenSpec.upto unipolyKeepsSpec)

/-- 'cylinderlaw14.RootboundDescartes', WHERE WHAT IT READS IS OF BULK AT MOST 1048576: true; the input reads as it did. -/
def rootboundDescartesUptoRow : OpenClaim := { program := "ytmlaakadkjmmfaa", sum := "174e16e07ecec05d9a3bf9285afbbc1cb42741bc573d7217e2c5094322f56c93", func := "cylinder/cylinderlaw14.RootboundDescartes", spec := "rootboundDescartes", unfollowed := true, recurses := true, named := ["math/bits.overflowError", "math/bits.divideError"], apart := false, narrowed := true }
def RootboundDescartesUptoSaid : Prop := rootboundDescartesUptoRow.holds Try.pinned (OpenSpec.upto rootboundDescartesSpec)

/-- 'cylinderlaw14.RootboundVariations', WHERE WHAT IT READS IS OF BULK AT MOST 1048576: true; the input reads as it did. -/
def rootboundVariationsUptoRow : OpenClaim := { program := "ytmlaakadkjmmfaa", sum := "174e16e07ecec05d9a3bf9285afbbc1cb42741bc573d7217e2c5094322f56c93", func := "cylinder/cylinderlaw14.RootboundVariations", spec := "rootboundVariations", unfollowed := true, recurses := true, named := ["math/bits.overflowError", "math/bits.divideError"], apart := false, narrowed := true }
def RootboundVariationsUptoSaid : Prop := rootboundVariationsUptoRow.holds Try.pinned (OpenSpec.upto rootboundVariationsSpec)

/-- 'cylinderlaw14.RootboundLaguerre', WHERE WHAT IT READS IS OF BULK AT MOST 1048576: true; the input reads as it did. -/
def rootboundLaguerreUptoRow : OpenClaim := { program := "ytmlaakadkjmmfaa", sum := "174e16e07ecec05d9a3bf9285afbbc1cb42741bc573d7217e2c5094322f56c93", func := "cylinder/cylinderlaw14.RootboundLaguerre", spec := "rootboundLaguerre", unfollowed := true, recurses := true, named := ["math/bits.overflowError", "math/bits.divideError"], apart := false, narrowed := true }
def RootboundLaguerreUptoSaid : Prop := rootboundLaguerreUptoRow.holds Try.pinned (OpenSpec.upto rootboundLaguerreSpec)

/-- 'cylinderlaw08.UnipolyEvals', WHERE WHAT IT READS IS OF BULK AT MOST 1048576: true; the input reads as it did. -/
def unipolyEvalsUptoRow : OpenClaim := { program := "ytmlaakadkjmmfaa", sum := "174e16e07ecec05d9a3bf9285afbbc1cb42741bc573d7217e2c5094322f56c93", func := "cylinder/cylinderlaw08.UnipolyEvals", spec := "unipolyEvals", unfollowed := true, recurses := true, named := ["math/bits.overflowError", "math/bits.divideError"], apart := false, narrowed := true }
def UnipolyEvalsUptoSaid : Prop := unipolyEvalsUptoRow.holds Try.pinned (OpenSpec.upto unipolyEvalsSpec)

/-- 'cylinderlaw08.UnipolyEnds', WHERE WHAT IT READS IS OF BULK AT MOST 1048576: true; the input reads as it did. -/
def unipolyEndsUptoRow : OpenClaim := { program := "ytmlaakadkjmmfaa", sum := "174e16e07ecec05d9a3bf9285afbbc1cb42741bc573d7217e2c5094322f56c93", func := "cylinder/cylinderlaw08.UnipolyEnds", spec := "unipolyEnds", unfollowed := true, recurses := true, named := ["math/bits.overflowError", "math/bits.divideError"], apart := false, narrowed := true }
def UnipolyEndsUptoSaid : Prop := unipolyEndsUptoRow.holds Try.pinned (OpenSpec.upto unipolyEndsSpec)

/-- 'cylinderlaw08.UnipolyInverse', WHERE WHAT IT READS IS OF BULK AT MOST 1048576: true; the input reads as it did. -/
def unipolyInverseUptoRow : OpenClaim := { program := "ytmlaakadkjmmfaa", sum := "174e16e07ecec05d9a3bf9285afbbc1cb42741bc573d7217e2c5094322f56c93", func := "cylinder/cylinderlaw08.UnipolyInverse", spec := "unipolyInverse", unfollowed := true, recurses := true, named := ["math/bits.overflowError", "math/bits.divideError"], apart := false, narrowed := true }
def UnipolyInverseUptoSaid : Prop := unipolyInverseUptoRow.holds Try.pinned (OpenSpec.upto unipolyInverseSpec)

/-- 'cylinderlaw14.RootboundCauchy', WHERE WHAT IT READS IS OF BULK AT MOST 1048576: true; the input reads as it did. -/
def rootboundCauchyUptoRow : OpenClaim := { program := "ytmlaakadkjmmfaa", sum := "174e16e07ecec05d9a3bf9285afbbc1cb42741bc573d7217e2c5094322f56c93", func := "cylinder/cylinderlaw14.RootboundCauchy", spec := "rootboundCauchy", unfollowed := true, recurses := true, named := ["math/bits.overflowError", "math/bits.divideError"], apart := false, narrowed := true }
def RootboundCauchyUptoSaid : Prop := rootboundCauchyUptoRow.holds Try.pinned (OpenSpec.upto rootboundCauchySpec)

/-- 'cylinderlaw09.UnidivPseudo', WHERE WHAT IT READS IS OF BULK AT MOST 1048576: true; the input reads as it did. -/
def unidivPseudoUptoRow : OpenClaim := { program := "ytmlaakadkjmmfaa", sum := "174e16e07ecec05d9a3bf9285afbbc1cb42741bc573d7217e2c5094322f56c93", func := "cylinder/cylinderlaw09.UnidivPseudo", spec := "unidivPseudo", unfollowed := true, recurses := true, named := ["math/bits.overflowError", "math/bits.divideError"], apart := false, narrowed := true }
def UnidivPseudoUptoSaid : Prop := unidivPseudoUptoRow.holds Try.pinned (OpenSpec.upto unidivPseudoSpec)

/-- 'cylinderlaw08.UnipolyHomomorphism', WHERE WHAT IT READS IS OF BULK AT MOST 1048576: true; the input reads as it did. -/
def unipolyHomomorphismUptoRow : OpenClaim := { program := "ytmlaakadkjmmfaa", sum := "174e16e07ecec05d9a3bf9285afbbc1cb42741bc573d7217e2c5094322f56c93", func := "cylinder/cylinderlaw08.UnipolyHomomorphism", spec := "unipolyHomomorphism", unfollowed := true, recurses := true, named := ["math/bits.overflowError", "math/bits.divideError"], apart := false, narrowed := true }
def UnipolyHomomorphismUptoSaid : Prop := unipolyHomomorphismUptoRow.holds Try.pinned (OpenSpec.upto unipolyHomomorphismSpec)

/-- 'cylinderlaw09.UnidivSubresultants', WHERE WHAT IT READS IS OF BULK AT MOST 1048576: true; the input reads as it did. -/
def unidivSubresultantsUptoRow : OpenClaim := { program := "ytmlaakadkjmmfaa", sum := "174e16e07ecec05d9a3bf9285afbbc1cb42741bc573d7217e2c5094322f56c93", func := "cylinder/cylinderlaw09.UnidivSubresultants", spec := "unidivSubresultants", unfollowed := true, recurses := true, named := ["math/bits.overflowError", "math/bits.divideError"], apart := false, narrowed := true }
def UnidivSubresultantsUptoSaid : Prop := unidivSubresultantsUptoRow.holds Try.pinned (OpenSpec.upto unidivSubresultantsSpec)

/-- 'cylinderlaw09.UnidivContent', WHERE WHAT IT READS IS OF BULK AT MOST 1048576: true; the input reads as it did. -/
def unidivContentUptoRow : OpenClaim := { program := "ytmlaakadkjmmfaa", sum := "174e16e07ecec05d9a3bf9285afbbc1cb42741bc573d7217e2c5094322f56c93", func := "cylinder/cylinderlaw09.UnidivContent", spec := "unidivContent", unfollowed := true, recurses := true, named := ["math/bits.overflowError", "math/bits.divideError"], apart := false, narrowed := true }
def UnidivContentUptoSaid : Prop := unidivContentUptoRow.holds Try.pinned (OpenSpec.upto unidivContentSpec)

/-- 'cylinderlaw09.UnidivLast', WHERE WHAT IT READS IS OF BULK AT MOST 1048576: true; the input reads as it did. -/
def unidivLastUptoRow : OpenClaim := { program := "ytmlaakadkjmmfaa", sum := "174e16e07ecec05d9a3bf9285afbbc1cb42741bc573d7217e2c5094322f56c93", func := "cylinder/cylinderlaw09.UnidivLast", spec := "unidivLast", unfollowed := true, recurses := true, named := ["math/bits.overflowError", "math/bits.divideError"], apart := false, narrowed := true }
def UnidivLastUptoSaid : Prop := unidivLastUptoRow.holds Try.pinned (OpenSpec.upto unidivLastSpec)

/-- 'cylinderlaw09.UnidivFactors', WHERE WHAT IT READS IS OF BULK AT MOST 1048576: true; the input reads as it did. -/
def unidivFactorsUptoRow : OpenClaim := { program := "ytmlaakadkjmmfaa", sum := "174e16e07ecec05d9a3bf9285afbbc1cb42741bc573d7217e2c5094322f56c93", func := "cylinder/cylinderlaw09.UnidivFactors", spec := "unidivFactors", unfollowed := true, recurses := true, named := ["math/bits.overflowError", "math/bits.divideError"], apart := false, narrowed := true }
def UnidivFactorsUptoSaid : Prop := unidivFactorsUptoRow.holds Try.pinned (OpenSpec.upto unidivFactorsSpec)

/-- 'cylinderlaw09.UnidivIdentity', WHERE WHAT IT READS IS OF BULK AT MOST 1048576: true; the input reads as it did. -/
def unidivIdentityUptoRow : OpenClaim := { program := "ytmlaakadkjmmfaa", sum := "174e16e07ecec05d9a3bf9285afbbc1cb42741bc573d7217e2c5094322f56c93", func := "cylinder/cylinderlaw09.UnidivIdentity", spec := "unidivIdentity", unfollowed := true, recurses := true, named := ["math/bits.overflowError", "math/bits.divideError"], apart := false, narrowed := true }
def UnidivIdentityUptoSaid : Prop := unidivIdentityUptoRow.holds Try.pinned (OpenSpec.upto unidivIdentitySpec)

/-- 'cylinderlaw09.UnidivCommon', WHERE WHAT IT READS IS OF BULK AT MOST 1048576: true; the input reads as it did. -/
def unidivCommonUptoRow : OpenClaim := { program := "ytmlaakadkjmmfaa", sum := "174e16e07ecec05d9a3bf9285afbbc1cb42741bc573d7217e2c5094322f56c93", func := "cylinder/cylinderlaw09.UnidivCommon", spec := "unidivCommon", unfollowed := true, recurses := true, named := ["math/bits.overflowError", "math/bits.divideError"], apart := false, narrowed := true }
def UnidivCommonUptoSaid : Prop := unidivCommonUptoRow.holds Try.pinned (OpenSpec.upto unidivCommonSpec)

/-- 'cylinderlaw14.RootboundHolds', WHERE WHAT IT READS IS OF BULK AT MOST 1048576: true; the input reads as it did. -/
def rootboundHoldsUptoRow : OpenClaim := { program := "ytmlaakadkjmmfaa", sum := "174e16e07ecec05d9a3bf9285afbbc1cb42741bc573d7217e2c5094322f56c93", func := "cylinder/cylinderlaw14.RootboundHolds", spec := "rootboundHolds", unfollowed := true, recurses := true, named := ["math/bits.overflowError", "math/bits.divideError"], apart := false, narrowed := true }
def RootboundHoldsUptoSaid : Prop := rootboundHoldsUptoRow.holds Try.pinned (OpenSpec.upto rootboundHoldsSpec)

/-- 'cylinderlaw09.UnidivExact', WHERE WHAT IT READS IS OF BULK AT MOST 1048576: true; the input reads as it did. -/
def unidivExactUptoRow : OpenClaim := { program := "ytmlaakadkjmmfaa", sum := "174e16e07ecec05d9a3bf9285afbbc1cb42741bc573d7217e2c5094322f56c93", func := "cylinder/cylinderlaw09.UnidivExact", spec := "unidivExact", unfollowed := true, recurses := true, named := ["math/bits.overflowError", "math/bits.divideError"], apart := false, narrowed := true }
def UnidivExactUptoSaid : Prop := unidivExactUptoRow.holds Try.pinned (OpenSpec.upto unidivExactSpec)

/-- 'cylinderlaw11.SquarefreeParts', WHERE WHAT IT READS IS OF BULK AT MOST 1048576: true; the input reads as it did. -/
def squarefreePartsUptoRow : OpenClaim := { program := "ytmlaakadkjmmfaa", sum := "174e16e07ecec05d9a3bf9285afbbc1cb42741bc573d7217e2c5094322f56c93", func := "cylinder/cylinderlaw11.SquarefreeParts", spec := "squarefreeParts", unfollowed := true, recurses := true, named := ["math/bits.overflowError", "math/bits.divideError"], apart := false, narrowed := true }
def SquarefreePartsUptoSaid : Prop := squarefreePartsUptoRow.holds Try.pinned (OpenSpec.upto squarefreePartsSpec)

/-- 'cylinderlaw09.UnidivXgcd', WHERE WHAT IT READS IS OF BULK AT MOST 1048576: true; the input reads as it did. -/
def unidivXgcdUptoRow : OpenClaim := { program := "ytmlaakadkjmmfaa", sum := "174e16e07ecec05d9a3bf9285afbbc1cb42741bc573d7217e2c5094322f56c93", func := "cylinder/cylinderlaw09.UnidivXgcd", spec := "unidivXgcd", unfollowed := true, recurses := true, named := ["math/bits.overflowError", "math/bits.divideError"], apart := false, narrowed := true }
def UnidivXgcdUptoSaid : Prop := unidivXgcdUptoRow.holds Try.pinned (OpenSpec.upto unidivXgcdSpec)

/-- 'cylinderlaw11.SquarefreeDecomposes', WHERE WHAT IT READS IS OF BULK AT MOST 1048576: true; the input reads as it did. -/
def squarefreeDecomposesUptoRow : OpenClaim := { program := "ytmlaakadkjmmfaa", sum := "174e16e07ecec05d9a3bf9285afbbc1cb42741bc573d7217e2c5094322f56c93", func := "cylinder/cylinderlaw11.SquarefreeDecomposes", spec := "squarefreeDecomposes", unfollowed := true, recurses := true, named := ["math/bits.overflowError", "math/bits.divideError"], apart := false, narrowed := true }
def SquarefreeDecomposesUptoSaid : Prop := squarefreeDecomposesUptoRow.holds Try.pinned (OpenSpec.upto squarefreeDecomposesSpec)

/-- 'cylinderlaw11.SquarefreePowers', WHERE WHAT IT READS IS OF BULK AT MOST 1048576: true; the input reads as it did. -/
def squarefreePowersUptoRow : OpenClaim := { program := "ytmlaakadkjmmfaa", sum := "174e16e07ecec05d9a3bf9285afbbc1cb42741bc573d7217e2c5094322f56c93", func := "cylinder/cylinderlaw11.SquarefreePowers", spec := "squarefreePowers", unfollowed := true, recurses := true, named := ["math/bits.overflowError", "math/bits.divideError"], apart := false, narrowed := true }
def SquarefreePowersUptoSaid : Prop := squarefreePowersUptoRow.holds Try.pinned (OpenSpec.upto squarefreePowersSpec)

/-- 'cylinderlaw11.SquarefreeCovers', WHERE WHAT IT READS IS OF BULK AT MOST 1048576: true; the input reads as it did. -/
def squarefreeCoversUptoRow : OpenClaim := { program := "ytmlaakadkjmmfaa", sum := "174e16e07ecec05d9a3bf9285afbbc1cb42741bc573d7217e2c5094322f56c93", func := "cylinder/cylinderlaw11.SquarefreeCovers", spec := "squarefreeCovers", unfollowed := true, recurses := true, named := ["math/bits.overflowError", "math/bits.divideError"], apart := false, narrowed := true }
def SquarefreeCoversUptoSaid : Prop := squarefreeCoversUptoRow.holds Try.pinned (OpenSpec.upto squarefreeCoversSpec)

/-- 'cylinderlaw14.RootboundSeparation', WHERE WHAT IT READS IS OF BULK AT MOST 1048576: true; the input reads as it did. -/
def rootboundSeparationUptoRow : OpenClaim := { program := "ytmlaakadkjmmfaa", sum := "174e16e07ecec05d9a3bf9285afbbc1cb42741bc573d7217e2c5094322f56c93", func := "cylinder/cylinderlaw14.RootboundSeparation", spec := "rootboundSeparation", unfollowed := true, recurses := true, named := ["math/bits.overflowError", "math/bits.divideError"], apart := false, narrowed := true }
def RootboundSeparationUptoSaid : Prop := rootboundSeparationUptoRow.holds Try.pinned (OpenSpec.upto rootboundSeparationSpec)

/-- 'cylinderlaw11.SquarefreeCounts', WHERE WHAT IT READS IS OF BULK AT MOST 1048576: true; the input reads as it did. -/
def squarefreeCountsUptoRow : OpenClaim := { program := "ytmlaakadkjmmfaa", sum := "174e16e07ecec05d9a3bf9285afbbc1cb42741bc573d7217e2c5094322f56c93", func := "cylinder/cylinderlaw11.SquarefreeCounts", spec := "squarefreeCounts", unfollowed := true, recurses := true, named := ["math/bits.overflowError", "math/bits.divideError"], apart := false, narrowed := true }
def SquarefreeCountsUptoSaid : Prop := squarefreeCountsUptoRow.holds Try.pinned (OpenSpec.upto squarefreeCountsSpec)

/-- 'cylinderlaw11.SquarefreeMultiplies', WHERE WHAT IT READS IS OF BULK AT MOST 1048576: true; the input reads as it did. -/
def squarefreeMultipliesUptoRow : OpenClaim := { program := "ytmlaakadkjmmfaa", sum := "174e16e07ecec05d9a3bf9285afbbc1cb42741bc573d7217e2c5094322f56c93", func := "cylinder/cylinderlaw11.SquarefreeMultiplies", spec := "squarefreeMultiplies", unfollowed := true, recurses := true, named := ["math/bits.overflowError", "math/bits.divideError"], apart := false, narrowed := true }
def SquarefreeMultipliesUptoSaid : Prop := squarefreeMultipliesUptoRow.holds Try.pinned (OpenSpec.upto squarefreeMultipliesSpec)

/-- 'cylinderlaw11.SquarefreeExponents', WHERE WHAT IT READS IS OF BULK AT MOST 1048576: true; the input reads as it did. -/
def squarefreeExponentsUptoRow : OpenClaim := { program := "ytmlaakadkjmmfaa", sum := "174e16e07ecec05d9a3bf9285afbbc1cb42741bc573d7217e2c5094322f56c93", func := "cylinder/cylinderlaw11.SquarefreeExponents", spec := "squarefreeExponents", unfollowed := true, recurses := true, named := ["math/bits.overflowError", "math/bits.divideError"], apart := false, narrowed := true }
def SquarefreeExponentsUptoSaid : Prop := squarefreeExponentsUptoRow.holds Try.pinned (OpenSpec.upto squarefreeExponentsSpec)

/-- 'cylinderlaw14.RootboundApart', WHERE WHAT IT READS IS OF BULK AT MOST 1048576: true; the input reads as it did. -/
def rootboundApartUptoRow : OpenClaim := { program := "ytmlaakadkjmmfaa", sum := "174e16e07ecec05d9a3bf9285afbbc1cb42741bc573d7217e2c5094322f56c93", func := "cylinder/cylinderlaw14.RootboundApart", spec := "rootboundApart", unfollowed := true, recurses := true, named := ["math/bits.overflowError", "math/bits.divideError"], apart := false, narrowed := true }
def RootboundApartUptoSaid : Prop := rootboundApartUptoRow.holds Try.pinned (OpenSpec.upto rootboundApartSpec)

/-- 'cylinderlaw14.RootboundScales', WHERE WHAT IT READS IS OF BULK AT MOST 1048576: true; the input reads as it did. -/
def rootboundScalesUptoRow : OpenClaim := { program := "ytmlaakadkjmmfaa", sum := "174e16e07ecec05d9a3bf9285afbbc1cb42741bc573d7217e2c5094322f56c93", func := "cylinder/cylinderlaw14.RootboundScales", spec := "rootboundScales", unfollowed := true, recurses := true, named := ["math/bits.overflowError", "math/bits.divideError"], apart := false, narrowed := true }
def RootboundScalesUptoSaid : Prop := rootboundScalesUptoRow.holds Try.pinned (OpenSpec.upto rootboundScalesSpec)

/-- 'cylinderlaw11.SquarefreeOrderless', WHERE WHAT IT READS IS OF BULK AT MOST 1048576: true; the input reads as it did. -/
def squarefreeOrderlessUptoRow : OpenClaim := { program := "ytmlaakadkjmmfaa", sum := "174e16e07ecec05d9a3bf9285afbbc1cb42741bc573d7217e2c5094322f56c93", func := "cylinder/cylinderlaw11.SquarefreeOrderless", spec := "squarefreeOrderless", unfollowed := true, recurses := true, named := ["math/bits.overflowError", "math/bits.divideError"], apart := false, narrowed := true }
def SquarefreeOrderlessUptoSaid : Prop := squarefreeOrderlessUptoRow.holds Try.pinned (OpenSpec.upto squarefreeOrderlessSpec)

/-- 'cylinderlaw11.SquarefreeSpans', WHERE WHAT IT READS IS OF BULK AT MOST 1048576: true; the input reads as it did. -/
def squarefreeSpansUptoRow : OpenClaim := { program := "ytmlaakadkjmmfaa", sum := "174e16e07ecec05d9a3bf9285afbbc1cb42741bc573d7217e2c5094322f56c93", func := "cylinder/cylinderlaw11.SquarefreeSpans", spec := "squarefreeSpans", unfollowed := true, recurses := true, named := ["math/bits.overflowError", "math/bits.divideError"], apart := false, narrowed := true }
def SquarefreeSpansUptoSaid : Prop := squarefreeSpansUptoRow.holds Try.pinned (OpenSpec.upto squarefreeSpansSpec)

end Rows
end Go.Proofs.Ytmlaakadkjmmfaa
