/- Names: the numbers of package api are those of the document; no conditions. -/
import Derived.Test.YtcchnefndcnnnaaPNamesx1
namespace Go.Proofs.Ytcchnefndcnnnaa.Pure
open Go.RowKit Go.Proofs.Ytcchnefndcnnnaa.PNames Go.Proofs.YtcchnefndcnnnaaW.PrintWords Go.Proofs.YtcchnefndcnnnaaW.PrintLast

/-- YOURS: diapausetop_Names.f  = some true
What it reaches (each with k first where it has rounds; `.mono`: more rounds tell the same; `.l0`, ..: its loops, with `.mono_l`): diapausetop_Names.f -/
theorem Names : diapausetop_Names.Pure := by
  rfl

end Go.Proofs.Ytcchnefndcnnnaa.Pure
