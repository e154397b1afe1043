import Derived.Test.YtklcggcejaecdaaWs
namespace Go.Proofs.Ytklcggcejaecdaa.Pure
open Go.RowKit Go.Proofs.Ytklcggcejaecdaa.J Go.Proofs.YtklcggcejaecdaaW.PrintWords Go.Proofs.YtklcggcejaecdaaW.PrintLast

theorem WireReads : embrasurelaw05_WireReads.Pure := reads_pure

end Go.Proofs.Ytklcggcejaecdaa.Pure
