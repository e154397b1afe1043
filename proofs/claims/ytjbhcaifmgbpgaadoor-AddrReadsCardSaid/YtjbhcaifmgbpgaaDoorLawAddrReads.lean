/-
  The card of AddrReads, under a short name, for the claim.
-/
import Derived.Test.YtjbhcaifmgbpgaaDoorAs
namespace Go.Proofs.YtjbhcaifmgbpgaaDoor
open Go
theorem addrReads_card : Rows.AddrReadsCardSaid := Ad.addrReads_card
#print axioms addrReads_card
end Go.Proofs.YtjbhcaifmgbpgaaDoor
