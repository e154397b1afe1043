/-
  The card: AddrReads.
-/
import Derived.Test.YtjbhcaifmgbpgaaDoorAr
import Derived.Test.YtjbhcaifmgbpgaaDoorTie
import Derived.Test.YtjbhcaifmgbpgaaDoorCards
import Derived.SevenTiedAt
namespace Go.Proofs.YtjbhcaifmgbpgaaDoor.Ad
open Go
theorem addrReads_card : Rows.AddrReadsCardSaid :=
  Claim7.holds_tied_plain_at .later [] [.data, .data, .data, .data, .sentinel, .sentinel, .pinned] true (true, "1c63b316139fc6b4e446d62986e1b012f8f1ff1566db0a0ca361218360501915") true
    addrReads_holds (fun _ h => by cases h) (by kernel_rfl) (fun _ h => by cases h) addrReads_row_tie rfl ⟨rfl, rfl⟩ (by kernel_rfl) rfl
    (fun f fn hf hfn => by
      obtain rfl : f = 4 := Option.some.inj ((show Tryd.prog.funcNamed "embrasure/embrasurelaw03.AddrReads" = some 4 by kernel_rfl).symm.trans hf) |>.symm
      obtain rfl : fn = Tryd.f4 := (Option.some.inj (Tryd.func4.symm.trans hfn)).symm
      exact ⟨by kernel_rfl, fun j t ht => by
        rw [Tryd.params4] at ht
        have h3 : t = 9 := by
          rcases j with _ | j
          · simpa using ht.symm
          · simp at ht
        subst h3
        exact (show Tryd.prog.wantsStandIn 9 = false by kernel_rfl)⟩)
    (by kernel_rfl)
#print axioms addrReads_card
end Go.Proofs.YtjbhcaifmgbpgaaDoor.Ad
