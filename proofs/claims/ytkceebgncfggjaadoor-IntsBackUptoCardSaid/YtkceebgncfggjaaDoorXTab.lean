/- What a world holds of Go's own tables: the premise of the functions that read one. -/
import Derived.Test.YtkceebgncfggjaaDoorXWords
namespace Go.Proofs.YtkceebgncfggjaaDoorX
open Go.RowKit Go.Proofs.YtkceebgncfggjaaDoorW.PrintWords Go.Proofs.YtkceebgncfggjaaDoorW.PrintLast Go.Proofs.YtkceebgncfggjaaDoorW.PrintMore
/-- math/bits.deBruijn32tab, as its text lays it. -/
def tabB : List Int := [0, 1, 28, 2, 29, 14, 24, 3, 30, 22, 20, 15, 25, 17, 4, 8, 31, 27, 13, 23, 21, 19, 16, 7, 26, 12, 18, 6, 11, 5, 10, 9]
/-- The world's variable math/bits.deBruijn32tab holds it. -/
def TabB (w : World) : Prop := ∀ j, j < 32 → w.cell? ⟨0, j, none⟩ = some (.int .u8 (tabB.getD j 0))
theorem TabB.below {w w' : World} (h : TabB w) (hb : Below w.heap.size w w') : TabB w' := fun j hj =>
  (hb.cell (World.block_lt_of_cell? w _ (h j hj))).trans (h j hj)
theorem TabB.drewN {w : World} (h : TabB w) (m : Nat) : TabB (w.drewN m) := h
end Go.Proofs.YtkceebgncfggjaaDoorX
