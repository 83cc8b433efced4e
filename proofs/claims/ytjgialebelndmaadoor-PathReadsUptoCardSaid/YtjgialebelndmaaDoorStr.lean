/- strings.IndexByte under the print's name. -/
import Derived.Test.YtjgialebelndmaaDoorShelf
import Derived.Test.YtjgialebelndmaaDoorWWords
import Derived.Test.YtjgialebelndmaaDoorWLast
import Derived.Test.YtjgialebelndmaaDoorWMore
namespace Go.Proofs.YtjgialebelndmaaDoor.PF
open Go.RowKit Go.Proofs.YtjgialebelndmaaDoorW.PrintWords Go.Proofs.YtjgialebelndmaaDoorW.PrintLast Go.Proofs.YtjgialebelndmaaDoorW.PrintMore
set_option linter.unusedVariables false
set_option linter.unusedSimpArgs false
set_option maxHeartbeats 4000000
set_option maxRecDepth 100000

open Go.Proofs Go.Lib
def strings_IndexByte.f (a0 : ByteArray) (a1 : Int) : Option Int := some (Lib.indexByte a0.data.toList a1.toNat.toUInt8)
theorem strings_IndexByte.calls (a0 : ByteArray) (a1 : Int) (r : Int) (w : World) (h : strings_IndexByte.f a0 a1 = some r) :
    Calls Tryd.prog 26 #[.string a0, .int .u8 a1] w fun e w' => e = .returned (.int .i64 r) ∧ Below w.heap.size w w' := by
  unfold strings_IndexByte.f at h
  injection h with h
  subst h
  exact (Tryd.strings_IndexByte a0 a1 w).mono fun e w' ⟨h1, h2⟩ => ⟨h1, h2 ▸ Below.refl _ _⟩

end Go.Proofs.YtjgialebelndmaaDoor.PF
