/- Proved here, with the other texts of this claim: the law TermNone of package marqueelaw18 answers true for every input, and each argument reads behind the call as before; without any condition. These texts hold an evaluator of the program's code over memories of which a part is known, its soundness, and the walks of the functions that the law calls. -/
import Derived.Test.YtoaniefcobkaiaaGreatDoorD
import Derived.Test.YtoaniefcobkaiaaGreatDoorCards
import Derived.Test.YtoaniefcobkaiaaGreatDoorTie
import Derived.OpenShut
import Derived.Deep.DeepHandedRow
import Derived.Deep.DeepWitnessRowRef
section
set_option maxRecDepth 100000
namespace Go.Proofs.YtoaniefcobkaiaaGreatDoor
open Go Go.Ev Go.ChangeShapes Go.WideShapes Go.ChangeAt Go.RowKit
theorem ownK : ownKnob Tryz.prog.godebug = Option.none := by kernel_rfl
theorem laidO : laidOutB Tryz.prog = true := by kernel_rfl
/-! a world that holds the listed variables -/
def litOne : DataW Unit → List Value
  | .lit (.int k n) => [.int k n]
  | _ => []
def litTwo : DataW Unit → List Value
  | .lit (.int k n) => [.int k n]
  | .agg l => l.flatMap litOne
  | _ => []
def litCells : DataW Unit → Array Value
  | .agg l => ⟨l.flatMap litTwo⟩
  | _ => #[]
def textCells : DataW Unit → Array Value
  | .iface _ (.ptr (.agg [.lit (.string s)])) => #[.string ⟨⟨s⟩⟩]
  | _ => #[]
noncomputable def laidWorld (os : Os) : World :=
  let N := (World.settled Tryz.prog os).heap.size
  let w0 := World.holding Tryz.prog os ⟨#[.cells (textCells Rows.laid_strconv_ErrRange) 389, .cells (textCells Rows.laid_strconv_ErrSyntax) 389], #[], []⟩
  let put (h : Array Obj) (g : Nat) (cs : Array Value) : Array Obj := h.modify g fun
    | .cells _ t frozen => .cells cs t frozen
    | o => o
  let h1 := put w0.heap 0 (litCells Rows.laid_math_bits_deBruijn64tab)
  let h2 := put h1 2 (litCells Rows.laid_internal_strconv_uint64pow10)
  let h3 := put h2 3 (litCells Rows.laid_unicode_utf8_first)
  let h4 := put h3 4 (litCells Rows.laid_unicode_utf8_acceptRanges)
  let h5 := put h4 5 #[.iface 387 (.pointer (some ⟨N + 1, 0, Option.none⟩))]
  let h6 := put h5 6 #[.iface 387 (.pointer (some ⟨N, 0, Option.none⟩))]
  let h7 := put h6 7 (litCells Rows.laid_math_bits_deBruijn32tab)
  { w0 with heap := h7 }
theorem laid_met (os : Os) (args : Array Value) : laidMet Tryz.prog Rows.termNoneRow.laid ((laidWorld os).forCall (fun _ _ => 0) ⟨#[], args, []⟩).memory :=
  laidMet_of_run' 12 (by kernel_rfl) (by kernel_rfl)
end Go.Proofs.YtoaniefcobkaiaaGreatDoor
end
