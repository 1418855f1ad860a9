/- The row's list of tables gives the table that strconv reads; a world for the witness. -/
import Derived.Test.YtkfibjmjamdigaaDoorCards
import Derived.Test.YtkfibjmjamdigaaDoorTie
import Derived.Test.YtkfibjmjamdigaaDoorQTab
import Derived.WalkKit
import Derived.ProofKit
import Derived.OpenShut
import Derived.Deep.DeepHandedRow
import Derived.Lib.LaidTab
import Derived.Lib.SmallJoins
import Derived.MakeChecks
import Derived.LaidSub
namespace Go.Proofs.YtkfibjmjamdigaaDoor.Q
open Go.ChangeShapes Go.WideShapes Go.ChangeAt Go.RowKit
abbrev laid3 : List (String × DataW Unit) := [("math/bits.deBruijn32tab", Rows.laid_math_bits_deBruijn32tab), ("math/bits.deBruijn64tab", Rows.laid_math_bits_deBruijn64tab), ("internal/strconv.uint64pow10", Rows.laid_internal_strconv_uint64pow10)]
theorem gPowType : (Tryd.prog.globals[0]?).map (·.type) = some 92 := by kernel_rfl
theorem cells92 : Tryd.prog.cellsOf 92 = 20 := by kernel_rfl
theorem cells77 : Tryd.prog.cellsOf 77 = 1 := by kernel_rfl
theorem tab_of_laid {W : World} (h : laidMetH Tryd.prog laid3 W) : Tab W := by
  rw [MakeChecks.laidMetH_plain _ _ _ (by kernel_rfl)] at h
  have h1 : laidMet Tryd.prog [("internal/strconv.uint64pow10", Rows.laid_internal_strconv_uint64pow10)] W := h.filter (fun x => x.1 == "internal/strconv.uint64pow10")
  have h2 : Lib.TabIs Tryd.prog W "internal/strconv.uint64pow10" .u64 Lib.pow10Tab := Lib.tabIs_of_head (rest := []) gPow gPowType Tryd.underlying92 Tryd.underlying77 cells77 cells92 h1
  refine ⟨h2, ?_⟩
  unfold Lib.TabIs World.var? at h2
  rw [gPow] at h2
  simp only [Option.bind_some] at h2
  rcases Nat.eq_zero_or_pos W.heap.size with e | e
  · rw [Array.getElem?_eq_none (by omega)] at h2
    cases h2
  · exact e
theorem own : ownKnob Tryd.prog.godebug = none := by kernel_rfl
theorem laidOut : laidOutB Tryd.prog = true := by kernel_rfl
def putCells (cs : Array Value) : Obj → Obj
  | .cells _ t frozen => .cells cs t frozen
  | o => o
def c32 : Array Value := ([0, 1, 28, 2, 29, 14, 24, 3, 30, 22, 20, 15, 25, 17, 4, 8, 31, 27, 13, 23, 21, 19, 16, 7, 26, 12, 18, 6, 11, 5, 10, 9].map fun z => Value.int .u8 z).toArray
def c64 : Array Value := ([0, 1, 56, 2, 57, 49, 28, 3, 61, 58, 42, 50, 38, 29, 17, 4, 62, 47, 59, 36, 45, 43, 51, 22, 53, 39, 33, 30, 24, 18, 12, 5, 63, 55, 48, 27, 60, 41, 37, 16, 46, 35, 44, 21, 52, 32, 23, 11, 54, 26, 40, 15, 34, 20, 31, 10, 25, 14, 19, 9, 13, 8, 7, 6].map fun z => Value.int .u8 z).toArray
def cPow : Array Value := (Lib.pow10Tab.map fun z => Value.int .u64 z).toArray
/-- A world for the witness: the settled one, the three tables holding what their initialisers lay. -/
noncomputable def laidWorld (os : Os) : World :=
  { World.holding Tryd.prog os ⟨#[], #[], []⟩ with heap := (((World.holding Tryd.prog os ⟨#[], #[], []⟩).heap.modify 0 (putCells cPow)).modify 4 (putCells c32)).modify 5 (putCells c64) }
theorem laid_met (os : Os) (args : Array Value) : laidMet Tryd.prog laid3 ((laidWorld os).forCall (fun _ _ => 0) ⟨#[], args, []⟩).memory :=
  laidMet_of_run' 8 (by kernel_rfl) (by kernel_rfl)
end Go.Proofs.YtkfibjmjamdigaaDoor.Q
