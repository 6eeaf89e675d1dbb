/- Text LawSinkTakesA of this seat: written by a program of ours, or by hand; checked by Lean. -/
import Derived.Test.YtfgphjencdhdgaaGreatDoorS
import Derived.Test.YtfgphjencdhdgaaGreatDoorE12
import Derived.Test.YtfgphjencdhdgaaGreatDoorE13
import Derived.Test.YtfgphjencdhdgaaGreatDoorLTakes
import Derived.Test.YtfgphjencdhdgaaGreatDoorRows
import Derived.Test.YtfgphjencdhdgaaGreatDoorTie
import Derived.Test.YtfgphjencdhdgaaGreatDoorCards
import Derived.SevenTiedAt
import Derived.Lay
import Derived.MakeChecks
import Derived.WalkKit
import Derived.ProofKit
namespace Go.Proofs.YtfgphjencdhdgaaGreatDoor.sinkTakes
open Go.Proofs Go.ChangeShapes Go.WideShapes Go.ChangeAt Go.RowKit Go.En
open Go.ChangeMaps (open_string shut_string)
set_option linter.unusedVariables false
theorem own : ownKnob Tryz.prog.godebug = none := by kernel_rfl
theorem laidOut : laidOutB Tryz.prog = true := by kernel_rfl
def laids : List (String × DataW Unit) := Rows.sinkTakesRow.laid
theorem globsOK {W : World} (hL : laidMetH Tryz.prog laids W) (V : Ev) : ∀ g t vs, (Pl.env V []).glob g = some (t, vs) → g < W.heap.size ∧ ∃ t' fr, W.heap[g]? = some (.cells vs.toArray t' fr) := by
 intro g t vs h
 have h' : (g, t, vs) ∈ Pl.globs := zec h
 have hn : (laids.filter fun x => x.2.handleName?.isSome) = [] := by kernel_rfl
 rcases List.mem_cons.1 h' with e | h'
 ·cases e
  exact zc0 hL hn (n := "pounce/entity.names") (d := Rows.laid_pounce_entity_names) (by simp [laids, Rows.sinkTakesRow]) (t := 237) (by kernel_rfl) (by kernel_rfl) (by kernel_rfl) (by kernel_rfl)
 rcases List.mem_cons.1 h' with e | h'
 ·cases e
  exact zc0 hL hn (n := "internal/strconv.uint64pow10") (d := Rows.laid_internal_strconv_uint64pow10) (by simp [laids, Rows.sinkTakesRow]) (t := 272) (by kernel_rfl) (by kernel_rfl) (by kernel_rfl) (by kernel_rfl)
 cases h'
theorem gerrsOK {W : World} (hL : laidMetH Tryz.prog laids W) (V : Ev) : ∀ g, (Pl.env V []).gerr g = true → g < W.heap.size ∧ ∃ v t fr, W.heap[g]? = some (.cells #[v] t fr) ∧ ErrV true v := by
 intro g h
 have h' : Pl.gerrs.contains g = true := h
 have hn : (laids.filter fun x => x.2.handleName?.isSome) = [] := by kernel_rfl
 have hm : g = 5 ∨ g = 6 := by simpa [Pl.gerrs] using h'
 rcases hm with rfl | rfl
 ·exact zfm hL hn (n := "strconv.ErrSyntax") (s := "*errors.errorString") (d := .ptr (.agg [.lit (.string [105, 110, 118, 97, 108, 105, 100, 32, 115, 121, 110, 116, 97, 120])])) (by simp [laids, Rows.sinkTakesRow, Rows.laid_strconv_ErrSyntax]) (t := 147) (by kernel_rfl) (by kernel_rfl) Tryz.underlying147
 ·exact zfm hL hn (n := "strconv.ErrRange") (s := "*errors.errorString") (d := .ptr (.agg [.lit (.string [118, 97, 108, 117, 101, 32, 111, 117, 116, 32, 111, 102, 32, 114, 97, 110, 103, 101])])) (by simp [laids, Rows.sinkTakesRow, Rows.laid_strconv_ErrRange]) (t := 147) (by kernel_rfl) (by kernel_rfl) Tryz.underlying147
theorem gintsOK {W : World} (hS : W.ShapedOpen Tryz.prog) (V : Ev) : ∀ g, (Pl.env V []).gint g = true → ∃ m, W.cell? ⟨g, 0, none⟩ = some (.int .i64 m) := by
 intro g h
 have h' : Pl.gints.contains g = true := h
 obtain rfl : g = 1 := by simpa [Pl.gints] using h'
 exact cell_of_shapedOpen_int (zero := #[.int .i64 0]) (t := 3) hS (of_decide_eq_true (by kernel_rfl)) (by kernel_rfl) rfl (by kernel_rfl) (by kernel_rfl) Tryz.underlying3
end Go.Proofs.YtfgphjencdhdgaaGreatDoor.sinkTakes
