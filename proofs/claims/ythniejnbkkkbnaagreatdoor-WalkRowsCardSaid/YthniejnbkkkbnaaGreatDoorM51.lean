/- WalkRows holds: of every two results and rows of numbers whether they are the same, and whether one begins with the other one, are the document's (up to 100 numbers); the listed package-level variables read as the program's text lays them. -/
import Derived.Test.YthniejnbkkkbnaaGreatDoorM50
set_option linter.all false
set_option linter.unusedSimpArgs false
set_option linter.unusedVariables false
namespace Go.Proofs.YthniejnbkkkbnaaGreatDoor
open Go.ChangeShapes Go.WideShapes Go.ChangeAt Go.RowKit
set_option maxRecDepth 100000
set_option maxHeartbeats 4000000

theorem facts1 : joinedFacts Tryz.pinned.checked.prog 3 Tryz.f3 Rows.walkRowsSpec Rows.walkRowsRow = true := by
  simp only [joinedFacts, Bool.and_eq_true]
  refine ⟨⟨⟨⟨⟨⟨⟨⟨⟨⟨⟨⟨⟨⟨⟨⟨⟨⟨⟨⟨⟨⟨⟨⟨⟨⟨⟨⟨⟨⟨⟨?_, ?_⟩, ?_⟩, ?_⟩, ?_⟩, ?_⟩, ?_⟩, ?_⟩, ?_⟩, ?_⟩, ?_⟩, ?_⟩, ?_⟩, ?_⟩, ?_⟩, ?_⟩, ?_⟩, ?_⟩, ?_⟩, ?_⟩, ?_⟩, ?_⟩, ?_⟩, ?_⟩, ?_⟩, ?_⟩, ?_⟩, ?_⟩, ?_⟩, ?_⟩, ?_⟩, ?_⟩ <;> as_aux_lemma => kernel_rfl
theorem facts2 : Tryz.pinned.checked.prog.funcNamed Rows.walkRowsRow.func = some 3 := by kernel_rfl
theorem facts3 : Tryz.f3.isInstance Tryz.pinned.checked.prog Rows.walkRowsRow.origin Rows.walkRowsRow.targs := of_decide_eq_true (by kernel_rfl)
theorem facts4 : Tryz.f3.isWrapper Tryz.pinned.checked.prog Rows.walkRowsRow.wrapper Rows.walkRowsRow.mainSum := by
  unfold Func.isWrapper; first | (rw [if_pos (by decide +kernel)]; kernel_rfl) | (rw [if_neg (by decide +kernel)]; exact ⟨rfl, rfl⟩)
theorem said : Rows.WalkRowsSaid :=
  OpenClaim.holds_of_wide 3 Tryz.f3 rfl rfl rfl rfl rfl rfl rfl ⟨rfl, rfl, rfl, rfl, rfl⟩ rfl rfl rfl rfl rfl facts2 Tryz.func3 facts1
    facts3 facts4 (fun os started H enc _ => lifted os started H enc)
theorem walkRows_holds : Rows.WalkRowsCardSaid :=
  Claim7.holds_tied_plain_at .later [] _ _ _ _ said (fun _ h => by cases h) (by kernel_rfl) (fun _ h => by cases h) walkRows_row_tie rfl ⟨rfl, rfl⟩ (by kernel_rfl) rfl plain_rows (by kernel_rfl)
#print axioms walkRows_holds
end Go.Proofs.YthniejnbkkkbnaaGreatDoor
