/- Walks of layer parse: a statement. -/
import Derived.Test.YthniejnbkkkbnaaGreatDoorM38
set_option linter.all false
set_option linter.unusedSimpArgs false
set_option linter.unusedVariables false
namespace Go.Proofs.YthniejnbkkkbnaaGreatDoor
open Go.RowKit

/-- What simple does, whatever the fuel. -/
def SimpleOk : Prop := ∀ (K : PK) (p d : Nat) (w : World), Ctx K p d w → d ≤ 40 → ∀ k r, k ≤ 1000000 → simpleP K.L K.E k d p = some r → Calls Tryz.prog 258 #[ptrV K.rb] w (PP K d w r (NewTree w))
theorem stmt_any (hs : SimpleOk) (k : Nat) (hk : k ≤ 1000000) (ih : SAt k) (ie : EAt k) (K : PK) (p d : Nat) (w : World) (h : Ctx K p d w) (hd : d ≤ 40) (r : PR T) (hr : stmtP K.L K.E (k + 1) d p = some r) :
    Calls Tryz.prog 212 #[ptrV K.rb] w (PP K d w r (NewTree w)) := by
  unfold stmtP at hr
  cases hi : isP K.L K.E p xIf
  · rw [hi] at hr
    simp only [Bool.false_eq_true, if_false] at hr
    cases hf : isP K.L K.E p xFor
    · rw [hf] at hr
      simp only [Bool.false_eq_true, if_false] at hr
      exact stmt_simple hs k hk K p d w h hd hi hf r hr
    · rw [hf] at hr
      simp only [if_true] at hr
      exact stmt_for k ih ie K p d w h hd hi hf r hr
  · rw [hi] at hr
    simp only [if_true] at hr
    exact stmt_if k ih K p d w h hd hi r hr
/-- The statements' contracts, out of the expressions'. -/
theorem sAt_all (hs : SimpleOk) (ie : ∀ k, k ≤ 1000000 → EAt k) : ∀ k, k ≤ 1000000 → SAt k := by
  intro k
  induction k using Nat.strongRecOn with
  | _ k ih =>
    intro hk
    cases k with
    | zero => exact ⟨fun K p d w h hd r hr => by simp [stmtP] at hr, fun K p d w h hd r hr => by simp [branchP] at hr, fun K p d w h hd r hr => by simp [blockP] at hr⟩
    | succ k =>
      have i1 := ih k (by omega) (by omega)
      exact ⟨fun K p d w h hd r hr => stmt_any hs k (by omega) i1 (ie k (by omega)) K p d w h hd r hr, fun K p d w h hd r hr => branch_any k i1 (ie k (by omega)) K p d w h hd r hr,
        fun K p d w h hd r hr => block_any k (by omega) (fun j hj => ih j (by omega) (by omega)) K p d w h hd r hr⟩
end Go.Proofs.YthniejnbkkkbnaaGreatDoor
