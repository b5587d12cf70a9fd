/- Layer 15 (merge) in plain words: merged twice. No program in sight. -/
import Derived.Test.YtlfhnpecfkhcpaaPlain15
namespace Go.Proofs.Ytlfhnpecfkhcpaa.Thw
open Go
set_option linter.unusedVariables false
section
variable {α : Type} (key : α → ByteArray) (num : α → Int)
theorem newestL_append (a b : List α) : newestL key num (a ++ b) = b.foldl (insN key num) (newestL key num a) := by
  unfold newestL
  rw [List.foldl_append]
theorem insN_last : ∀ (P : List α) (r : α), (∀ x ∈ P, ltK key x r) → insN key num P r = P ++ [r]
  | [], r, _ => rfl
  | x :: P, r, h => by
    rw [insN, if_pos (h x (by simp)), insN_last P r (fun y hy => h y (by simp [hy]))]
    rfl
theorem fold_sorted : ∀ (L P : List α), (P ++ L).Pairwise (ltK key) → L.foldl (insN key num) P = P ++ L
  | [], P, _ => by simp
  | r :: L, P, h => by
    have h2 : ∀ x ∈ P, ltK key x r := fun x hx => (List.pairwise_append.1 h).2.2 x hx r (by simp)
    rw [List.foldl_cons, insN_last key num P r h2, fold_sorted L (P ++ [r]) (by rw [List.append_assoc]; exact h), List.append_assoc]
    rfl
/-- Merged again, records stay as they are. -/
theorem newestL_idem (l : List α) : newestL key num (newestL key num l) = newestL key num l := by
  have := fold_sorted key num (newestL key num l) [] (newestL_sorted key num l)
  exact this
/-- Merged first, and then with others: the same as at once. -/
theorem newestL_twice (a b : List α) : newestL key num (newestL key num a ++ b) = newestL key num (a ++ b) := by
  rw [newestL_append, newestL_append, newestL_idem]
end
end Go.Proofs.Ytlfhnpecfkhcpaa.Thw
