/-
  What the bound of an '..UptoSaid' gives: how long a slice that came in may be.
-/
import Derived.Test.YtcejdokeaoklaaaRows
namespace Go.Proofs.Ytcejdokeaoklaaa.PChk

theorem bulk_pos {H : Type} (d : DataW H) : 1 ≤ Rows.uptoBulk d := by
  cases d with
  | lit l => cases l <;> simp [Rows.uptoBulk]
  | nil => simp [Rows.uptoBulk]
  | ptr d => simp [Rows.uptoBulk]
  | slice elems spare => simp [Rows.uptoBulk]
  | agg parts => simp [Rows.uptoBulk]
  | iface t d => simp [Rows.uptoBulk]
  | map entries => simp [Rows.uptoBulk]
  | held h => simp [Rows.uptoBulk]

theorem bulk_length {H : Type} (l : List (DataW H)) : l.length ≤ Rows.uptoBulkAll l := by
  induction l with
  | nil => simp [Rows.uptoBulkAll]
  | cons x r ih => have := bulk_pos x; simp only [Rows.uptoBulkAll, List.length_cons]; omega

theorem list_bulk {α H : Type} {G : α → DataW H → Prop} {d : DataW H} {xs : List α}
    (h : (d = .nil ∧ xs = []) ∨ ∃ elems rest, d = .slice elems rest ∧ elems.length = xs.length ∧ ∀ i (hi : i < xs.length), ∃ y, elems[i]? = some y ∧ G xs[i] y) : xs.length ≤ Rows.uptoBulk d := by
  rcases h with ⟨_, rfl⟩ | ⟨elems, rest, rfl, hl, _⟩
  · simp
  · have := bulk_length elems
    simp only [Rows.uptoBulk]
    omega

end Go.Proofs.Ytcejdokeaoklaaa.PChk
