/-
  What the second form's bound gives for a slice that came in: lemmas; nothing is claimed here.
-/
import Derived.Test.YtikclgliegfocaaRows
import Derived.Test.YtikclgliegfocaaDecR
namespace Go.Proofs.Ytikclgliegfocaa.bulks
open Go.Dec

theorem one {H : Type} (d : DataW H) : 1 ≤ Rows.uptoBulk d := by
  cases d with
  | lit l => cases l <;> simp [Rows.uptoBulk]
  | nil => simp [Rows.uptoBulk]
  | ptr d => simp [Rows.uptoBulk]
  | slice elems spare => simp [Rows.uptoBulk]
  | agg parts => simp [Rows.uptoBulk]
  | iface t d => simp [Rows.uptoBulk]
  | map entries => simp [Rows.uptoBulk]
  | held h => simp [Rows.uptoBulk]

theorem count {H : Type} (l : List (DataW H)) : l.length ≤ Rows.uptoBulkAll l := by
  induction l with
  | nil => simp [Rows.uptoBulkAll]
  | cons x r ih => have := one x; simp only [Rows.uptoBulkAll, List.length_cons]; omega

theorem room {H : Type} {d : DataW H} {cap : Nat} (h : Room d cap) : cap ≤ Rows.uptoBulk d := by
  rcases h with ⟨rfl, rfl⟩ | ⟨e, s, rfl, rfl⟩
  · simp
  · have := count e
    have := count s
    simp only [Rows.uptoBulk]
    omega

theorem most {H : Type} {l : List (DataW H)} (hk : Rows.uptoSmall H l = true) : Rows.uptoBulkAll l ≤ 1048576 := by
  simpa [Rows.uptoSmall] using hk
end Go.Proofs.Ytikclgliegfocaa.bulks
