/-
  What the second form's bound gives for a slice that came in: lemmas; nothing is claimed here.
-/
import Derived.Test.YticdeknmeafjcaaRows
import Derived.Test.YticdeknmeafjcaaDecS
namespace Go.Proofs.Yticdeknmeafjcaa.bulks
open Go.Dec
set_option linter.unusedVariables false

theorem one {H : Type} (d : DataW H) : 1 ≤ Rows.uptoBulk d := by
  cases d with
  | lit l => cases l <;> simp [Rows.uptoBulk]
  | nil => simp [Rows.uptoBulk]
  | ptr d => simp [Rows.uptoBulk]
  | slice elems spare => simp [Rows.uptoBulk]
  | agg parts => simp [Rows.uptoBulk]
  | iface t d => simp [Rows.uptoBulk]
  | map entries => simp [Rows.uptoBulk]
  | held h => simp [Rows.uptoBulk]

theorem count {H : Type} (l : List (DataW H)) : l.length ≤ Rows.uptoBulkAll l := by
  induction l with
  | nil => simp [Rows.uptoBulkAll]
  | cons x r ih => have := one x; simp only [Rows.uptoBulkAll, List.length_cons]; omega

theorem room {H : Type} {d : DataW H} {cap : Nat} (h : Room d cap) : cap ≤ Rows.uptoBulk d := by
  rcases h with ⟨rfl, rfl⟩ | ⟨e, s, rfl, rfl⟩
  · simp
  · have := count e
    have := count s
    simp only [Rows.uptoBulk]
    omega

theorem most {H : Type} {l : List (DataW H)} (hk : Rows.uptoSmall H l = true) : Rows.uptoBulkAll l ≤ 1048576 := by
  simpa [Rows.uptoSmall] using hk
theorem one_le {H : Type} : ∀ {l : List (DataW H)} {j : Nat} {d : DataW H}, l[j]? = some d → Rows.uptoBulk d ≤ Rows.uptoBulkAll l
  | [], j, d, h => by simp at h
  | x :: r, 0, d, h => by
    simp only [List.getElem?_cons_zero, Option.some.injEq] at h
    subst h
    simp only [Rows.uptoBulkAll]; omega
  | x :: r, j + 1, d, h => by
    have := one_le (l := r) (j := j) (d := d) (by simpa using h)
    simp only [Rows.uptoBulkAll]; omega
theorem sizes {H : Type} {P : Program} : Sizes (H := H) P (fun b c => c ≤ 1048576) (fun _ d => Rows.uptoBulk d ≤ 1048576) where
  sl := fun t e el sp hu h => by
    have := count el
    have := count sp
    simp only [Rows.uptoBulk] at h
    refine ⟨by omega, fun d hd => ?_⟩
    obtain ⟨j, hj⟩ := List.getElem?_of_mem hd
    have := one_le hj
    omega
  zero := fun b => by omega
  st := fun t fs ds hu h i f d hf hd => by
    simp only [Rows.uptoBulk] at h
    have := one_le hd
    omega
theorem sizes_at {H : Type} {ds gs : List (DataW H)} (hk : Rows.uptoSmall H (ds ++ gs) = true) {j : Nat} {d : DataW H} (hd : ds[j]? = some d) : Rows.uptoBulk d ≤ 1048576 := by
  have h1 := most hk
  have h2 := one_le (l := ds ++ gs) (j := j) (d := d) (by rw [List.getElem?_append_left (List.getElem?_eq_some_iff.1 hd).1]; exact hd)
  omega
end Go.Proofs.Yticdeknmeafjcaa.bulks
