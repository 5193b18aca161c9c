/- Contracts of functions of the program, proved in a small separation logic. Conditions: those that each theorem states. -/
import Derived.Test.YtcgjmlapmdbnmaaTy
namespace Go.Proofs.Ytcgjmlapmdbnmaa
open Go Go.Sl
set_option maxHeartbeats 4000000
set_option maxRecDepth 100000
set_option linter.unusedVariables false
theorem zip_set_far {α β : Type} (l : List α) (q : List β) (i : Nat) (x : α) (h : ¬ i < q.length) : (l.set i x).zip q = l.zip q := by
  induction l generalizing q i with
  | nil => simp
  | cons a l ih =>
    cases q with
    | nil => simp
    | cons b q =>
      cases i with
      | zero => simp at h
      | succ i => simp [ih q i (by simpa using h)]
theorem rel2H_set {α β : Type} [Dfl β] {R : α → β → HProp} {l : List α} {q : List β} {i : Nat} {x : α} : rel2H R i (l.set i x) q = rel2H R i l q := by
  unfold rel2H
  congr 1
  · funext _; simp
  · by_cases h : i < q.length
    · have e : q.set i (rd q i) = q := by rw [rd_eq (by simpa using h)]; exact List.set_getElem_self _
      have := zip_set l q i x (rd q i)
      rw [e] at this
      rw [this, List.map_set, List.eraseIdx_set_eq]
    · rw [zip_set_far l q i x h]
theorem rel2_setw {α β : Type} [Dfl α] [Dfl β] {R : α → β → HProp} {l : List α} {q : List β} {i : Int} {x : α} {y : β} (h : 0 ≤ i ∧ i < q.length) (hl : l.length = q.length) : went (star (R x y) (rel2 R l q)) (rel2 R (l.set i.toNat x) (q.set i.toNat y)) := by
  refine went.trans (went.star (went.refl _) ((went.of (rel2_take h.1 h.2)).trans (went.right _ _))) ?_
  rw [← rel2H_set (x := x)]
  have e : rd (l.set i.toNat x) i = x := by rw [rd_eq (by simp; omega)]; simp
  have := rel2_put (R := R) (l := l.set i.toNat x) (q := q) (i := i) (y := y) h.1
  rw [e] at this; exact went.of this
/-- Another pair in its place. -/
theorem ents.rel2set {α β : Type} [Dfl α] [Dfl β] {R : α → β → HProp} {l : List α} {q : List β} {i : Int} {x : α} {y : β} {H H1 H2 L : List HProp} (h : 0 ≤ i ∧ i < q.length) (hl : l.length = q.length) (t : Tk H (R x y) H1) (t2 : Tk H1 (rel2 R l q) H2) (k : ents H2 L) : ents H (rel2 R (l.set i.toNat x) (q.set i.toNat y) :: L) :=
  went.trans t (went.trans (went.star (went.refl _) t2) (went.trans (went.of (star_assoc' _ _ _)) (went.star (rel2_setw h hl) k)))
end Go.Proofs.Ytcgjmlapmdbnmaa

