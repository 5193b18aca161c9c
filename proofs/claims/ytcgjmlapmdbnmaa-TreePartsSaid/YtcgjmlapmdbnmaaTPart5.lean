/- Contracts of functions of the program, proved in a small separation logic. Conditions: those that each theorem states. -/
import Derived.Test.YtcgjmlapmdbnmaaTPart4
import Derived.Test.YtcgjmlapmdbnmaaLawTreeSums
namespace Go.Proofs.Ytcgjmlapmdbnmaa
open Go Go.Sl
set_option maxHeartbeats 4000000
set_option maxRecDepth 100000
set_option linter.unusedVariables false
theorem TV.mono {T : List TN} {a b : Int} (h : TV T a) (hab : a ≤ b) : TV T b := by
  refine ⟨h.len, h.root, h.kinds, fun i hi => ?_, h.cnt⟩
  have hn := h.node i hi
  unfold nodeB at hn ⊢
  simp only [Bool.and_eq_true] at hn ⊢
  have h1 := of_decide_eq_true hn.2.1
  exact ⟨hn.1, decide_eq_true ⟨h1.1, by omega⟩, hn.2.2⟩
/-- The part of a kid comes to what the kid comes to. -/
theorem part_val {T O : List TN} {P : List Int} {labels c : Int} (hT : TV T labels) (hc : 1 ≤ c ∧ c < T.length) (h : PartI T c P O P.length 0) : rightB O labels = true ∧ valT O O.length 0 = valT T (T.length - 1) c := by
  obtain ⟨hcp, hr⟩ := h.done hT rfl
  refine ⟨hr, ?_⟩
  have hs := h.short
  have hlen := h.len
  have hOl := rightB_len hr
  have hTn : ∀ i : Nat, i < T.length → ((rd T i).kind = 4 → (rd T i).kids.length = 2) ∧ ∀ k : Nat, k < (rd T i).kids.length → (i : Int) < rd (rd T i).kids k ∧ rd (rd T i).kids k < T.length := fun i hi =>
    ⟨fun e => by have := hT.kinds i hi; omega, (nodeB_F (hT.node i hi)).kids⟩
  have hOn : ∀ i : Nat, i < O.length → ((rd O i).kind = 4 → (rd O i).kids.length = 2) ∧ ∀ k : Nat, k < (rd O i).kids.length → (i : Int) < rd (rd O i).kids k ∧ rd (rd O i).kids k < O.length := fun i hi =>
    ⟨fun e => absurd e (hcp.kind i (by omega)).2.2, (nodeB_F (rightB_node hr ⟨by omega, by omega⟩)).kids⟩
  have e1 := valT_fuel hOn O.length T.length 0 (by omega) (by omega) (by omega)
  have e2 := cpy_val hcp T.length 0 (by omega)
  obtain ⟨j, rfl⟩ : ∃ j : Nat, c = (j : Int) := ⟨c.toNat, by omega⟩
  have e3 := valT_fuel hTn T.length (T.length - 1) j (by omega) (by omega) (by omega)
  rw [show ((0 : Nat) : Int) = 0 from rfl] at e1 e2
  rw [h.first] at e2
  rw [e1, e2, e3]
/-- A sum comes to what its kids come to together. -/
theorem root_val {T : List TN} {labels : Int} (hT : TV T labels) : valT T T.length 0 = wantS 2 ((rd T 0).kids.map fun c => valT T (T.length - 1) c) := by
  obtain ⟨m, hm⟩ : ∃ m, T.length = m + 1 := ⟨T.length - 1, by have := hT.len; omega⟩
  rw [hm, Nat.add_sub_cancel]
  conv => lhs; unfold valT
  rw [hT.root, if_neg (by omega), if_neg (by omega)]
  unfold wantS
  rw [List.foldl_map]
def TR (lab : Int) (w : List Int) : List TN := ⟨2, 0, lab, kidsN w.length⟩ :: w.map fun x => ⟨1, x, 0, []⟩
theorem tr_dec : ∀ n : Fin 9, ∀ b : Fin 16, rightB (⟨2, 0, ((b : Nat) : Int), kidsN n⟩ :: List.replicate n ⟨1, 0, 0, []⟩) 16 = true := by decide +kernel
theorem tr_right {lab : Int} (hb : 0 ≤ lab ∧ lab < 16) {w : List Int} (hw : w.length ≤ 8) : rightB (TR lab w) 16 = true := by
  have h := tr_dec ⟨w.length, by omega⟩ ⟨lab.toNat, by omega⟩
  rw [← right_strip]
  have e : (TR lab w).map TN.strip = ⟨2, 0, ((lab.toNat : Nat) : Int), kidsN w.length⟩ :: List.replicate w.length ⟨1, 0, 0, []⟩ := by
    rw [show ((lab.toNat : Nat) : Int) = lab by omega]
    unfold TR
    rw [List.map_cons, List.map_map, ← List.map_const']
    rfl
  rw [e]
  exact h
theorem valT_lab {T U : List TN} (h : ∀ i : Int, (rd T i).kind = (rd U i).kind ∧ (rd T i).value = (rd U i).value ∧ (rd T i).kids = (rd U i).kids) : ∀ (f : Nat) (i : Int), valT T f i = valT U f i
  | 0, _ => rfl
  | f + 1, i => by
    obtain ⟨h1, h2, h3⟩ := h i
    unfold valT
    rw [h1, h2, h3]
    simp only [valT_lab h f]
theorem tr_val (lab : Int) (w : List Int) : valT (TR lab w) (TR lab w).length 0 = wantS 2 w := by
  rw [← ts_val (.inl rfl) w]
  have hl : (TR lab w).length = (TS 2 w).length := by simp [TR, TS]
  rw [hl]
  refine valT_lab (fun i => ?_) _ _
  unfold TR TS rd
  rw [List.getD_eq_getElem?_getD, List.getD_eq_getElem?_getD]
  cases i.toNat with
  | zero => exact ⟨rfl, rfl, rfl⟩
  | succ n => exact ⟨rfl, rfl, rfl⟩
end Go.Proofs.Ytcgjmlapmdbnmaa

