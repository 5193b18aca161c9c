/- The pure side of OrderSquares: Square takes just square tables of 1 to 16 rows, and a table that is none has none of the three properties. Conditions: none beside the statement's own. -/
import Derived.Test.YtpeeneaapmmciaaVOrderSquares
namespace Go.Proofs.Ytpeeneaapmmciaa.Pure
open Go.RowKit Go.Proofs.Ytpeeneaapmmciaa.POsq Go.Proofs.YtpeeneaapmmciaaW.PrintWords Go.Proofs.YtpeeneaapmmciaaW.PrintLast Go.Proofs.YtpeeneaapmmciaaW.PrintMore

theorem sqB_rows (l : List Int) (hl : ∀ x ∈ l, 0 ≤ x ∧ x < 256) : sqB (rowsQ l l.length) = rowsOk l l.length := by
  unfold sqB rowsOk rowsQ
  rw [List.take_length, List.length_map, Bool.and_assoc]
  congr 2
  rw [List.all_map, Bool.eq_iff_iff, List.all_eq_true, List.all_eq_true]
  constructor
  · intro H x hx
    have := H x hx
    simp only [Function.comp, List.length_replicate, decide_eq_true_eq] at this
    have h0 := hl x hx
    rw [beq_iff_eq]
    have hd : POsq.rowLen l x = (l.length : Int) + x % 8 / 7 := rfl
    omega
  · intro H x hx
    have := H x hx
    rw [beq_iff_eq] at this
    simp only [Function.comp, List.length_replicate, decide_eq_true_eq]
    omega

theorem sqB_rep (m : Int) (h0 : 0 ≤ m) : sqB (List.replicate m.toNat (List.replicate m.toNat false)) = (decide (1 ≤ m) && decide (m ≤ 16)) := by
  unfold sqB
  rw [List.length_replicate]
  have : (List.replicate m.toNat (List.replicate m.toNat false)).all (fun r => decide (r.length = m.toNat)) = true := by
    rw [List.all_eq_true]
    intro r hr
    rw [List.eq_of_mem_replicate hr, List.length_replicate]; simp
  rw [this, Bool.and_true, Bool.eq_iff_iff]
  simp
  omega

theorem OrderSquares : confidantlaw2_OrderSquares.Pure := by
  refine ⟨by decide +kernel, fun l a hl hw h0 h1 => ?_⟩
  have hq : (rowsQ l l.length).length ≤ 20 := Nat.le_trans (rowsQ_len l l.length) hl
  refine ⟨?_, ?_, ?_⟩
  · rw [sq_eq _ (by omega) 300 (by omega), sqB_rows l hw]
  · have hm : (List.replicate (a % 20).toNat (List.replicate (a % 20).toNat false)).length ≤ 20 := by rw [List.length_replicate]; omega
    rw [sq_eq _ (by omega) 300 (by omega), sqB_rep _ (by omega)]
  · intro hf
    have hs : sqB (rowsQ l l.length) = false := by rw [sqB_rows l hw, hf]
    unfold order_Transitive.f order_Reflexive.f order_Antisymmetric.f
    rw [if_pos (by omega), if_pos (by omega), if_pos (by omega), hs]
    exact ⟨rfl, rfl, rfl⟩

end Go.Proofs.Ytpeeneaapmmciaa.Pure
