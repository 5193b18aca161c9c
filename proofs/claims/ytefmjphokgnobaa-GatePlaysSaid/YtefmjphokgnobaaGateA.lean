/- Contracts of functions of the program, proved in a small separation logic. Conditions: those that each theorem states. -/
import Derived.Test.YtefmjphokgnobaaTy
namespace Go.Proofs.Ytefmjphokgnobaa
open Go Go.Sl
set_option maxHeartbeats 4000000
set_option maxRecDepth 100000
set_option linter.unusedVariables false
-- FN (*confidant/gate.Gates).has
theorem gate_has (g : Nat) (fl gs wv ov am sm : Value) (gates : List S_api_Gate) (n : Int) :
    Sp Try.prog 44 [.pointer (some ⟨g, 0, none⟩), .int .i64 n] [cel g 82 [fl, gs, wv, ov, am, sm], sl e_api_Gate gs gates]
      (fun _ : Unit => True) (fun _ => .bool (decide (0 ≤ n ∧ n < (gates.length : Int)))) (fun _ => [cel g 82 [fl, gs, wv, ov, am, sm], sl e_api_Gate gs gates]) := by
  refine Sp.intro (n := 16) Try.func44 rfl rfl fun w0 R => ?_
  dsimp only [List.cons_append, List.nil_append, envOf]
  refine go ?_
  by_cases h0 : 0 ≤ n
  · rw [decide_eq_true h0]
    refine go ?_
    refine Dn.ret1 rfl rfl fun w hs => ⟨(), ?_, trivial, hs⟩
    simp [h0]
  · rw [decide_eq_false h0]
    refine go ?_
    refine Dn.ret1 rfl rfl fun w hs => ⟨(), ?_, trivial, hs⟩
    simp [h0]
-- FN (*confidant/gate.Gates).To
theorem gate_To (g : Nat) (fl gs wv ov am sm : Value) (gates : List S_api_Gate) (n : Int) :
    Sp Try.prog 20 [.pointer (some ⟨g, 0, none⟩), .int .i64 n] [cel g 82 [fl, gs, wv, ov, am, sm], sl e_api_Gate gs gates]
      (fun _ : Unit => True) (fun _ => if 0 ≤ n ∧ n < (gates.length : Int) then .tuple #[.int .i64 (rd gates n).f_To, .bool true] else .tuple #[.int .i64 0, .bool false]) (fun _ => [cel g 82 [fl, gs, wv, ov, am, sm], sl e_api_Gate gs gates]) := by
  refine Sp.intro (n := 18) Try.func20 rfl rfl fun w0 R => ?_
  dsimp only [List.cons_append, List.nil_append, envOf]
  refine go ?_
  refine Ol.eff rfl rfl rfl (Eff.call (R := ?_) (gate_has g fl gs wv ov am sm gates n) rfl ?_ ?_)
  rotate_left
  · exact tkl_
  rintro _ -
  dsimp only [List.cons_append, List.nil_append]
  by_cases h0 : 0 ≤ n ∧ n < (gates.length : Int)
  · rw [decide_eq_true h0]
    refine go ?_
    refine Dn.ret2 rfl rfl rfl fun w hs => ⟨(), ?_, trivial, hs⟩
    simp [h0]
  · rw [decide_eq_false h0]
    refine go ?_
    refine Dn.ret2 rfl rfl rfl fun w hs => ⟨(), ?_, trivial, hs⟩
    simp [h0]
end Go.Proofs.Ytefmjphokgnobaa

