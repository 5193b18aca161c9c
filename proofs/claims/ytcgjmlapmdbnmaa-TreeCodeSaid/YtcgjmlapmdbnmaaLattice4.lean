/- Contracts of functions of the program, proved in a small separation logic. Conditions: those that each theorem states. -/
import Derived.Test.YtcgjmlapmdbnmaaLattice3
namespace Go.Proofs.Ytcgjmlapmdbnmaa
open Go Go.Sl
set_option maxHeartbeats 4000000
set_option maxRecDepth 100000
set_option linter.unusedVariables false
def leI (a b : Int) : Bool := decide (a ≤ b)
-- FN confidant/lattice.Chain
theorem lattice_Chain (n : Nat) (h : 1 ≤ n ∧ n ≤ 16) :
    Sp Try.prog 42 [.int .i64 n] [] (fun _ : Value × List Value => True) (fun x => x.1) (fun x => [sl eVal x.1 x.2, rws false eBool x.2 (tabT n n leI)]) := by
  have hF : FnV (P := Try.prog) (.func (.func 81) #[] #[]) (stars []) pairV3 (fun _ => True) (fun p => .bool (leI p.1 p.2)) := by
    refine ⟨_, _, _, rfl, inferInstance, fun p _ w0 w R hs => ?_⟩
    refine (lattice_Chain1 p.1 p.2 w0 w R (hs.conv (show ents (stars [] :: R) R from by exact ent_))).mono fun e w' h => ?_
    obtain ⟨v, rfl, x, rfl, _, h5⟩ := h
    exact ⟨_, rfl, (), rfl, trivial, h5.conv (show ents R (stars [] :: R) from by exact ent_)⟩
  refine Sp.intro (n := 11) Try.func42 rfl rfl fun w0 R => ?_
  dsimp only [List.cons_append, List.nil_append, envOf]
  refine go ?_
  have e1 : decide ((n : Int) < 1) = false := decide_eq_false (by omega)
  have e2 : decide (16 < (n : Int)) = false := decide_eq_false (by omega)
  rw [e1]
  refine go ?_
  rw [e2]
  refine go ?_
  with_reducible refine Ol.g ?_
  refine Ol.eff rfl rfl rfl (Eff.call (R := ?_) (lattice_table n (by omega) _ (stars []) leI hF) rfl ?_ ?_)
  rotate_left
  · exact tkl_
  rintro ⟨v, rows⟩ -
  dsimp only [List.cons_append, List.nil_append]
  refine go ?_
  refine Dn.ret1 rfl rfl fun w hs => ⟨(v, rows), rfl, trivial, hs.conv (show ents _ (sl eVal v rows :: rws false eBool rows (tabT n n leI) :: R) from by exact ent_)⟩
end Go.Proofs.Ytcgjmlapmdbnmaa

