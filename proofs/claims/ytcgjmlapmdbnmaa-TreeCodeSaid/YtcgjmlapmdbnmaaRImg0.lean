/- Contracts of functions of the program, proved in a small separation logic. Conditions: those that each theorem states. -/
import Derived.Test.YtcgjmlapmdbnmaaTy
namespace Go.Proofs.Ytcgjmlapmdbnmaa
open Go Go.Sl
set_option maxHeartbeats 4000000
set_option maxRecDepth 100000
set_option linter.unusedVariables false
abbrev iV (x : S_api_Instr) : Value := .agg #[.int .i64 x.f_Op, .int .i32 x.f_Arg]
abbrev i32B (n : Int) : Prop := -2147483648 ≤ n ∧ n ≤ 2147483647
/-! instructions: what they take and leave (plain), and the reference's functions -/
def argT (op : Int) : Int := if op = 1 ∨ op = 26 then 1 else if op = 10 ∨ op = 11 then 2 else if op = 12 ∨ op = 13 then 3 else if op = 15 ∨ op = 16 ∨ op = 17 ∨ op = 22 then 4 else if op = 20 then 5 else if op = 23 ∨ op = 24 then 6 else 0
def popsT (op : Int) : Int := if op = 2 ∨ op = 3 ∨ op = 11 ∨ op = 13 ∨ op = 16 ∨ op = 17 ∨ op = 18 ∨ op = 21 ∨ op = 22 ∨ op = 23 ∨ op = 25 then 1 else if op = 4 ∨ op = 5 ∨ op = 6 ∨ op = 7 ∨ op = 8 ∨ op = 9 ∨ op = 19 ∨ op = 20 then 2 else 0
def pushT (op : Int) : Int := if op = 1 ∨ op = 4 ∨ op = 5 ∨ op = 6 ∨ op = 7 ∨ op = 8 ∨ op = 9 ∨ op = 12 ∨ op = 14 ∨ op = 16 ∨ op = 17 ∨ op = 18 ∨ op = 20 ∨ op = 21 ∨ op = 23 then 1 else if op = 3 ∨ op = 24 then 2 else 0
def endsT (op : Int) : Bool := decide (op = 25) || decide (op = 26)
def knownT (op : Int) : Bool := decide (1 ≤ op) && decide (op ≤ 26)
theorem op_cases {op : Int} : (op < 1 ∨ 26 < op) ∨ ∃ k : Fin 26, op = ((k.1 : Nat) : Int) + 1 := by
  by_cases h : 1 ≤ op ∧ op ≤ 26
  · exact .inr ⟨⟨(op - 1).toNat, by omega⟩, by dsimp only; omega⟩
  · exact .inl (by omega)
theorem argT_le (op : Int) : 0 ≤ argT op ∧ argT op ≤ 6 := by unfold argT; repeat' split <;> omega
theorem popsT_le (op : Int) : 0 ≤ popsT op ∧ popsT op ≤ 2 := by unfold popsT; repeat' split <;> omega
theorem pushT_le (op : Int) : 0 ≤ pushT op ∧ pushT op ≤ 2 := by unfold pushT; repeat' split <;> omega
-- FN confidant/confidantref5.Known
theorem ref5_Known (op : Int) : Sp Try.prog 138 [.int .i64 op] [] (fun _ : Unit => True) (fun _ => .bool (knownT op)) (fun _ => []) := by
  refine Sp.intro (n := 9) Try.func138 rfl rfl fun w0 R => ?_
  dsimp only [List.cons_append, List.nil_append, envOf]
  unfold knownT
  refine go ?_
  by_cases g : 1 ≤ op
  · rw [decide_eq_true g]
    refine go ?_
    refine Dn.ret1 rfl rfl fun w' hs => ⟨(), rfl, trivial, hs.conv (by exact ent_)⟩
  · rw [decide_eq_false g]
    refine go ?_
    refine Dn.ret1 rfl rfl fun w' hs => ⟨(), rfl, trivial, hs.conv (by exact ent_)⟩
-- FN confidant/confidantref5.Ends
theorem ref5_Ends (op : Int) : Sp Try.prog 125 [.int .i64 op] [] (fun _ : Unit => True) (fun _ => .bool (endsT op)) (fun _ => []) := by
  refine Sp.intro (n := 9) Try.func125 rfl rfl fun w0 R => ?_
  dsimp only [List.cons_append, List.nil_append, envOf]
  unfold endsT
  refine go ?_
  by_cases g : op = 25
  · rw [decide_eq_true g]
    refine go ?_
    refine Dn.ret1 rfl rfl fun w' hs => ⟨(), rfl, trivial, hs.conv (by exact ent_)⟩
  · rw [decide_eq_false g]
    refine go ?_
    refine Dn.ret1 rfl rfl fun w' hs => ⟨(), rfl, trivial, hs.conv (by exact ent_)⟩
-- FN confidant/confidantref5.Arg
theorem ref5_Arg (op : Int) : Sp Try.prog 121 [.int .i64 op] [] (fun _ : Unit => True) (fun _ => .int .i64 (argT op)) (fun _ => []) := by
  refine Sp.intro (n := 23) Try.func121 rfl rfl fun w0 R => ?_
  dsimp only [List.cons_append, List.nil_append, envOf]
  refine go ?_
  repeat' (refine Cd.condP rfl (fun h => ?_) (fun h => ?_) <;> refine go ?_)
  all_goals refine Dn.ret1 rfl rfl fun w' hs => ⟨(), congrArg (Value.int .i64) (by unfold argT; (repeat' split) <;> omega), trivial, hs.conv (by exact ent_)⟩
-- FN confidant/confidantref5.Pops
theorem ref5_Pops (op : Int) : Sp Try.prog 123 [.int .i64 op] [] (fun _ : Unit => True) (fun _ => .int .i64 (popsT op)) (fun _ => []) := by
  refine Sp.intro (n := 25) Try.func123 rfl rfl fun w0 R => ?_
  dsimp only [List.cons_append, List.nil_append, envOf]
  refine go ?_
  repeat' (refine Cd.condP rfl (fun h => ?_) (fun h => ?_) <;> refine go ?_)
  all_goals refine Dn.ret1 rfl rfl fun w' hs => ⟨(), congrArg (Value.int .i64) (by unfold popsT; (repeat' split) <;> omega), trivial, hs.conv (by exact ent_)⟩
-- FN confidant/confidantref5.Pushes
theorem ref5_Pushes (op : Int) : Sp Try.prog 124 [.int .i64 op] [] (fun _ : Unit => True) (fun _ => .int .i64 (pushT op)) (fun _ => []) := by
  refine Sp.intro (n := 23) Try.func124 rfl rfl fun w0 R => ?_
  dsimp only [List.cons_append, List.nil_append, envOf]
  refine go ?_
  repeat' (refine Cd.condP rfl (fun h => ?_) (fun h => ?_) <;> refine go ?_)
  all_goals refine Dn.ret1 rfl rfl fun w' hs => ⟨(), congrArg (Value.int .i64) (by unfold pushT; (repeat' split) <;> omega), trivial, hs.conv (by exact ent_)⟩
end Go.Proofs.Ytcgjmlapmdbnmaa

