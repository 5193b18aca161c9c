/- Contracts of functions of the program, proved in a small separation logic. Conditions: those that each theorem states. -/
import Derived.Test.YtefmjphokgnobaaGateA
namespace Go.Proofs.Ytefmjphokgnobaa
open Go Go.Sl
set_option maxHeartbeats 4000000
set_option maxRecDepth 100000
set_option linter.unusedVariables false
-- FN confidant/priv.Right
theorem priv_Right (x : Int) (hx : u32 x) :
    Sp Try.prog 49 [.int .u32 x] [] (fun _ : Unit => True) (fun _ => .bool (decide (x < 65536))) (fun _ => []) := by
  refine Sp.intro (n := 6) Try.func49 rfl rfl fun w0 R => ?_
  dsimp only [List.cons_append, List.nil_append, envOf]
  refine go ?_
  refine Dn.ret1 rfl rfl fun w hs => ⟨(), ?_, by trivial, by first | exact hs | (refine hs.conv ?_; exact ent_)⟩
  rw [shr16 hx]
-- FN confidant/confidantref2.Privs
theorem ref2_Privs (x : Int) :
    Sp Try.prog 50 [.int .u32 x] [] (fun _ : Unit => True) (fun _ => .bool (decide (x < 65536))) (fun _ => []) := by
  refine Sp.intro (n := 5) Try.func50 rfl rfl fun w0 R => ?_
  dsimp only [List.cons_append, List.nil_append, envOf]
  refine go ?_
  refine Dn.ret1 rfl rfl fun w hs => ⟨(), ?_, by trivial, by first | exact hs | (refine hs.conv ?_; exact ent_)⟩
  rfl
def privHas (x y : Int) : Bool := decide (andI .u32 x y = y)
-- FN confidant/confidantref2.Has
theorem ref2_Has (x y : Int) :
    Sp Try.prog 47 [.int .u32 x, .int .u32 y] [] (fun _ : Unit => True) (fun _ => .bool (privHas x y)) (fun _ => []) := by
  refine Sp.intro (n := 10) Try.func47 rfl rfl fun w0 R => ?_
  dsimp only [List.cons_append, List.nil_append, envOf]
  refine go ?_
  refine Dn.ret1 rfl rfl fun w hs => ⟨(), ?_, by trivial, by first | exact hs | (refine hs.conv ?_; exact ent_)⟩
  rfl
-- FN confidant/priv.Has
theorem priv_Has (x y : Int) (hy : u32 y) :
    Sp Try.prog 45 [.int .u32 x, .int .u32 y] [] (fun _ : Unit => True) (fun _ => .bool (privHas x y)) (fun _ => []) := by
  refine Sp.intro (n := 9) Try.func45 rfl rfl fun w0 R => ?_
  dsimp only [List.cons_append, List.nil_append, envOf]
  refine go ?_
  refine Dn.ret1 rfl rfl fun w hs => ⟨(), ?_, by trivial, by first | exact hs | (refine hs.conv ?_; exact ent_)⟩
  exact congrArg _ (andN_and hy)
-- FN confidant/lattice.Chain$1
theorem lattice_Chain1 (x y : Int) :
    Sp Try.prog 55 [.int .i64 x, .int .i64 y] [] (fun _ : Unit => True) (fun _ => .bool (decide (x ≤ y))) (fun _ => []) := by
  refine Sp.intro (n := 8) Try.func55 rfl rfl fun w0 R => ?_
  dsimp only [List.cons_append, List.nil_append, envOf]
  refine go ?_
  refine Dn.ret1 rfl rfl fun w hs => ⟨(), ?_, by trivial, by first | exact hs | (refine hs.conv ?_; exact ent_)⟩
  rfl
def inN (x n : Int) : Bool := decide (0 ≤ x ∧ x < n)
-- FN confidant/gate.Right$1
theorem gate_Right1 (x n : Int) (c : Nat) :
    Sp Try.prog 48 [.int .i64 x, .pointer (some ⟨c, 0, none⟩)] [cel c 3 [.int .i64 n]] (fun _ : Unit => True) (fun _ => .bool (inN x n)) (fun _ => [cel c 3 [.int .i64 n]]) := by
  refine Sp.intro (n := 11) Try.func48 rfl rfl fun w0 R => ?_
  dsimp only [List.cons_append, List.nil_append, envOf]
  refine go ?_
  by_cases h0 : 0 ≤ x
  · rw [decide_eq_true h0]
    refine go ?_
    refine Dn.ret1 rfl rfl fun w hs => ⟨(), ?_, trivial, hs⟩
    simp [inN, h0]
  · rw [decide_eq_false h0]
    refine go ?_
    refine Dn.ret1 rfl rfl fun w hs => ⟨(), ?_, trivial, hs⟩
    simp [inN, h0]
/-- A gate that may be. -/
def gateOk (g : S_api_Gate) (n : Int) : Bool := inN g.f_From n && (inN g.f_To n && (decide (g.f_Need < 65536) && (decide (0 ≤ g.f_Quota) && decide (g.f_Quota ≤ 4096))))
-- FN confidant/gate.Right
theorem gate_Right (g : S_api_Gate) (n : Int) (hg : u32 g.f_Need) :
    Sp Try.prog 24 [.agg #[.int .i64 g.f_From, .int .i64 g.f_To, .int .u32 g.f_Need, .int .i64 g.f_Quota], .int .i64 n] [] (fun _ : Unit => True) (fun _ => .bool (gateOk g n)) (fun _ => []) := by
  refine Sp.intro (n := 32) Try.func24 rfl rfl fun w0 R => ?_
  dsimp only [List.cons_append, List.nil_append, envOf]
  repeat(first|(with_reducible refine Ol.g ?_;first|(refine Ol.q rfl rfl rfl ?_ ?_;(first|exact True.intro|omega|(unfold in64;omega)|(simp only [List.length_append,List.length_cons,List.length_nil,List.length_set];omega)))|with_reducible refine Ol.nil ?_|refine Ol.skip rfl rfl ?_|refine Ol.eff rfl rfl rfl (Eff.x (Qx.build rfl) ?_)|refine Ol.skip0 rfl ?_|(refine Ol.ga ?_;dsimp only [List.append])|refine Ol.eff rfl rfl rfl (Eff.alloc fun _ => ?_)|refine Ol.eff rfl rfl rfl (Eff.box fun _ => ?_)|refine Ol.eff0 rfl rfl (Eff.store rfl rfl ?_)|refine Ol.eff rfl rfl rfl (Eff.bslice rfl rfl fun _ => ?_)|(refine Ol.eff0 rfl rfl (Eff.storeE rfl ?_ ?_);(first|exact True.intro|omega|(unfold in64;omega)|(simp only [List.length_append,List.length_cons,List.length_nil,List.length_set];omega)))|(refine Ol.eff rfl rfl rfl (Eff.append1 rfl ?_ fun _ => ?_);(first|exact True.intro|omega|(unfold in64;omega)|(simp only [List.length_append,List.length_cons,List.length_nil,List.length_set];omega))))|(with_reducible refine Cd.g ?_;first|with_reducible refine Cd.seq ?_|with_reducible refine Cd.region ?_|with_reducible refine Cd.skip ?_|with_reducible refine Cd.ret ?_|with_reducible refine Cd.block ?_|with_reducible refine Cd.exit ?_|(with_reducible refine Cd.condg ?_;first|refine Cd.cond_t rfl ?_|refine Cd.cond_f rfl ?_))|(with_reducible refine Dn.g ?_;first|with_reducible refine Dn.then ?_|with_reducible refine Dn.ret_then ?_|with_reducible refine Dn.ret_block ?_|with_reducible refine Dn.block ?_|with_reducible refine Dn.exit_then ?_|with_reducible refine Dn.exit_at ?_|with_reducible refine Dn.exit_by rfl ?_))
  rename_i b c
  refine Ol.eff rfl rfl rfl (Eff.call (R := ?_) (gate_Right1 g.f_From n c) rfl ?_ ?_)
  rotate_left
  · exact tkl_
  rintro _ -
  dsimp only [List.cons_append, List.nil_append]
  cases h1 : inN g.f_From n with
  | false =>
    refine go ?_
    refine Dn.ret1 rfl rfl fun w hs => ⟨(), ?_, by trivial, by first | exact hs | (refine hs.conv ?_; exact ent_)⟩
    simp [gateOk, h1]
  | true =>
  refine go ?_
  refine Ol.eff rfl rfl rfl (Eff.call (R := ?_) (gate_Right1 g.f_To n c) rfl ?_ ?_)
  rotate_left
  · exact tkl_
  rintro _ -
  dsimp only [List.cons_append, List.nil_append]
  cases h2 : inN g.f_To n with
  | false =>
    refine go ?_
    refine Dn.ret1 rfl rfl fun w hs => ⟨(), ?_, by trivial, by first | exact hs | (refine hs.conv ?_; exact ent_)⟩
    simp [gateOk, h1, h2]
  | true =>
  refine go ?_
  refine Ol.eff rfl rfl rfl (Eff.call (R := ?_) (priv_Right g.f_Need hg) rfl ?_ ?_)
  rotate_left
  · exact tkl_
  rintro _ -
  dsimp only [List.cons_append, List.nil_append]
  cases h3 : decide (g.f_Need < 65536) with
  | false =>
    refine go ?_
    refine Dn.ret1 rfl rfl fun w hs => ⟨(), ?_, by trivial, by first | exact hs | (refine hs.conv ?_; exact ent_)⟩
    simp only [gateOk, h1, h2, h3]; rfl
  | true =>
  refine go ?_
  cases h4 : decide (0 ≤ g.f_Quota) with
  | false =>
    refine go ?_
    refine Dn.ret1 rfl rfl fun w hs => ⟨(), ?_, by trivial, by first | exact hs | (refine hs.conv ?_; exact ent_)⟩
    simp only [gateOk, h1, h2, h3, h4]; rfl
  | true =>
    refine go ?_
    refine Dn.ret1 rfl rfl fun w hs => ⟨(), ?_, by trivial, by first | exact hs | (refine hs.conv ?_; exact ent_)⟩
    simp only [gateOk, h1, h2, h3, h4]; rfl
-- FN confidant/confidantref21.Right
theorem ref21_Right (g : S_api_Gate) (n : Int) :
    Sp Try.prog 25 [.agg #[.int .i64 g.f_From, .int .i64 g.f_To, .int .u32 g.f_Need, .int .i64 g.f_Quota], .int .i64 n] [] (fun _ : Unit => True) (fun _ => .bool (gateOk g n)) (fun _ => []) := by
  refine Sp.intro (n := 40) Try.func25 rfl rfl fun w0 R => ?_
  dsimp only [List.cons_append, List.nil_append, envOf]
  repeat(first|(with_reducible refine Ol.g ?_;first|(refine Ol.q rfl rfl rfl ?_ ?_;(first|exact True.intro|omega|(unfold in64;omega)|(simp only [List.length_append,List.length_cons,List.length_nil,List.length_set];omega)))|with_reducible refine Ol.nil ?_|refine Ol.skip rfl rfl ?_|refine Ol.eff rfl rfl rfl (Eff.x (Qx.build rfl) ?_)|refine Ol.skip0 rfl ?_|(refine Ol.ga ?_;dsimp only [List.append])|refine Ol.eff rfl rfl rfl (Eff.alloc fun _ => ?_)|refine Ol.eff rfl rfl rfl (Eff.box fun _ => ?_)|refine Ol.eff0 rfl rfl (Eff.store rfl rfl ?_)|refine Ol.eff rfl rfl rfl (Eff.bslice rfl rfl fun _ => ?_)|(refine Ol.eff0 rfl rfl (Eff.storeE rfl ?_ ?_);(first|exact True.intro|omega|(unfold in64;omega)|(simp only [List.length_append,List.length_cons,List.length_nil,List.length_set];omega)))|(refine Ol.eff rfl rfl rfl (Eff.append1 rfl ?_ fun _ => ?_);(first|exact True.intro|omega|(unfold in64;omega)|(simp only [List.length_append,List.length_cons,List.length_nil,List.length_set];omega))))|(with_reducible refine Cd.g ?_;first|with_reducible refine Cd.seq ?_|with_reducible refine Cd.region ?_|with_reducible refine Cd.skip ?_|with_reducible refine Cd.ret ?_|with_reducible refine Cd.block ?_|with_reducible refine Cd.exit ?_|(with_reducible refine Cd.condg ?_;first|refine Cd.cond_t rfl ?_|refine Cd.cond_f rfl ?_))|(with_reducible refine Dn.g ?_;first|with_reducible refine Dn.then ?_|with_reducible refine Dn.ret_then ?_|with_reducible refine Dn.ret_block ?_|with_reducible refine Dn.block ?_|with_reducible refine Dn.exit_then ?_|with_reducible refine Dn.exit_at ?_|with_reducible refine Dn.exit_by rfl ?_))
  have e1 : inN g.f_From n = (decide (0 ≤ g.f_From) && decide (g.f_From < n)) := by simp [inN]
  have e2 : inN g.f_To n = (decide (0 ≤ g.f_To) && decide (g.f_To < n)) := by simp [inN]
  cases h1 : decide (0 ≤ g.f_From) with
  | false =>
    refine go ?_
    refine Dn.ret1 rfl rfl fun w hs => ⟨(), ?_, by trivial, by first | exact hs | (refine hs.conv ?_; exact ent_)⟩
    simp only [gateOk, e1, h1]; rfl
  | true =>
  refine go ?_
  cases h2 : decide (g.f_From < n) with
  | false =>
    refine go ?_
    refine Dn.ret1 rfl rfl fun w hs => ⟨(), ?_, by trivial, by first | exact hs | (refine hs.conv ?_; exact ent_)⟩
    simp only [gateOk, e1, h1, h2]; rfl
  | true =>
  refine go ?_
  cases h3 : decide (0 ≤ g.f_To) with
  | false =>
    refine go ?_
    refine Dn.ret1 rfl rfl fun w hs => ⟨(), ?_, by trivial, by first | exact hs | (refine hs.conv ?_; exact ent_)⟩
    simp only [gateOk, e1, e2, h1, h2, h3]; rfl
  | true =>
  refine go ?_
  cases h4 : decide (g.f_To < n) with
  | false =>
    refine go ?_
    refine Dn.ret1 rfl rfl fun w hs => ⟨(), ?_, by trivial, by first | exact hs | (refine hs.conv ?_; exact ent_)⟩
    simp only [gateOk, e1, e2, h1, h2, h3, h4]; rfl
  | true =>
  refine go ?_
  refine Ol.eff rfl rfl rfl (Eff.call (R := ?_) (ref2_Privs g.f_Need) rfl ?_ ?_)
  rotate_left
  · exact tkl_
  rintro _ -
  dsimp only [List.cons_append, List.nil_append]
  cases h5 : decide (g.f_Need < 65536) with
  | false =>
    refine go ?_
    refine Dn.ret1 rfl rfl fun w hs => ⟨(), ?_, by trivial, by first | exact hs | (refine hs.conv ?_; exact ent_)⟩
    simp only [gateOk, e1, e2, h1, h2, h3, h4, h5]; rfl
  | true =>
  refine go ?_
  cases h6 : decide (0 ≤ g.f_Quota) with
  | false =>
    refine go ?_
    refine Dn.ret1 rfl rfl fun w hs => ⟨(), ?_, by trivial, by first | exact hs | (refine hs.conv ?_; exact ent_)⟩
    simp only [gateOk, e1, e2, h1, h2, h3, h4, h5, h6]; rfl
  | true =>
    refine go ?_
    refine Dn.ret1 rfl rfl fun w hs => ⟨(), ?_, by trivial, by first | exact hs | (refine hs.conv ?_; exact ent_)⟩
    simp only [gateOk, e1, e2, h1, h2, h3, h4, h5, h6]; rfl
end Go.Proofs.Ytefmjphokgnobaa

