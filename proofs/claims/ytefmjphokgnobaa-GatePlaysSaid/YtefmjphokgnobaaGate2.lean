/- Contracts of functions of the program, proved in a small separation logic. Conditions: those that each theorem states. -/
import Derived.Test.YtefmjphokgnobaaGate1
--LAT
namespace Go.Proofs.Ytefmjphokgnobaa
open Go Go.Sl
set_option maxHeartbeats 4000000
set_option maxRecDepth 100000
set_option linter.unusedVariables false
-- FN slices.Clone[[]bool,bool]
theorem clone_bool (r : Bool) (v : Value) (xs : List Bool) (hm : xs.length ≤ 1048576) :
    Sp Try.prog 70 [v] [slB r eBool v xs] (fun _ : Value => True) id (fun v' => [slB r eBool v xs, sl eBool v' xs]) := by
  refine Sp.intro (n := 8) Try.func70 rfl rfl fun w0 R => ?_
  dsimp only [List.cons_append, List.nil_append, envOf]
  refine go ?_
  refine Cd.know (fun w hw => nilS_nil (Tk.sat (A := (slB r eBool v xs)) (by exact tk_) hw)) fun hn => ?_
  cases hv : nilS v with
  | true =>
    obtain ⟨rfl, rfl⟩ := hn hv
    refine go ?_
    refine Dn.ret1 rfl rfl fun w hs => ⟨.slice none 0 0, rfl, trivial, hs.conv (show ents _ (slB r eBool (.slice none 0 0) [] :: sl eBool (.slice none 0 0) [] :: R) from by exact ent_)⟩
  | false =>
    repeat(first|(with_reducible refine Ol.g ?_;first|(refine Ol.q rfl rfl rfl ?_ ?_;(first|exact True.intro|omega|(unfold in64;omega)|(simp only [List.length_append,List.length_cons,List.length_nil,List.length_set];omega)))|with_reducible refine Ol.nil ?_|refine Ol.skip rfl rfl ?_|refine Ol.eff rfl rfl rfl (Eff.x (Qx.build rfl) ?_)|refine Ol.skip0 rfl ?_|(refine Ol.ga ?_;dsimp only [List.append])|refine Ol.eff rfl rfl rfl (Eff.alloc fun _ => ?_)|refine Ol.eff rfl rfl rfl (Eff.box fun _ => ?_)|refine Ol.eff0 rfl rfl (Eff.store rfl rfl ?_)|refine Ol.eff rfl rfl rfl (Eff.bslice rfl rfl fun _ => ?_)|(refine Ol.eff0 rfl rfl (Eff.storeE rfl ?_ ?_);(first|exact True.intro|omega|(unfold in64;omega)|(simp only [List.length_append,List.length_cons,List.length_nil,List.length_set];omega)))|(refine Ol.eff rfl rfl rfl (Eff.append1 rfl ?_ fun _ => ?_);(first|exact True.intro|omega|(unfold in64;omega)|(simp only [List.length_append,List.length_cons,List.length_nil,List.length_set];omega))))|(with_reducible refine Cd.g ?_;first|with_reducible refine Cd.seq ?_|with_reducible refine Cd.region ?_|with_reducible refine Cd.skip ?_|with_reducible refine Cd.ret ?_|with_reducible refine Cd.block ?_|with_reducible refine Cd.exit ?_|(with_reducible refine Cd.condg ?_;first|refine Cd.cond_t rfl ?_|refine Cd.cond_f rfl ?_))|(with_reducible refine Dn.g ?_;first|with_reducible refine Dn.then ?_|with_reducible refine Dn.ret_then ?_|with_reducible refine Dn.ret_block ?_|with_reducible refine Dn.block ?_|with_reducible refine Dn.exit_then ?_|with_reducible refine Dn.exit_at ?_|with_reducible refine Dn.exit_by rfl ?_))
    refine Ol.eff rfl rfl rfl (Eff.appendR rfl ?_ fun u => ?_)
    · simp; omega
    refine go ?_
    refine Dn.ret1 rfl rfl fun w hs => ⟨u, rfl, trivial, hs.conv (show ents _ (slB r eBool v xs :: sl eBool u xs :: R) from by exact ent_)⟩
-- FN slices.Clone[[]confidant/api.Gate,confidant/api.Gate]
theorem clone_gate (r : Bool) (v : Value) (xs : List S_api_Gate) (hm : xs.length ≤ 1048576) :
    Sp Try.prog 42 [v] [slB r e_api_Gate v xs] (fun _ : Value => True) id (fun v' => [slB r e_api_Gate v xs, sl e_api_Gate v' xs]) := by
  refine Sp.intro (n := 8) Try.func42 rfl rfl fun w0 R => ?_
  dsimp only [List.cons_append, List.nil_append, envOf]
  refine go ?_
  refine Cd.know (fun w hw => nilS_nil (Tk.sat (A := (slB r e_api_Gate v xs)) (by exact tk_) hw)) fun hn => ?_
  cases hv : nilS v with
  | true =>
    obtain ⟨rfl, rfl⟩ := hn hv
    refine go ?_
    refine Dn.ret1 rfl rfl fun w hs => ⟨.slice none 0 0, rfl, trivial, hs.conv (show ents _ (slB r e_api_Gate (.slice none 0 0) [] :: sl e_api_Gate (.slice none 0 0) [] :: R) from by exact ent_)⟩
  | false =>
    repeat(first|(with_reducible refine Ol.g ?_;first|(refine Ol.q rfl rfl rfl ?_ ?_;(first|exact True.intro|omega|(unfold in64;omega)|(simp only [List.length_append,List.length_cons,List.length_nil,List.length_set];omega)))|with_reducible refine Ol.nil ?_|refine Ol.skip rfl rfl ?_|refine Ol.eff rfl rfl rfl (Eff.x (Qx.build rfl) ?_)|refine Ol.skip0 rfl ?_|(refine Ol.ga ?_;dsimp only [List.append])|refine Ol.eff rfl rfl rfl (Eff.alloc fun _ => ?_)|refine Ol.eff rfl rfl rfl (Eff.box fun _ => ?_)|refine Ol.eff0 rfl rfl (Eff.store rfl rfl ?_)|refine Ol.eff rfl rfl rfl (Eff.bslice rfl rfl fun _ => ?_)|(refine Ol.eff0 rfl rfl (Eff.storeE rfl ?_ ?_);(first|exact True.intro|omega|(unfold in64;omega)|(simp only [List.length_append,List.length_cons,List.length_nil,List.length_set];omega)))|(refine Ol.eff rfl rfl rfl (Eff.append1 rfl ?_ fun _ => ?_);(first|exact True.intro|omega|(unfold in64;omega)|(simp only [List.length_append,List.length_cons,List.length_nil,List.length_set];omega))))|(with_reducible refine Cd.g ?_;first|with_reducible refine Cd.seq ?_|with_reducible refine Cd.region ?_|with_reducible refine Cd.skip ?_|with_reducible refine Cd.ret ?_|with_reducible refine Cd.block ?_|with_reducible refine Cd.exit ?_|(with_reducible refine Cd.condg ?_;first|refine Cd.cond_t rfl ?_|refine Cd.cond_f rfl ?_))|(with_reducible refine Dn.g ?_;first|with_reducible refine Dn.then ?_|with_reducible refine Dn.ret_then ?_|with_reducible refine Dn.ret_block ?_|with_reducible refine Dn.block ?_|with_reducible refine Dn.exit_then ?_|with_reducible refine Dn.exit_at ?_|with_reducible refine Dn.exit_by rfl ?_))
    refine Ol.eff rfl rfl rfl (Eff.appendR rfl ?_ fun u => ?_)
    · simp; omega
    refine go ?_
    refine Dn.ret1 rfl rfl fun w hs => ⟨u, rfl, trivial, hs.conv (show ents _ (slB r e_api_Gate v xs :: sl e_api_Gate u xs :: R) from by exact ent_)⟩
-- FN confidant/gate.New$1
theorem gate_New1 (a b : Int) :
    Sp Try.prog 41 [.int .i64 a, .int .i64 b] [] (fun _ : Unit => True) (fun _ => .bool false) (fun _ => []) := by
  refine Sp.intro (n := 5) Try.func41 rfl rfl fun w0 R => ?_
  dsimp only [List.cons_append, List.nil_append, envOf]
  refine go ?_
  refine Dn.ret1 rfl rfl fun w hs => ⟨(), ?_, by trivial, by first | exact hs | (refine hs.conv ?_; exact ent_)⟩
  rfl
end Go.Proofs.Ytefmjphokgnobaa

